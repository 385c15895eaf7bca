/- plaitref06: Instrs, selects and Same, of two that are the same. Condition: both lie in memory. -/
import Derived.Test.YtlekjobicpnafaaPgRWrong
namespace Go.Proofs.Ytlekjobicpnafaa.Pg
open Go Go.RowKit Base
set_option linter.unusedVariables false
set_option linter.unusedSimpArgs false

section
variable {w : World}
set_option maxHeartbeats 4000000 in
theorem instrs_same (x0 : Ext w) {A B : Option Addr} {l : List Ins} {ca cb : Nat} (hA : RowAt 3 InsE (Old w) w A l) (hB : RowAt 3 InsE (Old w) w B l) (ha : l.length ≤ ca) (hb : l.length ≤ cb) (hl : l.length ≤ 140737488351232) :
    Calls Try.prog 24 #[.slice A l.length ca, .slice B l.length cb] (w.ext x0) fun r w' => r = .returned (.bool true) ∧ ∃ y : Ext w, w' = w.ext y := by
  go_enter Try.func24, Try.ntmps24
  go_wp2
  go_loopw [13] (fun i wr => ∃ (k : Nat) (x : Ext w), k ≤ l.length ∧ i = .int .i64 k ∧ wr = w.ext x) (fun i _ => l.length - (intOf i).toNat)
  case atStart => exact ⟨0, _, Nat.zero_le _, rfl, rfl⟩
  case round =>
    obtain ⟨k, x, hk, rfl, rfl⟩ := hrel
    by_cases hlt : k < l.length
    · obtain ⟨ab, ao, rfl, _⟩ := hA.addr (by omega)
      obtain ⟨bb, bo, rfl, _⟩ := hB.addr (by omega)
      obtain ⟨a0, a1, a2⟩ := ins_at hA hlt
      obtain ⟨b0, b1, b2⟩ := ins_at hB hlt
      clear hA hB
      generalize el l k = i at *
      go_wp2
      refine region_at (by kernel_rfl) (by kernel_rfl) ?_
      repeat (go_big_quiet_step (fail))
      refine wpQuiet_nil ?_
      rintro _ ⟨x, rfl⟩
      go_wp2
      go_roundw
      case rel => exact ⟨k + 1, _, by omega, by go_num, rfl⟩
      case measure => simp [intOf]; omega
    · clear hA hB
      go_wp2
      go_ret
      exact ⟨rfl, _, rfl⟩

set_option maxHeartbeats 4000000 in
theorem selects_same (x0 : Ext w) {A B : Option Addr} {l : List Sel} {ca cb : Nat} (hA : RowAt 2 SelE (Old w) w A l) (hB : RowAt 2 SelE (Old w) w B l) (ha : l.length ≤ ca) (hb : l.length ≤ cb) (hl : l.length ≤ 140737488351232) :
    Calls Try.prog 23 #[.slice A l.length ca, .slice B l.length cb] (w.ext x0) fun r w' => r = .returned (.bool true) ∧ ∃ y : Ext w, w' = w.ext y := by
  go_enter Try.func23, Try.ntmps23
  go_wp2
  go_loopw [14] (fun i wr => ∃ (k : Nat) (x : Ext w), k ≤ l.length ∧ i = .int .i64 k ∧ wr = w.ext x) (fun i _ => l.length - (intOf i).toNat)
  case atStart => exact ⟨0, _, Nat.zero_le _, rfl, rfl⟩
  case round =>
    obtain ⟨k, x, hk, rfl, rfl⟩ := hrel
    by_cases hlt : k < l.length
    · obtain ⟨ab, ao, rfl, _⟩ := hA.addr (by omega)
      obtain ⟨bb, bo, rfl, _⟩ := hB.addr (by omega)
      obtain ⟨C1, p1, hp1, hq1, hr1, a0, a1⟩ := sel_at hA hlt
      obtain ⟨C2, p2, hp2, hq2, hr2, b0, b1⟩ := sel_at hB hlt
      clear hA hB
      generalize el l k = s at *
      go_wp2
      refine region_at (by kernel_rfl) (by kernel_rfl) ?_
      repeat (go_big_quiet_step (fail))
      refine wpQuiet_nil ?_
      rintro _ ⟨x, rfl⟩
      go_wp2
      go_loopw [49] (fun i wr => ∃ (j : Nat) (x : Ext w), j ≤ s.cases.length ∧ i = .int .i64 j ∧ wr = w.ext x) (fun i _ => s.cases.length - (intOf i).toNat)
      case atStart => exact ⟨0, _, Nat.zero_le _, rfl, rfl⟩
      case round =>
        obtain ⟨j, x, hj, rfl, rfl⟩ := hrel
        by_cases hjl : j < s.cases.length
        · obtain ⟨cb1, co1, rfl, _⟩ := hr1.addr (by omega)
          obtain ⟨cb2, co2, rfl, _⟩ := hr2.addr (by omega)
          obtain ⟨c0, c1⟩ := cse_at hr1 hjl
          obtain ⟨d0, d1⟩ := cse_at hr2 hjl
          clear hr1 hr2
          generalize el s.cases j = c at *
          go_wp2
          refine region_at (by kernel_rfl) (by kernel_rfl) ?_
          repeat (go_big_quiet_step (fail))
          refine wpQuiet_nil ?_
          rintro _ ⟨x, rfl⟩
          go_wp2
          go_roundw
          case rel => exact ⟨j + 1, _, by omega, by go_num, rfl⟩
          case measure => simp [intOf]; omega
        · clear hr1 hr2
          go_wp2
          go_roundw
          case rel => exact ⟨k + 1, _, by omega, by go_num, rfl⟩
          case measure => simp [intOf]; omega
    · clear hA hB
      go_wp2
      go_ret
      exact ⟨rfl, _, rfl⟩

set_option maxHeartbeats 4000000 in
theorem same_same (x0 : Ext w) {p : Prg} {L M : PL} (hP : PrgAt (Old w) w L p) (hQ : PrgAt (Old w) w M p) :
    Calls Try.prog 11 #[p.val L, p.val M] (w.ext x0) fun r w' => r = .returned (.bool true) ∧ ∃ y : Ext w, w' = w.ext y := by
  obtain ⟨cA, sA, bA, cc, sc, bc⟩ := L
  obtain ⟨cB, sB, bB, cd, sd, bd⟩ := M
  obtain ⟨w1, x1, hw1, ⟨y, hy⟩, hsz, f0, f1, f2, f3, f4, f5⟩ := boxP (w.ext x0) p ⟨cA, sA, bA, cc, sc, bc⟩
  have hy' : ∃ y : Ext w, w1 = w.ext y := ⟨x0.trans y, hy⟩
  clear hy
  obtain ⟨w2, x2, hw2, ⟨y, hy⟩, hsz2, g0, g1, g2, g3, g4, g5⟩ := boxP (w1.ext x1) p ⟨cB, sB, bB, cd, sd, bd⟩
  have hz : ∃ y : Ext w1, w2 = w1.ext y := ⟨x1.trans y, hy⟩
  have hz' := ex_trans hy' hz
  replace f0 := lift_fact hz f0
  replace f1 := lift_fact hz f1
  replace f2 := lift_fact hz f2
  replace f3 := lift_fact hz f3
  replace f4 := lift_fact hz f4
  replace f5 := lift_fact hz f5
  clear hy
  simp only at hw1 hw2 f0 f1 f2 f3 f4 f5 g0 g1 g2 g3 g4 g5
  replace hP := hP.mono (Agree.of_ex hz')
  replace hQ := hQ.mono (Agree.of_ex hz')
  obtain ⟨hc1, hs1, hb1, l1, l2, l3, m1, m2, m3⟩ := hP
  obtain ⟨hc2, hs2, hb2, n1, n2, n3, o1, o2, o3⟩ := hQ
  simp only at hc1 hs1 hb1 l1 l2 l3 m1 m2 m3 hc2 hs2 hb2 n1 n2 n3 o1 o2 o3
  have hS : ∀ x : Ext w2, _ := fun x => selects_same x hs1 hs2 l2 n2 (by omega)
  have q1 : p.caps.length ≤ 140737488351232 := by omega
  have q2 : p.sels.length ≤ 140737488351232 := by omega
  have q3 : p.blocks.length ≤ 140737488351232 := by omega
  clear hs1 hs2
  unfold Prg.val
  simp only
  go_enter Try.func11, Try.ntmps11
  go_wp2_with (go_at_call 23; refine (hS _).mono ?_; rintro _ _ ⟨rfl, z, rfl⟩)
  go_loopw [55] (fun i wr => ∃ (k : Nat) (x : Ext w2), k ≤ p.caps.length ∧ i = .int .i64 k ∧ wr = w2.ext x) (fun i _ => p.caps.length - (intOf i).toNat)
  case atStart => exact ⟨0, _, Nat.zero_le _, rfl, rfl⟩
  case round =>
    obtain ⟨k, x, hk, rfl, rfl⟩ := hrel
    by_cases hlt : k < p.caps.length
    · obtain ⟨ab, ao, rfl, _⟩ := hc1.addr (by omega)
      obtain ⟨bb, bo, rfl, _⟩ := hc2.addr (by omega)
      have a0 := int_at hc1 hlt
      have b0 := int_at hc2 hlt
      clear hc1 hc2 hb1 hb2 hS
      generalize el p.caps k = n at *
      go_wp2
      refine region_at (by kernel_rfl) (by kernel_rfl) ?_
      repeat (go_big_quiet_step (fail))
      refine wpQuiet_nil ?_
      rintro _ ⟨x, rfl⟩
      go_wp2
      go_roundw
      case rel => exact ⟨k + 1, _, by omega, by go_num, rfl⟩
      case measure => simp [intOf]; omega
    · clear hc1 hc2 hS
      go_wp2
      go_loopw [73] (fun i wr => ∃ (k : Nat) (x : Ext w2), k ≤ p.blocks.length ∧ i = .int .i64 k ∧ wr = w2.ext x) (fun i _ => p.blocks.length - (intOf i).toNat)
      case atStart => exact ⟨0, _, Nat.zero_le _, rfl, rfl⟩
      case round =>
        obtain ⟨k, x, hk, rfl, rfl⟩ := hrel
        by_cases hlt : k < p.blocks.length
        · obtain ⟨ab, ao, rfl, _⟩ := hb1.addr (by omega)
          obtain ⟨bb, bo, rfl, _⟩ := hb2.addr (by omega)
          obtain ⟨A1, p1, hp1, hq1, hr1, a0⟩ := blk_at hb1 hlt
          obtain ⟨A2, p2, hp2, hq2, hr2, b0⟩ := blk_at hb2 hlt
          clear hb1 hb2
          generalize el p.blocks k = l at *
          have hI : ∀ x : Ext w2, _ := fun x => instrs_same x hr1 hr2 hp1 hp2 (by omega)
          clear hr1 hr2
          go_wp2
          refine region_at (by kernel_rfl) (by kernel_rfl) ?_
          repeat (go_big_quiet_step (exact hI _))
          refine wpQuiet_nil ?_
          rintro _ ⟨x, rfl⟩
          go_wp2
          go_roundw
          case rel => exact ⟨k + 1, _, by omega, by go_num, rfl⟩
          case measure => simp [intOf]; omega
        · clear hb1 hb2
          go_wp2
          go_ret
          exact ⟨rfl, ex_ext _ hz'⟩
end
end Go.Proofs.Ytlekjobicpnafaa.Pg
