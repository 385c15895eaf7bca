/- prog.Wrong and Right. Condition: the program lies in memory. -/
import Derived.Test.YtlekjobicpnafaaPgTab
namespace Go.Proofs.Ytlekjobicpnafaa.Pg
open Go Go.RowKit Base
set_option linter.unusedVariables false
set_option linter.unusedSimpArgs false

def insBad (p : Prg) (n : Nat) (i : Ins) : Bool := !insOk p n i
def blkBad (p : Prg) (l : List Ins) : Bool := decide ((24 : Int) < l.length) || l.any (insBad p l.length)
def rightF (p : Prg) : Bool := tabOk p && !p.blocks.any (blkBad p)

theorem tabOk_B {p : Prg} {L : PL} {S : Nat → Prop} {w : World} (hP : PrgAt S w L p) (h : tabOk p = true) : PrgB p := by
  obtain ⟨_, _, _, h1, h2, h3, h4, h5, h6⟩ := hP
  simp [tabOk, inB] at h
  constructor <;> omega

section
variable {w : World}
set_option maxHeartbeats 2000000 in
theorem wrong_tab (x0 : Ext w) {p : Prg} {L : PL} (hP : PrgAt (Old w) w L p) (ht : tabOk p = false) :
    Calls Try.prog 27 #[p.val L] (w.ext x0) fun r w' => (∃ b k e, r = .returned (.tuple #[.int .i64 b, .int .i64 k, .int .i64 e]) ∧ (e != 0) = true) ∧ ∃ y : Ext w, w' = w.ext y := by
  obtain ⟨w1, x1, hw1, ⟨y, hy⟩, hsz, f0, f1, f2, f3, f4, f5⟩ := boxP (w.ext x0) p L
  have hy' : ∃ y : Ext w, w1 = w.ext y := ⟨x0.trans y, hy⟩
  clear hy
  have hT : ∀ x : Ext w1, _ := fun x => tables_any x (hP.mono (Agree.of_ex hy')) ht
  clear hP
  unfold Prg.val at hT ⊢
  go_enter Try.func27, Try.ntmps27
  go_wp2_with (go_at_call 42; refine (hT _).mono ?_; rintro _ _ ⟨⟨ri, re, rfl, hre⟩, z, rfl⟩)
  go_ret3
  exact ⟨⟨_, _, _, rfl, by assumption⟩, ex_ext _ hy'⟩

set_option maxHeartbeats 1000000 in
theorem wrong_ok (x0 : Ext w) {p : Prg} {L : PL} (hP : PrgAt (Old w) w L p) (ht : tabOk p = true) {v : Bool} (hv : p.blocks.any (blkBad p) = v) :
    Calls Try.prog 27 #[p.val L] (w.ext x0) fun r w' => (∃ b k e, r = .returned (.tuple #[.int .i64 b, .int .i64 k, .int .i64 e]) ∧ (e != 0) = v) ∧ ∃ y : Ext w, w' = w.ext y := by
  obtain ⟨cA, sA, bA, cc, sc, bc⟩ := L
  obtain ⟨w1, x1, hw1, ⟨y, hy⟩, hsz, f0, f1, f2, f3, f4, f5⟩ := boxP (w.ext x0) p ⟨cA, sA, bA, cc, sc, bc⟩
  have hy' : ∃ y : Ext w, w1 = w.ext y := ⟨x0.trans y, hy⟩
  clear hy
  simp only at hw1 f0 f1 f2 f3 f4 f5
  have hT : ∀ x : Ext w1, _ := fun x => tables_any x (hP.mono (Agree.of_ex hy')) ht
  have B := tabOk_B hP ht
  have hblocks := hP.blocks.mono BlkE.mono (Agree.of_ex hy')
  have hbc := hP.bc
  simp only at hblocks hbc
  have hbl : p.blocks.length ≤ 140737488351232 := by have := hP.bc; have := hP.bm; omega
  clear hP
  have HV := Lib.hid hv
  clear hv ht
  unfold Prg.val at hT ⊢
  simp only at hT ⊢
  go_enter Try.func27, Try.ntmps27
  go_wp2_with (go_at_call 42; refine (hT _).mono ?_; rintro _ _ ⟨⟨ri, re, rfl, hre⟩, z, rfl⟩; simp only [Bool.not_true] at hre)
  clear hT
  go_loopw [24] (fun i wr => ∃ (k : Nat) (x : Ext w1), k ≤ p.blocks.length ∧ i = .int .i64 k ∧ wr = w1.ext x ∧ p.blocks.any (blkBad p) = (p.blocks.drop k).any (blkBad p)) (fun i _ => p.blocks.length - (intOf i).toNat)
  case atStart => exact ⟨0, _, Nat.zero_le _, rfl, rfl, rfl⟩
  case round =>
    obtain ⟨k, x, hk, rfl, rfl, hI⟩ := hrel
    by_cases hlt : k < p.blocks.length
    · obtain ⟨sb, so, rfl, _⟩ := hblocks.addr (by omega)
      obtain ⟨A, cap, hcap, hcap2, hrow, g0⟩ := blk_at hblocks hlt
      have HS := Lib.hid (any_drop (f := blkBad p) hlt)
      have HI := Lib.hid hI
      clear hI
      generalize el p.blocks k = l at *
      clear hblocks
      cases e1 : decide ((24 : Int) < l.length)
      · have HB : Hid (blkBad p l = l.any (insBad p l.length)) := by simp only [Hid, blkBad, e1]; rfl
        go_wp2
        go_loopw [35] (fun i wr => ∃ (j : Nat) (x : Ext w1), j ≤ l.length ∧ i = .int .i64 j ∧ wr = w1.ext x ∧ l.any (insBad p l.length) = (l.drop j).any (insBad p l.length)) (fun i _ => l.length - (intOf i).toNat)
        case atStart => exact ⟨0, _, Nat.zero_le _, rfl, rfl, rfl⟩
        case round =>
          obtain ⟨j, x, hj, rfl, rfl, hJ⟩ := hrel
          have HJ := Lib.hid hJ
          clear hJ
          by_cases hjl : j < l.length
          · obtain ⟨ib, io, rfl, _⟩ := hrow.addr (by omega)
            obtain ⟨q0, q1, q2⟩ := ins_at hrow hjl
            have HJS := Lib.hid (any_drop (f := insBad p l.length) hjl)
            generalize el l j = i at *
            obtain ⟨w2, x2, hw2, ⟨y2, hy2⟩, hsz2, r0, r1, r2⟩ := boxI (w1.ext x) i
            have hz : ∃ y : Ext w1, w2 = w1.ext y := ⟨x.trans y2, hy2⟩
            clear hy2
            have hz' := ex_trans hy' hz
            have f0' := lift_fact hz f0
            have f1' := lift_fact hz f1
            have f2' := lift_fact hz f2
            have f3' := lift_fact hz f3
            have f4' := lift_fact hz f4
            have f5' := lift_fact hz f5
            cases e2 : insOk p l.length i
            · have HN : Hid (insBad p l.length i = true) := by simp only [Hid, insBad, e2]; rfl
              have hc : ∀ x : Ext w2, _ := fun x => instr_any x B ⟨cA, sA, some ⟨sb, so, none⟩, cc, sc, bc⟩ (some ⟨ib, io, none⟩) l.length cap (by omega) i e2
              unfold Prg.val Ins.val at hc
              simp only at hc
              clear e2 hrow
              go_wp2_with (go_at_call 43; refine (hc _).mono ?_; rintro _ _ ⟨⟨re2, rfl, hre2⟩, z, rfl⟩; simp only [Bool.not_false] at hre2)
              go_ret3
              exact ⟨⟨_, _, _, rfl, by rw [← HV.out, HI.out, HS.out, HB.out, HJ.out, HJS.out, HN.out]; assumption⟩, ex_ext _ hz'⟩
            · have HN : Hid (insBad p l.length i = false) := by simp only [Hid, insBad, e2]; rfl
              have hc : ∀ x : Ext w2, _ := fun x => instr_any x B ⟨cA, sA, some ⟨sb, so, none⟩, cc, sc, bc⟩ (some ⟨ib, io, none⟩) l.length cap (by omega) i e2
              unfold Prg.val Ins.val at hc
              simp only at hc
              clear e2 hrow
              go_wp2_with (go_at_call 43; refine (hc _).mono ?_; rintro _ _ ⟨⟨re2, rfl, hre2⟩, z, rfl⟩; simp only [Bool.not_true] at hre2)
              go_roundw
              case rel =>
                obtain ⟨y3, rfl⟩ := hz
                exact ⟨j + 1, y3.trans z, by omega, by go_num, rfl, by rw [HJ.out, HJS.out, HN.out]; rfl⟩
              case measure => simp [intOf]; omega
          · have HE : Hid (l.any (insBad p l.length) = false) := by
              have := HJ.out
              rw [List.drop_eq_nil_of_le (by omega)] at this; exact this
            clear hrow HJ
            go_wp2
            go_roundw
            case rel => exact ⟨k + 1, _, by omega, by go_num, rfl, by rw [HI.out, HS.out, HB.out, HE.out]; rfl⟩
            case measure => simp [intOf]; omega
      · have HB : Hid (blkBad p l = true) := by simp only [Hid, blkBad, e1]; rfl
        clear hrow
        go_wp2
        go_ret3
        exact ⟨⟨_, _, _, rfl, by rw [← HV.out, HI.out, HS.out, HB.out]; rfl⟩, ex_ext _ hy'⟩
    · have HI : Hid (p.blocks.any (blkBad p) = false) := by
        rw [List.drop_eq_nil_of_le (by omega)] at hI; exact hI
      clear hI hblocks
      go_wp2
      go_ret3
      exact ⟨⟨_, _, _, rfl, by rw [← HV.out, HI.out]; rfl⟩, ex_ext _ hy'⟩

/-- prog.Right. -/
theorem right_any (x0 : Ext w) {p : Prg} {L : PL} (hP : PrgAt (Old w) w L p) {v : Bool} (hv : rightF p = v) :
    Calls Try.prog 14 #[p.val L] (w.ext x0) fun r w' => r = .returned (.bool v) ∧ ∃ y : Ext w, w' = w.ext y := by
  subst hv
  obtain ⟨w1, x1, hw1, ⟨y, hy⟩, hsz, f0, f1, f2, f3, f4, f5⟩ := boxP (w.ext x0) p L
  have hy' : ∃ y : Ext w, w1 = w.ext y := ⟨x0.trans y, hy⟩
  clear hy
  have hP1 := hP.mono (Agree.of_ex hy')
  have hW : ∀ x : Ext w1, Calls Try.prog 27 #[p.val L] (w1.ext x) fun r w' => (∃ b k e, r = .returned (.tuple #[.int .i64 b, .int .i64 k, .int .i64 e]) ∧ (e == 0) = rightF p) ∧ ∃ y : Ext w1, w' = w1.ext y := fun x => by
    cases ht : tabOk p
    · refine (wrong_tab x hP1 ht).mono ?_
      rintro _ _ ⟨⟨b, k, e, h1, h2⟩, h3⟩
      refine ⟨⟨b, k, e, h1, ?_⟩, h3⟩
      simp only [rightF, ht, Bool.false_and]
      simpa using h2
    · refine (wrong_ok x hP1 ht rfl).mono ?_
      rintro _ _ ⟨⟨b, k, e, h1, h2⟩, h3⟩
      refine ⟨⟨b, k, e, h1, ?_⟩, h3⟩
      simp only [rightF, ht, Bool.true_and, ← h2]
      cases h : (e == 0) <;> simp [bne, h]
  clear hP hP1
  unfold Prg.val at hW ⊢
  generalize rightF p = v at *
  go_enter Try.func14, Try.ntmps14
  go_wp2_with (go_at_call 27; refine (hW _).mono ?_; rintro _ _ ⟨⟨rb, rk, re, rfl, hre⟩, z, rfl⟩)
  go_ret
  exact ⟨ret_bool (by first | assumption | rfl), ex_ext _ hy'⟩
end
end Go.Proofs.Ytlekjobicpnafaa.Pg
