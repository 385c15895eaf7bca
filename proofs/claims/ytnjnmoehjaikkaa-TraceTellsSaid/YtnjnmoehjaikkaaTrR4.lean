/- trace.Last and trace.Count. Condition: the events lie in memory. -/
import Derived.Test.YtnjnmoehjaikkaaTrR3
namespace Go.Proofs.Ytnjnmoehjaikkaa.Tr
open Go Go.RowKit Base
set_option linter.unusedVariables false
set_option linter.unusedSimpArgs false

section
variable {w : World}

theorem last_out (x0 : Ext w) {A : Option Addr} {l : List Ev} {lc : Nat} (hll : l.length ≤ 140737488351232) {i : Int} (h : i < 0 ∨ (l.length : Int) ≤ i) :
    Calls Try.prog 10 #[.slice A l.length lc, .int .i64 i] (w.ext x0) fun r w' => r = .returned (.tuple #[.int .i64 0, .int .i64 3]) ∧ ∃ x : Ext w, w' = w.ext x := by
  cases h1 : decide (i < 0)
  · have h2 : decide ((l.length : Int) ≤ i) = true := by simp at h1 ⊢; omega
    go_enter Try.func10, Try.ntmps10
    go_wp2
    go_ret2
    exact ⟨rfl, _, rfl⟩
  · go_enter Try.func10, Try.ntmps10
    go_wp2
    go_ret2
    exact ⟨rfl, _, rfl⟩

theorem count_out (x0 : Ext w) {A : Option Addr} {l : List Ev} {lc : Nat} (hll : l.length ≤ 140737488351232) {i kd o : Int} (h : i < 0 ∨ (l.length : Int) ≤ i) :
    Calls Try.prog 11 #[.slice A l.length lc, .int .i64 i, .int .i64 kd, .int .i64 o] (w.ext x0) fun r w' => r = .returned (.tuple #[.int .i64 0, .int .i64 3]) ∧ ∃ x : Ext w, w' = w.ext x := by
  cases h1 : decide (i < 0)
  · have h2 : decide ((l.length : Int) ≤ i) = true := by simp at h1 ⊢; omega
    go_enter Try.func11, Try.ntmps11
    go_wp2
    go_ret2
    exact ⟨rfl, _, rfl⟩
  · go_enter Try.func11, Try.ntmps11
    go_wp2
    go_ret2
    exact ⟨rfl, _, rfl⟩

set_option maxHeartbeats 4000000 in
theorem last_in (x0 : Ext w) {A : Option Addr} {l : List Ev} {lc : Nat} (hE : EvsAt w A l) (hlc : l.length ≤ lc) (hll : l.length ≤ 140737488351232) {i : Int} (h0 : 0 ≤ i) (h1 : i < l.length) :
    Calls Try.prog 10 #[.slice A l.length lc, .int .i64 i] (w.ext x0) fun r w' => r = .returned (.tuple #[.int .i64 (lastFrom l (evAt l i).g i.toNat), .int .i64 0]) ∧ ∃ x : Ext w, w' = w.ext x := by
  obtain ⟨n, rfl⟩ := Int.eq_ofNat_of_zero_le h0
  obtain ⟨eb, eo, rfl⟩ := hE.some (by omega)
  obtain ⟨hb, q0, _, _, _, _⟩ := hE.at2 h0 h1
  simp only [Int.toNat_natCast] at q0 ⊢
  have hnc : n ≤ lc := by omega
  have hnl : n < l.length := by omega
  have d1 : decide ((n : Int) < 0) = false := decide_eq_false (by omega)
  have d2 : decide ((l.length : Int) ≤ n) = false := decide_eq_false (by omega)
  go_enter Try.func10, Try.ntmps10
  go_wp2
  go_loopw [6] (fun i wr => ∃ (k : Nat), k ≤ n ∧ i = .int .i64 ((k : Int) - 1) ∧ (∃ x : Ext w, wr = w.ext x) ∧ lastFrom l (evAt l n).g n = lastFrom l (evAt l n).g k) (fun i _ => (intOf i + 1).toNat)
  case atStart => exact ⟨n, Nat.le_refl _, rfl, ⟨_, rfl⟩, rfl⟩
  case round =>
    obtain ⟨k, hk, rfl, ⟨x, rfl⟩, hI⟩ := hrel
    have HI := Lib.hid hI
    clear hI
    cases k with
    | zero =>
      have d3 : decide ((0 : Int) ≤ (0 : Int) - 1) = false := by decide
      have HI' : Hid (lastFrom l (evAt l n).g n = -1) := HI.out
      simp only [Int.natCast_zero, Int.zero_sub]
      go_wp2
      go_ret2
      exact ⟨ret_ii HI'.out.symm rfl, _, rfl⟩
    | succ k =>
      have e1 : ((k + 1 : Nat) : Int) - 1 = k := by omega
      simp only [e1]
      have HS : Hid (lastFrom l (evAt l n).g (k + 1) = if (evAt l k).g == (evAt l n).g then (k : Int) else lastFrom l (evAt l n).g k) := rfl
      obtain ⟨_, p0, _, _, _, _⟩ := hE.at2 (i := k) (by omega) (by omega)
      simp only [Int.toNat_natCast] at p0
      have hkl : k < l.length := by omega
      clear e1
      cases hc : ((evAt l k).g == (evAt l n).g)
      · go_wp2
        refine region_at (by kernel_rfl) (by kernel_rfl) ?_
        repeat (go_big_quiet_step (fail))
        refine wpQuiet_nil ?_
        rintro _ ⟨x, rfl⟩
        go_wp2
        go_roundw
        case rel => exact ⟨k, by omega, by go_num, ⟨_, rfl⟩, by rw [HI.out, HS.out, hc]; rfl⟩
        case measure => simp [intOf] <;> omega
      · go_wp2
        refine region_at (by kernel_rfl) (by kernel_rfl) ?_
        repeat (go_big_quiet_step (fail))
        refine wpQuiet_nil ?_
        rintro _ ⟨x, rfl⟩
        go_wp2
        go_ret2
        exact ⟨ret_ii (by rw [HI.out, HS.out, hc]; rfl) rfl, _, rfl⟩

set_option maxHeartbeats 4000000 in
theorem count_in (x0 : Ext w) {A : Option Addr} {l : List Ev} {lc : Nat} (hE : EvsAt w A l) (hlc : l.length ≤ lc) (hll : l.length ≤ 140737488351232) {i : Int} (h0 : 0 ≤ i) (h1 : i < l.length) (kd o : Int) :
    Calls Try.prog 11 #[.slice A l.length lc, .int .i64 i, .int .i64 kd, .int .i64 o] (w.ext x0) fun r w' => r = .returned (.tuple #[.int .i64 (cntTo l kd o i.toNat), .int .i64 0]) ∧ ∃ x : Ext w, w' = w.ext x := by
  obtain ⟨n, rfl⟩ := Int.eq_ofNat_of_zero_le h0
  obtain ⟨eb, eo, rfl⟩ := hE.some (by omega)
  simp only [Int.toNat_natCast]
  have hnc : n ≤ lc := by omega
  have hnl : n < l.length := by omega
  have d1 : decide ((n : Int) < 0) = false := decide_eq_false (by omega)
  have d2 : decide ((l.length : Int) ≤ n) = false := decide_eq_false (by omega)
  go_enter Try.func11, Try.ntmps11
  go_wp2
  go_loopw [10, 25] (fun out i wr => ∃ (k : Nat) (x : Ext w), k ≤ n ∧ i = .int .i64 k ∧ wr = w.ext x ∧ out = .int .i64 (cntTo l kd o k)) (fun _ i _ => n - (intOf i).toNat)
  case atStart => exact ⟨0, x0, Nat.zero_le _, rfl, rfl, rfl⟩
  case round =>
    obtain ⟨k, x, hk, rfl, rfl, rfl⟩ := hrel
    by_cases hlt : k < n
    · obtain ⟨_, p0, p1, p2, p3, p4⟩ := hE.at2 (i := k) (by omega) (by omega)
      simp only [Int.toNat_natCast] at p0 p1 p2 p3 p4
      have HS : Hid (cntTo l kd o (k + 1) = cntTo l kd o k + if ((evAt l k).kind == kd && (evAt l k).obj == o) = true then 1 else 0) := rfl
      have hkl : k < l.length := by omega
      have hb := cntTo_le l kd o k
      generalize evAt l k = e at *
      obtain ⟨w1, x1, hw1, ⟨y, hy⟩, hsz, f0, f1, f2, f3, f4⟩ := boxEv' (w.ext x) e
      have hy' : ∃ y : Ext w, w1 = w.ext y := ⟨x.trans y, hy⟩
      clear hy
      cases hc : (e.kind == kd)
      · go_wp2
        go_roundw
        case rel =>
          obtain ⟨y, rfl⟩ := hy'
          exact ⟨k + 1, y.trans _, by omega, by go_num, rfl, by rw [HS.out, hc]; simp⟩
        case measure => simp [intOf]; omega
      · cases hd : (e.obj == o)
        all_goals
          go_wp2
          go_roundw
          case rel =>
            obtain ⟨y, rfl⟩ := hy'
            exact ⟨k + 1, y.trans _, by omega, by go_num, rfl, by rw [HS.out, hc, hd]; simp⟩
          case measure => simp [intOf]; omega
    · obtain rfl : k = n := by omega
      go_wp2
      go_ret2
      exact ⟨rfl, _, rfl⟩
end
end Go.Proofs.Ytnjnmoehjaikkaa.Tr
