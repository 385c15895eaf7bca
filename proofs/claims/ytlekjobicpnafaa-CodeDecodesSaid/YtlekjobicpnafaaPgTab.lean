/- prog.tables, Wrong and Right. Condition: the program lies in memory. -/
import Derived.Test.YtlekjobicpnafaaPgSearch
namespace Go.Proofs.Ytlekjobicpnafaa.Pg
open Go Go.RowKit Base
set_option linter.unusedVariables false
set_option linter.unusedSimpArgs false

def selBad (n : Nat) (s : Sel) : Bool := decide ((4 : Int) < s.cases.length) || s.cases.any (chanBad n)
def tabOk (p : Prg) : Bool :=
  decide ((p.caps.length : Int) ≤ 4) && (inB p.mutexes 0 2 && (inB p.onces 0 2 && (inB p.vars 0 4 && (!decide ((4 : Int) < p.sels.length) && (inB p.blocks.length 1 6 && (!p.caps.any capBad && !p.sels.any (selBad p.caps.length)))))))

theorem any_drop {α : Type} [Inhabited α] {f : α → Bool} {xs : List α} {k : Nat} (hk : k < xs.length) : (xs.drop k).any f = (f (el xs k) || (xs.drop (k + 1)).any f) := by
  rw [drop_el hk, List.any_cons]

section
variable {w : World}

set_option maxHeartbeats 2000000 in
theorem tab_0 (x0 : Ext w) {p : Prg} {L : PL} (hP : PrgAt (Old w) w L p) (d1 : decide ((p.caps.length : Int) ≤ 4) = false) :
    Calls Try.prog 42 #[p.val L] (w.ext x0) fun r w' => (∃ i e, r = .returned (.tuple #[.int .i64 i, .int .i64 e]) ∧ (e != 0) = true) ∧ ∃ y : Ext w, w' = w.ext y := by
  obtain ⟨w1, x1, hw1, ⟨y, hy⟩, hsz, f0, f1, f2, f3, f4, f5⟩ := boxP (w.ext x0) p L
  have hy' : ∃ y : Ext w, w1 = w.ext y := ⟨x0.trans y, hy⟩
  clear hy
  have hcl : p.caps.length ≤ 140737488351232 := by have := hP.cc; have := hP.cm; omega
  have hsl : p.sels.length ≤ 140737488351232 := by have := hP.sc; have := hP.sm; omega
  have hbl : p.blocks.length ≤ 140737488351232 := by have := hP.bc; have := hP.bm; omega
  clear hP
  unfold Prg.val
  go_enter Try.func42, Try.ntmps42
  go_wp2
  go_ret2
  exact ⟨⟨_, _, rfl, rfl⟩, ex_ext _ hy'⟩

set_option maxHeartbeats 2000000 in
theorem tab_1 (x0 : Ext w) {p : Prg} {L : PL} (hP : PrgAt (Old w) w L p) (d1 : decide ((p.caps.length : Int) ≤ 4) = true) (c1 : inB p.mutexes 0 2 = false) :
    Calls Try.prog 42 #[p.val L] (w.ext x0) fun r w' => (∃ i e, r = .returned (.tuple #[.int .i64 i, .int .i64 e]) ∧ (e != 0) = true) ∧ ∃ y : Ext w, w' = w.ext y := by
  obtain ⟨w1, x1, hw1, ⟨y, hy⟩, hsz, f0, f1, f2, f3, f4, f5⟩ := boxP (w.ext x0) p L
  have hy' : ∃ y : Ext w, w1 = w.ext y := ⟨x0.trans y, hy⟩
  clear hy
  have hcl : p.caps.length ≤ 140737488351232 := by have := hP.cc; have := hP.cm; omega
  have hsl : p.sels.length ≤ 140737488351232 := by have := hP.sc; have := hP.sm; omega
  have hbl : p.blocks.length ≤ 140737488351232 := by have := hP.bc; have := hP.bm; omega
  clear hP
  unfold Prg.val
  go_enter Try.func42, Try.ntmps42
  go_wp2_with (first | (go_at_call 53; (with_reducible refine (in_is c1 _).mono ?_); rintro _ _ ⟨rfl, rfl⟩))
  go_ret2
  exact ⟨⟨_, _, rfl, rfl⟩, ex_ext _ hy'⟩

set_option maxHeartbeats 2000000 in
theorem tab_2 (x0 : Ext w) {p : Prg} {L : PL} (hP : PrgAt (Old w) w L p) (d1 : decide ((p.caps.length : Int) ≤ 4) = true) (c1 : inB p.mutexes 0 2 = true) (c2 : inB p.onces 0 2 = false) :
    Calls Try.prog 42 #[p.val L] (w.ext x0) fun r w' => (∃ i e, r = .returned (.tuple #[.int .i64 i, .int .i64 e]) ∧ (e != 0) = true) ∧ ∃ y : Ext w, w' = w.ext y := by
  obtain ⟨w1, x1, hw1, ⟨y, hy⟩, hsz, f0, f1, f2, f3, f4, f5⟩ := boxP (w.ext x0) p L
  have hy' : ∃ y : Ext w, w1 = w.ext y := ⟨x0.trans y, hy⟩
  clear hy
  have hcl : p.caps.length ≤ 140737488351232 := by have := hP.cc; have := hP.cm; omega
  have hsl : p.sels.length ≤ 140737488351232 := by have := hP.sc; have := hP.sm; omega
  have hbl : p.blocks.length ≤ 140737488351232 := by have := hP.bc; have := hP.bm; omega
  clear hP
  unfold Prg.val
  go_enter Try.func42, Try.ntmps42
  go_wp2_with (first | (go_at_call 53; (with_reducible refine (in_is c1 _).mono ?_); rintro _ _ ⟨rfl, rfl⟩) | (go_at_call 53; (with_reducible refine (in_is c2 _).mono ?_); rintro _ _ ⟨rfl, rfl⟩))
  go_ret2
  exact ⟨⟨_, _, rfl, rfl⟩, ex_ext _ hy'⟩

set_option maxHeartbeats 2000000 in
theorem tab_3 (x0 : Ext w) {p : Prg} {L : PL} (hP : PrgAt (Old w) w L p) (d1 : decide ((p.caps.length : Int) ≤ 4) = true) (c1 : inB p.mutexes 0 2 = true) (c2 : inB p.onces 0 2 = true) (c3 : inB p.vars 0 4 = false) :
    Calls Try.prog 42 #[p.val L] (w.ext x0) fun r w' => (∃ i e, r = .returned (.tuple #[.int .i64 i, .int .i64 e]) ∧ (e != 0) = true) ∧ ∃ y : Ext w, w' = w.ext y := by
  obtain ⟨w1, x1, hw1, ⟨y, hy⟩, hsz, f0, f1, f2, f3, f4, f5⟩ := boxP (w.ext x0) p L
  have hy' : ∃ y : Ext w, w1 = w.ext y := ⟨x0.trans y, hy⟩
  clear hy
  have hcl : p.caps.length ≤ 140737488351232 := by have := hP.cc; have := hP.cm; omega
  have hsl : p.sels.length ≤ 140737488351232 := by have := hP.sc; have := hP.sm; omega
  have hbl : p.blocks.length ≤ 140737488351232 := by have := hP.bc; have := hP.bm; omega
  clear hP
  unfold Prg.val
  go_enter Try.func42, Try.ntmps42
  go_wp2_with (first | (go_at_call 53; (with_reducible refine (in_is c1 _).mono ?_); rintro _ _ ⟨rfl, rfl⟩) | (go_at_call 53; (with_reducible refine (in_is c2 _).mono ?_); rintro _ _ ⟨rfl, rfl⟩) | (go_at_call 53; (with_reducible refine (in_is c3 _).mono ?_); rintro _ _ ⟨rfl, rfl⟩))
  go_ret2
  exact ⟨⟨_, _, rfl, rfl⟩, ex_ext _ hy'⟩

set_option maxHeartbeats 2000000 in
theorem tab_4 (x0 : Ext w) {p : Prg} {L : PL} (hP : PrgAt (Old w) w L p) (d1 : decide ((p.caps.length : Int) ≤ 4) = true) (c1 : inB p.mutexes 0 2 = true) (c2 : inB p.onces 0 2 = true) (c3 : inB p.vars 0 4 = true) (d2 : decide ((4 : Int) < p.sels.length) = true) :
    Calls Try.prog 42 #[p.val L] (w.ext x0) fun r w' => (∃ i e, r = .returned (.tuple #[.int .i64 i, .int .i64 e]) ∧ (e != 0) = true) ∧ ∃ y : Ext w, w' = w.ext y := by
  obtain ⟨w1, x1, hw1, ⟨y, hy⟩, hsz, f0, f1, f2, f3, f4, f5⟩ := boxP (w.ext x0) p L
  have hy' : ∃ y : Ext w, w1 = w.ext y := ⟨x0.trans y, hy⟩
  clear hy
  have hcl : p.caps.length ≤ 140737488351232 := by have := hP.cc; have := hP.cm; omega
  have hsl : p.sels.length ≤ 140737488351232 := by have := hP.sc; have := hP.sm; omega
  have hbl : p.blocks.length ≤ 140737488351232 := by have := hP.bc; have := hP.bm; omega
  clear hP
  unfold Prg.val
  go_enter Try.func42, Try.ntmps42
  go_wp2_with (first | (go_at_call 53; (with_reducible refine (in_is c1 _).mono ?_); rintro _ _ ⟨rfl, rfl⟩) | (go_at_call 53; (with_reducible refine (in_is c2 _).mono ?_); rintro _ _ ⟨rfl, rfl⟩) | (go_at_call 53; (with_reducible refine (in_is c3 _).mono ?_); rintro _ _ ⟨rfl, rfl⟩))
  go_ret2
  exact ⟨⟨_, _, rfl, rfl⟩, ex_ext _ hy'⟩

set_option maxHeartbeats 2000000 in
theorem tab_5 (x0 : Ext w) {p : Prg} {L : PL} (hP : PrgAt (Old w) w L p) (d1 : decide ((p.caps.length : Int) ≤ 4) = true) (c1 : inB p.mutexes 0 2 = true) (c2 : inB p.onces 0 2 = true) (c3 : inB p.vars 0 4 = true) (d2 : decide ((4 : Int) < p.sels.length) = false) (c4 : inB p.blocks.length 1 6 = false) :
    Calls Try.prog 42 #[p.val L] (w.ext x0) fun r w' => (∃ i e, r = .returned (.tuple #[.int .i64 i, .int .i64 e]) ∧ (e != 0) = true) ∧ ∃ y : Ext w, w' = w.ext y := by
  obtain ⟨w1, x1, hw1, ⟨y, hy⟩, hsz, f0, f1, f2, f3, f4, f5⟩ := boxP (w.ext x0) p L
  have hy' : ∃ y : Ext w, w1 = w.ext y := ⟨x0.trans y, hy⟩
  clear hy
  have hcl : p.caps.length ≤ 140737488351232 := by have := hP.cc; have := hP.cm; omega
  have hsl : p.sels.length ≤ 140737488351232 := by have := hP.sc; have := hP.sm; omega
  have hbl : p.blocks.length ≤ 140737488351232 := by have := hP.bc; have := hP.bm; omega
  clear hP
  unfold Prg.val
  go_enter Try.func42, Try.ntmps42
  go_wp2_with (first | (go_at_call 53; (with_reducible refine (in_is c1 _).mono ?_); rintro _ _ ⟨rfl, rfl⟩) | (go_at_call 53; (with_reducible refine (in_is c2 _).mono ?_); rintro _ _ ⟨rfl, rfl⟩) | (go_at_call 53; (with_reducible refine (in_is c3 _).mono ?_); rintro _ _ ⟨rfl, rfl⟩) | (go_at_call 53; (with_reducible refine (in_is c4 _).mono ?_); rintro _ _ ⟨rfl, rfl⟩))
  go_ret2
  exact ⟨⟨_, _, rfl, rfl⟩, ex_ext _ hy'⟩

set_option maxHeartbeats 2000000 in
theorem tab_6 (x0 : Ext w) {p : Prg} {L : PL} (hP : PrgAt (Old w) w L p) (d1 : decide ((p.caps.length : Int) ≤ 4) = true) (c1 : inB p.mutexes 0 2 = true) (c2 : inB p.onces 0 2 = true) (c3 : inB p.vars 0 4 = true) (d2 : decide ((4 : Int) < p.sels.length) = false) (c4 : inB p.blocks.length 1 6 = true) (c5 : p.caps.any capBad = true) :
    Calls Try.prog 42 #[p.val L] (w.ext x0) fun r w' => (∃ i e, r = .returned (.tuple #[.int .i64 i, .int .i64 e]) ∧ (e != 0) = true) ∧ ∃ y : Ext w, w' = w.ext y := by
  obtain ⟨w1, x1, hw1, ⟨y, hy⟩, hsz, f0, f1, f2, f3, f4, f5⟩ := boxP (w.ext x0) p L
  have hy' : ∃ y : Ext w, w1 = w.ext y := ⟨x0.trans y, hy⟩
  clear hy
  have hcaps := hP.caps.mono IntE.mono (Agree.of_ex hy')
  have hcl : p.caps.length ≤ 140737488351232 := by have := hP.cc; have := hP.cm; omega
  have hsl : p.sels.length ≤ 140737488351232 := by have := hP.sc; have := hP.sm; omega
  have hbl : p.blocks.length ≤ 140737488351232 := by have := hP.bc; have := hP.bm; omega
  clear hP
  unfold Prg.val
  go_enter Try.func42, Try.ntmps42
  go_wp2_with (first | (go_at_call 53; (with_reducible refine (in_is c1 _).mono ?_); rintro _ _ ⟨rfl, rfl⟩) | (go_at_call 53; (with_reducible refine (in_is c2 _).mono ?_); rintro _ _ ⟨rfl, rfl⟩) | (go_at_call 53; (with_reducible refine (in_is c3 _).mono ?_); rintro _ _ ⟨rfl, rfl⟩) | (go_at_call 53; (with_reducible refine (in_is c4 _).mono ?_); rintro _ _ ⟨rfl, rfl⟩) | (go_at_call 54; refine (calls_of_ex (fun x => capsBad_any x hcaps hcl c5) ⟨_, rfl⟩).mono ?_; rintro _ _ ⟨rfl, z, rfl⟩))
  go_ret2
  exact ⟨⟨_, _, rfl, rfl⟩, ex_ext _ hy'⟩

set_option maxHeartbeats 8000000 in
theorem tab_end (x0 : Ext w) {p : Prg} {L : PL} (hP : PrgAt (Old w) w L p) (d1 : decide ((p.caps.length : Int) ≤ 4) = true) (c1 : inB p.mutexes 0 2 = true) (c2 : inB p.onces 0 2 = true) (c3 : inB p.vars 0 4 = true) (d2 : decide ((4 : Int) < p.sels.length) = false) (c4 : inB p.blocks.length 1 6 = true) (c5 : p.caps.any capBad = false) {v : Bool} (hv : p.sels.any (selBad p.caps.length) = v) :
    Calls Try.prog 42 #[p.val L] (w.ext x0) fun r w' => (∃ i e, r = .returned (.tuple #[.int .i64 i, .int .i64 e]) ∧ (e != 0) = v) ∧ ∃ y : Ext w, w' = w.ext y := by
  obtain ⟨w1, x1, hw1, ⟨y, hy⟩, hsz, f0, f1, f2, f3, f4, f5⟩ := boxP (w.ext x0) p L
  have hy' : ∃ y : Ext w, w1 = w.ext y := ⟨x0.trans y, hy⟩
  clear hy
  have hcaps := hP.caps.mono IntE.mono (Agree.of_ex hy')
  have hsels := hP.sels.mono SelE.mono (Agree.of_ex hy')
  have hcl : p.caps.length ≤ 140737488351232 := by have := hP.cc; have := hP.cm; omega
  have hsc := hP.sc
  have hsl : p.sels.length ≤ 140737488351232 := by have := hP.sc; have := hP.sm; omega
  have hbl : p.blocks.length ≤ 140737488351232 := by have := hP.bc; have := hP.bm; omega
  clear hP
  have HV := Lib.hid hv
  clear hv
  unfold Prg.val
  go_enter Try.func42, Try.ntmps42
  go_wp2_with (first | (go_at_call 53; (with_reducible refine (in_is c1 _).mono ?_); rintro _ _ ⟨rfl, rfl⟩) | (go_at_call 53; (with_reducible refine (in_is c2 _).mono ?_); rintro _ _ ⟨rfl, rfl⟩) | (go_at_call 53; (with_reducible refine (in_is c3 _).mono ?_); rintro _ _ ⟨rfl, rfl⟩) | (go_at_call 53; (with_reducible refine (in_is c4 _).mono ?_); rintro _ _ ⟨rfl, rfl⟩) | (go_at_call 54; refine (calls_of_ex (fun x => capsBad_any x hcaps hcl c5) ⟨_, rfl⟩).mono ?_; rintro _ _ ⟨rfl, z, rfl⟩))
  go_loopw [47] (fun i wr => ∃ (k : Nat) (x : Ext w1), k ≤ p.sels.length ∧ i = .int .i64 k ∧ wr = w1.ext x ∧ p.sels.any (selBad p.caps.length) = (p.sels.drop k).any (selBad p.caps.length)) (fun i _ => p.sels.length - (intOf i).toNat)
  case atStart => exact ⟨0, _, Nat.zero_le _, rfl, rfl, rfl⟩
  case round =>
    obtain ⟨k, x, hk, rfl, rfl, hI⟩ := hrel
    by_cases hlt : k < p.sels.length
    · obtain ⟨sb, so, hsA, _⟩ := hsels.addr (by omega)
      rw [hsA] at hsels
      obtain ⟨A, cap, hcap, hcap2, hrow, g0, g1⟩ := sel_at hsels hlt
      have HS := Lib.hid (any_drop (f := selBad p.caps.length) hlt)
      have HI := Lib.hid hI
      clear hI
      simp only [hsA] at *
      generalize el p.sels k = s at *
      obtain ⟨w2, x2, hw2, ⟨y2, hy2⟩, hsz2, q0, q1⟩ := boxS (w1.ext x) A s.cases.length cap s.dflt
      have hz : ∃ y : Ext w1, w2 = w1.ext y := ⟨x.trans y2, hy2⟩
      have f0' := lift_fact hz f0
      have hrow2 := hrow.mono CseE.mono (Agree.of_ex hz)
      have hz' := ex_trans hy' hz
      clear hy2 hrow
      cases e1 : decide ((4 : Int) < s.cases.length)
      · cases e2 : s.cases.any (chanBad p.caps.length)
        · have HB : Hid (selBad p.caps.length s = false) := by simp only [Hid, selBad, e1, e2]; rfl
          have hcb : ∀ x : Ext w2, _ := fun x => chansBad_any x f0' hcl (c := cap) hrow2 (by omega) e2
          clear hrow2 hsels hcaps
          go_wp2_with (go_at_call 56; refine (hcb _).mono ?_; rintro _ _ ⟨rfl, z, rfl⟩)
          go_roundw
          case rel =>
            obtain ⟨y3, rfl⟩ := hz
            exact ⟨k + 1, y3.trans z, by omega, by go_num, rfl, by rw [HI.out, HS.out, HB.out]; rfl⟩
          case measure => simp [intOf]; omega
        · have HB : Hid (selBad p.caps.length s = true) := by simp only [Hid, selBad, e1, e2]; rfl
          have hcb : ∀ x : Ext w2, _ := fun x => chansBad_any x f0' hcl (c := cap) hrow2 (by omega) e2
          clear hrow2 hsels hcaps
          go_wp2_with (go_at_call 56; refine (hcb _).mono ?_; rintro _ _ ⟨rfl, z, rfl⟩)
          go_ret2
          exact ⟨⟨_, _, rfl, by rw [← HV.out, HI.out, HS.out, HB.out]; rfl⟩, ex_ext _ hz'⟩
      · have HB : Hid (selBad p.caps.length s = true) := by simp only [Hid, selBad, e1]; rfl
        clear hrow2 hsels hcaps
        go_wp2
        go_ret2
        exact ⟨⟨_, _, rfl, by rw [← HV.out, HI.out, HS.out, HB.out]; rfl⟩, ex_ext _ hz'⟩
    · have HI : Hid (p.sels.any (selBad p.caps.length) = false) := by
        rw [List.drop_eq_nil_of_le (by omega)] at hI; exact hI
      clear hI hsels hcaps
      go_wp2
      go_ret2
      exact ⟨⟨_, _, rfl, by rw [← HV.out, HI.out]; rfl⟩, ex_ext _ hy'⟩

theorem tables_any (x0 : Ext w) {p : Prg} {L : PL} (hP : PrgAt (Old w) w L p) {v : Bool} (hv : tabOk p = v) :
    Calls Try.prog 42 #[p.val L] (w.ext x0) fun r w' => (∃ i e, r = .returned (.tuple #[.int .i64 i, .int .i64 e]) ∧ (e != 0) = !v) ∧ ∃ y : Ext w, w' = w.ext y := by
  subst hv
  unfold tabOk
  cases d1 : decide ((p.caps.length : Int) ≤ 4)
  · rw [Bool.false_and]; exact tab_0 x0 hP d1
  rw [Bool.true_and]
  cases c1 : inB p.mutexes 0 2
  · rw [Bool.false_and]; exact tab_1 x0 hP d1 c1
  rw [Bool.true_and]
  cases c2 : inB p.onces 0 2
  · rw [Bool.false_and]; exact tab_2 x0 hP d1 c1 c2
  rw [Bool.true_and]
  cases c3 : inB p.vars 0 4
  · rw [Bool.false_and]; exact tab_3 x0 hP d1 c1 c2 c3
  rw [Bool.true_and]
  cases d2 : decide ((4 : Int) < p.sels.length)
  rotate_left
  · rw [Bool.not_true, Bool.false_and]; exact tab_4 x0 hP d1 c1 c2 c3 d2
  rw [Bool.not_false, Bool.true_and]
  cases c4 : inB p.blocks.length 1 6
  · rw [Bool.false_and]; exact tab_5 x0 hP d1 c1 c2 c3 d2 c4
  rw [Bool.true_and]
  cases c5 : p.caps.any capBad
  rotate_left
  · rw [Bool.not_true, Bool.false_and]; exact tab_6 x0 hP d1 c1 c2 c3 d2 c4 c5
  rw [Bool.not_false, Bool.true_and]
  rw [Bool.not_not]
  exact tab_end x0 hP d1 c1 c2 c3 d2 c4 c5 rfl
end
end Go.Proofs.Ytlekjobicpnafaa.Pg
