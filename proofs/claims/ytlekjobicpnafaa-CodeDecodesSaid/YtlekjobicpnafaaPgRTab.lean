/- plaitref06: sizes, tables. Condition: the program lies in memory. -/
import Derived.Test.YtlekjobicpnafaaPgRef
namespace Go.Proofs.Ytlekjobicpnafaa.Pg
open Go Go.RowKit Base
set_option linter.unusedVariables false
set_option linter.unusedSimpArgs false

def szOk (p : Prg) : Bool :=
  decide ((p.caps.length : Int) ≤ 4) && (inB p.mutexes 0 2 && (inB p.onces 0 2 && (inB p.vars 0 4 && (!decide ((4 : Int) < p.sels.length) && inB p.blocks.length 1 6))))
theorem tabOk_sz (p : Prg) : tabOk p = (szOk p && (!p.caps.any capBad && !p.sels.any (selBad p.caps.length))) := by
  simp only [tabOk, szOk, Bool.and_assoc]

section
variable {w : World}

set_option maxHeartbeats 1000000 in
theorem sizes_0 (x0 : Ext w) (p : Prg) (L : PL) (h1 : p.caps.length ≤ 140737488351232) (h2 : p.sels.length ≤ 140737488351232) (h3 : p.blocks.length ≤ 140737488351232) (c0 : decide ((4 : Int) < p.caps.length) = true) :
    Calls Try.prog 59 #[p.val L] (w.ext x0) fun r w' => r = .returned (.bool true) ∧ ∃ y : Ext w, w' = w.ext y := by
  obtain ⟨w1, x1, hw1, ⟨y, hy⟩, hsz, f0, f1, f2, f3, f4, f5⟩ := boxP (w.ext x0) p L
  have hy' : ∃ y : Ext w, w1 = w.ext y := ⟨x0.trans y, hy⟩
  clear hy
  unfold Prg.val
  go_enter Try.func59, Try.ntmps59
  go_wp2
  go_ret
  exact ⟨rfl, ex_ext _ hy'⟩

set_option maxHeartbeats 1000000 in
theorem sizes_1 (x0 : Ext w) (p : Prg) (L : PL) (h1 : p.caps.length ≤ 140737488351232) (h2 : p.sels.length ≤ 140737488351232) (h3 : p.blocks.length ≤ 140737488351232) (c0 : decide ((4 : Int) < p.caps.length) = false) (c1 : decide (p.mutexes < 0) = true) :
    Calls Try.prog 59 #[p.val L] (w.ext x0) fun r w' => r = .returned (.bool true) ∧ ∃ y : Ext w, w' = w.ext y := by
  obtain ⟨w1, x1, hw1, ⟨y, hy⟩, hsz, f0, f1, f2, f3, f4, f5⟩ := boxP (w.ext x0) p L
  have hy' : ∃ y : Ext w, w1 = w.ext y := ⟨x0.trans y, hy⟩
  clear hy
  unfold Prg.val
  go_enter Try.func59, Try.ntmps59
  go_wp2
  go_ret
  exact ⟨rfl, ex_ext _ hy'⟩

set_option maxHeartbeats 1000000 in
theorem sizes_2 (x0 : Ext w) (p : Prg) (L : PL) (h1 : p.caps.length ≤ 140737488351232) (h2 : p.sels.length ≤ 140737488351232) (h3 : p.blocks.length ≤ 140737488351232) (c0 : decide ((4 : Int) < p.caps.length) = false) (c1 : decide (p.mutexes < 0) = false) (c2 : decide ((2 : Int) < p.mutexes) = true) :
    Calls Try.prog 59 #[p.val L] (w.ext x0) fun r w' => r = .returned (.bool true) ∧ ∃ y : Ext w, w' = w.ext y := by
  obtain ⟨w1, x1, hw1, ⟨y, hy⟩, hsz, f0, f1, f2, f3, f4, f5⟩ := boxP (w.ext x0) p L
  have hy' : ∃ y : Ext w, w1 = w.ext y := ⟨x0.trans y, hy⟩
  clear hy
  unfold Prg.val
  go_enter Try.func59, Try.ntmps59
  go_wp2
  go_ret
  exact ⟨rfl, ex_ext _ hy'⟩

set_option maxHeartbeats 1000000 in
theorem sizes_3 (x0 : Ext w) (p : Prg) (L : PL) (h1 : p.caps.length ≤ 140737488351232) (h2 : p.sels.length ≤ 140737488351232) (h3 : p.blocks.length ≤ 140737488351232) (c0 : decide ((4 : Int) < p.caps.length) = false) (c1 : decide (p.mutexes < 0) = false) (c2 : decide ((2 : Int) < p.mutexes) = false) (c3 : decide (p.onces < 0) = true) :
    Calls Try.prog 59 #[p.val L] (w.ext x0) fun r w' => r = .returned (.bool true) ∧ ∃ y : Ext w, w' = w.ext y := by
  obtain ⟨w1, x1, hw1, ⟨y, hy⟩, hsz, f0, f1, f2, f3, f4, f5⟩ := boxP (w.ext x0) p L
  have hy' : ∃ y : Ext w, w1 = w.ext y := ⟨x0.trans y, hy⟩
  clear hy
  unfold Prg.val
  go_enter Try.func59, Try.ntmps59
  go_wp2
  go_ret
  exact ⟨rfl, ex_ext _ hy'⟩

set_option maxHeartbeats 1000000 in
theorem sizes_4 (x0 : Ext w) (p : Prg) (L : PL) (h1 : p.caps.length ≤ 140737488351232) (h2 : p.sels.length ≤ 140737488351232) (h3 : p.blocks.length ≤ 140737488351232) (c0 : decide ((4 : Int) < p.caps.length) = false) (c1 : decide (p.mutexes < 0) = false) (c2 : decide ((2 : Int) < p.mutexes) = false) (c3 : decide (p.onces < 0) = false) (c4 : decide ((2 : Int) < p.onces) = true) :
    Calls Try.prog 59 #[p.val L] (w.ext x0) fun r w' => r = .returned (.bool true) ∧ ∃ y : Ext w, w' = w.ext y := by
  obtain ⟨w1, x1, hw1, ⟨y, hy⟩, hsz, f0, f1, f2, f3, f4, f5⟩ := boxP (w.ext x0) p L
  have hy' : ∃ y : Ext w, w1 = w.ext y := ⟨x0.trans y, hy⟩
  clear hy
  unfold Prg.val
  go_enter Try.func59, Try.ntmps59
  go_wp2
  go_ret
  exact ⟨rfl, ex_ext _ hy'⟩

set_option maxHeartbeats 1000000 in
theorem sizes_5 (x0 : Ext w) (p : Prg) (L : PL) (h1 : p.caps.length ≤ 140737488351232) (h2 : p.sels.length ≤ 140737488351232) (h3 : p.blocks.length ≤ 140737488351232) (c0 : decide ((4 : Int) < p.caps.length) = false) (c1 : decide (p.mutexes < 0) = false) (c2 : decide ((2 : Int) < p.mutexes) = false) (c3 : decide (p.onces < 0) = false) (c4 : decide ((2 : Int) < p.onces) = false) (c5 : decide (p.vars < 0) = true) :
    Calls Try.prog 59 #[p.val L] (w.ext x0) fun r w' => r = .returned (.bool true) ∧ ∃ y : Ext w, w' = w.ext y := by
  obtain ⟨w1, x1, hw1, ⟨y, hy⟩, hsz, f0, f1, f2, f3, f4, f5⟩ := boxP (w.ext x0) p L
  have hy' : ∃ y : Ext w, w1 = w.ext y := ⟨x0.trans y, hy⟩
  clear hy
  unfold Prg.val
  go_enter Try.func59, Try.ntmps59
  go_wp2
  go_ret
  exact ⟨rfl, ex_ext _ hy'⟩

set_option maxHeartbeats 1000000 in
theorem sizes_6 (x0 : Ext w) (p : Prg) (L : PL) (h1 : p.caps.length ≤ 140737488351232) (h2 : p.sels.length ≤ 140737488351232) (h3 : p.blocks.length ≤ 140737488351232) (c0 : decide ((4 : Int) < p.caps.length) = false) (c1 : decide (p.mutexes < 0) = false) (c2 : decide ((2 : Int) < p.mutexes) = false) (c3 : decide (p.onces < 0) = false) (c4 : decide ((2 : Int) < p.onces) = false) (c5 : decide (p.vars < 0) = false) (c6 : decide ((4 : Int) < p.vars) = true) :
    Calls Try.prog 59 #[p.val L] (w.ext x0) fun r w' => r = .returned (.bool true) ∧ ∃ y : Ext w, w' = w.ext y := by
  obtain ⟨w1, x1, hw1, ⟨y, hy⟩, hsz, f0, f1, f2, f3, f4, f5⟩ := boxP (w.ext x0) p L
  have hy' : ∃ y : Ext w, w1 = w.ext y := ⟨x0.trans y, hy⟩
  clear hy
  unfold Prg.val
  go_enter Try.func59, Try.ntmps59
  go_wp2
  go_ret
  exact ⟨rfl, ex_ext _ hy'⟩

set_option maxHeartbeats 1000000 in
theorem sizes_7 (x0 : Ext w) (p : Prg) (L : PL) (h1 : p.caps.length ≤ 140737488351232) (h2 : p.sels.length ≤ 140737488351232) (h3 : p.blocks.length ≤ 140737488351232) (c0 : decide ((4 : Int) < p.caps.length) = false) (c1 : decide (p.mutexes < 0) = false) (c2 : decide ((2 : Int) < p.mutexes) = false) (c3 : decide (p.onces < 0) = false) (c4 : decide ((2 : Int) < p.onces) = false) (c5 : decide (p.vars < 0) = false) (c6 : decide ((4 : Int) < p.vars) = false) (c7 : decide ((4 : Int) < p.sels.length) = true) :
    Calls Try.prog 59 #[p.val L] (w.ext x0) fun r w' => r = .returned (.bool true) ∧ ∃ y : Ext w, w' = w.ext y := by
  obtain ⟨w1, x1, hw1, ⟨y, hy⟩, hsz, f0, f1, f2, f3, f4, f5⟩ := boxP (w.ext x0) p L
  have hy' : ∃ y : Ext w, w1 = w.ext y := ⟨x0.trans y, hy⟩
  clear hy
  unfold Prg.val
  go_enter Try.func59, Try.ntmps59
  go_wp2
  go_ret
  exact ⟨rfl, ex_ext _ hy'⟩

set_option maxHeartbeats 1000000 in
theorem sizes_8 (x0 : Ext w) (p : Prg) (L : PL) (h1 : p.caps.length ≤ 140737488351232) (h2 : p.sels.length ≤ 140737488351232) (h3 : p.blocks.length ≤ 140737488351232) (c0 : decide ((4 : Int) < p.caps.length) = false) (c1 : decide (p.mutexes < 0) = false) (c2 : decide ((2 : Int) < p.mutexes) = false) (c3 : decide (p.onces < 0) = false) (c4 : decide ((2 : Int) < p.onces) = false) (c5 : decide (p.vars < 0) = false) (c6 : decide ((4 : Int) < p.vars) = false) (c7 : decide ((4 : Int) < p.sels.length) = false) (c8 : decide ((p.blocks.length : Int) < 1) = true) :
    Calls Try.prog 59 #[p.val L] (w.ext x0) fun r w' => r = .returned (.bool true) ∧ ∃ y : Ext w, w' = w.ext y := by
  obtain ⟨w1, x1, hw1, ⟨y, hy⟩, hsz, f0, f1, f2, f3, f4, f5⟩ := boxP (w.ext x0) p L
  have hy' : ∃ y : Ext w, w1 = w.ext y := ⟨x0.trans y, hy⟩
  clear hy
  unfold Prg.val
  go_enter Try.func59, Try.ntmps59
  go_wp2
  go_ret
  exact ⟨rfl, ex_ext _ hy'⟩

set_option maxHeartbeats 1000000 in
theorem sizes_9 (x0 : Ext w) (p : Prg) (L : PL) (h1 : p.caps.length ≤ 140737488351232) (h2 : p.sels.length ≤ 140737488351232) (h3 : p.blocks.length ≤ 140737488351232) (c0 : decide ((4 : Int) < p.caps.length) = false) (c1 : decide (p.mutexes < 0) = false) (c2 : decide ((2 : Int) < p.mutexes) = false) (c3 : decide (p.onces < 0) = false) (c4 : decide ((2 : Int) < p.onces) = false) (c5 : decide (p.vars < 0) = false) (c6 : decide ((4 : Int) < p.vars) = false) (c7 : decide ((4 : Int) < p.sels.length) = false) (c8 : decide ((p.blocks.length : Int) < 1) = false) (c9 : decide ((6 : Int) < p.blocks.length) = true) :
    Calls Try.prog 59 #[p.val L] (w.ext x0) fun r w' => r = .returned (.bool true) ∧ ∃ y : Ext w, w' = w.ext y := by
  obtain ⟨w1, x1, hw1, ⟨y, hy⟩, hsz, f0, f1, f2, f3, f4, f5⟩ := boxP (w.ext x0) p L
  have hy' : ∃ y : Ext w, w1 = w.ext y := ⟨x0.trans y, hy⟩
  clear hy
  unfold Prg.val
  go_enter Try.func59, Try.ntmps59
  go_wp2
  go_ret
  exact ⟨rfl, ex_ext _ hy'⟩

set_option maxHeartbeats 1000000 in
theorem sizes_10 (x0 : Ext w) (p : Prg) (L : PL) (h1 : p.caps.length ≤ 140737488351232) (h2 : p.sels.length ≤ 140737488351232) (h3 : p.blocks.length ≤ 140737488351232) (c0 : decide ((4 : Int) < p.caps.length) = false) (c1 : decide (p.mutexes < 0) = false) (c2 : decide ((2 : Int) < p.mutexes) = false) (c3 : decide (p.onces < 0) = false) (c4 : decide ((2 : Int) < p.onces) = false) (c5 : decide (p.vars < 0) = false) (c6 : decide ((4 : Int) < p.vars) = false) (c7 : decide ((4 : Int) < p.sels.length) = false) (c8 : decide ((p.blocks.length : Int) < 1) = false) (c9 : decide ((6 : Int) < p.blocks.length) = false) :
    Calls Try.prog 59 #[p.val L] (w.ext x0) fun r w' => r = .returned (.bool false) ∧ ∃ y : Ext w, w' = w.ext y := by
  obtain ⟨w1, x1, hw1, ⟨y, hy⟩, hsz, f0, f1, f2, f3, f4, f5⟩ := boxP (w.ext x0) p L
  have hy' : ∃ y : Ext w, w1 = w.ext y := ⟨x0.trans y, hy⟩
  clear hy
  unfold Prg.val
  go_enter Try.func59, Try.ntmps59
  go_wp2
  go_ret
  exact ⟨rfl, ex_ext _ hy'⟩

theorem sizes_any (x0 : Ext w) (p : Prg) (L : PL) (h1 : p.caps.length ≤ 140737488351232) (h2 : p.sels.length ≤ 140737488351232) (h3 : p.blocks.length ≤ 140737488351232) {v : Bool} (hv : szOk p = v) :
    Calls Try.prog 59 #[p.val L] (w.ext x0) fun r w' => r = .returned (.bool !v) ∧ ∃ y : Ext w, w' = w.ext y := by
  subst hv
  have he : (!szOk p) = (decide ((4 : Int) < p.caps.length) || (decide (p.mutexes < 0) || (decide ((2 : Int) < p.mutexes) || (decide (p.onces < 0) || (decide ((2 : Int) < p.onces) || (decide (p.vars < 0) || (decide ((4 : Int) < p.vars) || (decide ((4 : Int) < p.sels.length) || (decide ((p.blocks.length : Int) < 1) || (decide ((6 : Int) < p.blocks.length))))))))))) := by
    rw [Bool.eq_iff_iff]
    simp only [szOk, inB, Bool.not_eq_true', Bool.and_eq_false_iff, Bool.or_eq_true, decide_eq_true_eq, Bool.not_eq_false', decide_eq_false_iff_not]
    omega
  rw [he]
  cases c0 : decide ((4 : Int) < p.caps.length)
  rotate_left
  · rw [Bool.true_or]; exact sizes_0 x0 p L h1 h2 h3 c0
  rw [Bool.false_or]
  cases c1 : decide (p.mutexes < 0)
  rotate_left
  · rw [Bool.true_or]; exact sizes_1 x0 p L h1 h2 h3 c0 c1
  rw [Bool.false_or]
  cases c2 : decide ((2 : Int) < p.mutexes)
  rotate_left
  · rw [Bool.true_or]; exact sizes_2 x0 p L h1 h2 h3 c0 c1 c2
  rw [Bool.false_or]
  cases c3 : decide (p.onces < 0)
  rotate_left
  · rw [Bool.true_or]; exact sizes_3 x0 p L h1 h2 h3 c0 c1 c2 c3
  rw [Bool.false_or]
  cases c4 : decide ((2 : Int) < p.onces)
  rotate_left
  · rw [Bool.true_or]; exact sizes_4 x0 p L h1 h2 h3 c0 c1 c2 c3 c4
  rw [Bool.false_or]
  cases c5 : decide (p.vars < 0)
  rotate_left
  · rw [Bool.true_or]; exact sizes_5 x0 p L h1 h2 h3 c0 c1 c2 c3 c4 c5
  rw [Bool.false_or]
  cases c6 : decide ((4 : Int) < p.vars)
  rotate_left
  · rw [Bool.true_or]; exact sizes_6 x0 p L h1 h2 h3 c0 c1 c2 c3 c4 c5 c6
  rw [Bool.false_or]
  cases c7 : decide ((4 : Int) < p.sels.length)
  rotate_left
  · rw [Bool.true_or]; exact sizes_7 x0 p L h1 h2 h3 c0 c1 c2 c3 c4 c5 c6 c7
  rw [Bool.false_or]
  cases c8 : decide ((p.blocks.length : Int) < 1)
  rotate_left
  · rw [Bool.true_or]; exact sizes_8 x0 p L h1 h2 h3 c0 c1 c2 c3 c4 c5 c6 c7 c8
  rw [Bool.false_or]
  cases c9 : decide ((6 : Int) < p.blocks.length)
  rotate_left
  · exact sizes_9 x0 p L h1 h2 h3 c0 c1 c2 c3 c4 c5 c6 c7 c8 c9
  exact sizes_10 x0 p L h1 h2 h3 c0 c1 c2 c3 c4 c5 c6 c7 c8 c9

def chanBad' (n : Nat) (c : Cse) : Bool := decide (c.chan < 0) || decide ((n : Int) ≤ c.chan)
theorem chanBad_eq (n : Nat) (c : Cse) : chanBad n c = chanBad' n c := by
  rw [Bool.eq_iff_iff]
  simp only [chanBad, chanBad', inB, Bool.not_eq_true', Bool.and_eq_false_iff, Bool.or_eq_true, decide_eq_true_eq, decide_eq_false_iff_not]
  omega
def capBad' (n : Int) : Bool := decide (n < -1) || decide (3 < n)
theorem capBad_eq (n : Int) : capBad n = capBad' n := by
  rw [Bool.eq_iff_iff]
  simp only [capBad, capBad', inB, Bool.not_eq_true', Bool.and_eq_false_iff, Bool.or_eq_true, decide_eq_true_eq, decide_eq_false_iff_not]
  omega

set_option maxHeartbeats 1000000 in
theorem rtab_sz (x0 : Ext w) {p : Prg} {L : PL} (hP : PrgAt (Old w) w L p) (hs : szOk p = false) :
    Calls Try.prog 44 #[p.val L] (w.ext x0) fun r w' => (∃ i e, r = .returned (.tuple #[.int .i64 i, .int .i64 e]) ∧ (e != 0) = true) ∧ ∃ y : Ext w, w' = w.ext y := by
  obtain ⟨w1, x1, hw1, ⟨y, hy⟩, hsz, f0, f1, f2, f3, f4, f5⟩ := boxP (w.ext x0) p L
  have hy' : ∃ y : Ext w, w1 = w.ext y := ⟨x0.trans y, hy⟩
  clear hy
  have hcl : p.caps.length ≤ 140737488351232 := by have := hP.cc; have := hP.cm; omega
  have hsl : p.sels.length ≤ 140737488351232 := by have := hP.sc; have := hP.sm; omega
  have hbl : p.blocks.length ≤ 140737488351232 := by have := hP.bc; have := hP.bm; omega
  have hS : ∀ x : Ext w1, _ := fun x => sizes_any x p L hcl hsl hbl hs
  clear hP hs
  unfold Prg.val at hS ⊢
  go_enter Try.func44, Try.ntmps44
  go_wp2_with (go_at_call 59; refine (hS _).mono ?_; rintro _ _ ⟨rfl, z, rfl⟩)
  go_ret2
  exact ⟨⟨_, _, rfl, rfl⟩, ex_ext _ hy'⟩

set_option maxHeartbeats 4000000 in
theorem rtab_ok (x0 : Ext w) {p : Prg} {L : PL} (hP : PrgAt (Old w) w L p) (hs : szOk p = true) {v : Bool} (hv : (!p.caps.any capBad && !p.sels.any (selBad p.caps.length)) = v) :
    Calls Try.prog 44 #[p.val L] (w.ext x0) fun r w' => (∃ i e, r = .returned (.tuple #[.int .i64 i, .int .i64 e]) ∧ (e != 0) = !v) ∧ ∃ y : Ext w, w' = w.ext y := by
  obtain ⟨cA, sA, bA, cc, sc, bc⟩ := L
  obtain ⟨w1, x1, hw1, ⟨y, hy⟩, hsz, f0, f1, f2, f3, f4, f5⟩ := boxP (w.ext x0) p ⟨cA, sA, bA, cc, sc, bc⟩
  have hy' : ∃ y : Ext w, w1 = w.ext y := ⟨x0.trans y, hy⟩
  clear hy
  simp only at hw1 f0 f1 f2 f3 f4 f5
  have hcaps := hP.caps.mono IntE.mono (Agree.of_ex hy')
  have hsels := hP.sels.mono SelE.mono (Agree.of_ex hy')
  have hcc := hP.cc
  have hsc := hP.sc
  simp only at hcaps hsels hcc hsc
  have hcl : p.caps.length ≤ 140737488351232 := by have := hP.cc; have := hP.cm; omega
  have hsl : p.sels.length ≤ 140737488351232 := by have := hP.sc; have := hP.sm; omega
  have hbl : p.blocks.length ≤ 140737488351232 := by have := hP.bc; have := hP.bm; omega
  have hS : ∀ x : Ext w1, _ := fun x => sizes_any x p ⟨cA, sA, bA, cc, sc, bc⟩ hcl hsl hbl hs
  have HV := Lib.hid hv
  clear hP hs hv
  unfold Prg.val at hS ⊢
  simp only at hS ⊢
  go_enter Try.func44, Try.ntmps44
  go_wp2_with (go_at_call 59; refine (hS _).mono ?_; rintro _ _ ⟨rfl, z, rfl⟩)
  clear hS
  go_loopw [15] (fun i wr => ∃ (k : Nat) (x : Ext w1), k ≤ p.caps.length ∧ i = .int .i64 k ∧ wr = w1.ext x ∧ p.caps.any capBad = (p.caps.drop k).any capBad) (fun i _ => p.caps.length - (intOf i).toNat)
  case atStart => exact ⟨0, _, Nat.zero_le _, rfl, rfl, rfl⟩
  case round =>
    obtain ⟨k, x, hk, rfl, rfl, hI⟩ := hrel
    have HI := Lib.hid hI
    clear hI
    by_cases hlt : k < p.caps.length
    · obtain ⟨cb, co, rfl, _⟩ := hcaps.addr (by omega)
      have g0 := int_at hcaps hlt
      have HS := Lib.hid (any_drop (f := capBad) hlt)
      clear hcaps hsels
      generalize el p.caps k = n at *
      cases e1 : decide (n < -1)
      · cases e2 : decide (3 < n)
        · have HB : Hid (capBad n = false) := by simp only [Hid, capBad_eq, capBad', e1, e2]; rfl
          go_wp2
          go_roundw
          case rel => exact ⟨k + 1, _, by omega, by go_num, rfl, by rw [HI.out, HS.out, HB.out]; rfl⟩
          case measure => simp [intOf]; omega
        · have HB : Hid (capBad n = true) := by simp only [Hid, capBad_eq, capBad', e1, e2]; rfl
          go_wp2
          go_ret2
          exact ⟨⟨_, _, rfl, by rw [← HV.out, HI.out, HS.out, HB.out]; rfl⟩, ex_ext _ hy'⟩
      · have HB : Hid (capBad n = true) := by simp only [Hid, capBad_eq, capBad', e1]; rfl
        go_wp2
        go_ret2
        exact ⟨⟨_, _, rfl, by rw [← HV.out, HI.out, HS.out, HB.out]; rfl⟩, ex_ext _ hy'⟩
    · have HC : Hid (p.caps.any capBad = false) := by
        have := HI.out
        rw [List.drop_eq_nil_of_le (by omega)] at this; exact this
      clear HI hcaps
      go_wp2
      go_loopw [29] (fun i wr => ∃ (k : Nat) (x : Ext w1), k ≤ p.sels.length ∧ i = .int .i64 k ∧ wr = w1.ext x ∧ p.sels.any (selBad p.caps.length) = (p.sels.drop k).any (selBad p.caps.length)) (fun i _ => p.sels.length - (intOf i).toNat)
      case atStart => exact ⟨0, _, Nat.zero_le _, rfl, rfl, rfl⟩
      case round =>
        obtain ⟨k, x, hk, rfl, rfl, hI⟩ := hrel
        have HI := Lib.hid hI
        clear hI
        by_cases hlt : k < p.sels.length
        · obtain ⟨sb, so, rfl, _⟩ := hsels.addr (by omega)
          obtain ⟨A, cap, hcap, hcap2, hrow, g0, g1⟩ := sel_at hsels hlt
          have HS := Lib.hid (any_drop (f := selBad p.caps.length) hlt)
          clear hsels
          generalize el p.sels k = s at *
          obtain ⟨w2, x2, hw2, ⟨y2, hy2⟩, hsz2, q0, q1⟩ := boxS (w1.ext x) A s.cases.length cap s.dflt
          have hz : ∃ y : Ext w1, w2 = w1.ext y := ⟨x.trans y2, hy2⟩
          have f0' := lift_fact hz f0
          have hrow2 := hrow.mono CseE.mono (Agree.of_ex hz)
          have hz' := ex_trans hy' hz
          clear hy2 hrow
          cases e1 : decide ((4 : Int) < s.cases.length)
          · have HB : Hid (selBad p.caps.length s = s.cases.any (chanBad p.caps.length)) := by simp only [Hid, selBad, e1]; rfl
            go_wp2
            go_loopw [42] (fun i wr => ∃ (j : Nat) (x : Ext w2), j ≤ s.cases.length ∧ i = .int .i64 j ∧ wr = w2.ext x ∧ s.cases.any (chanBad p.caps.length) = (s.cases.drop j).any (chanBad p.caps.length)) (fun i _ => s.cases.length - (intOf i).toNat)
            case atStart => exact ⟨0, _, Nat.zero_le _, rfl, rfl, rfl⟩
            case round =>
              obtain ⟨j, x', hj, rfl, rfl, hJ⟩ := hrel
              have HJ := Lib.hid hJ
              clear hJ
              by_cases hjl : j < s.cases.length
              · obtain ⟨ib, io, rfl, _⟩ := hrow2.addr (by omega)
                obtain ⟨r0, r1⟩ := cse_at hrow2 hjl
                have HJS := Lib.hid (any_drop (f := chanBad p.caps.length) hjl)
                generalize el s.cases j = c at *
                obtain ⟨w3, x3, hw3, ⟨y3, hy3⟩, hsz3, s0, s1⟩ := boxC (w2.ext x') c
                have hu : ∃ y : Ext w2, w3 = w2.ext y := ⟨x'.trans y3, hy3⟩
                clear hy3
                have f0'' := lift_fact hu f0'
                have hu' := ex_trans hz' hu
                clear hrow2
                cases e2 : decide (c.chan < 0)
                · cases e3 : decide ((p.caps.length : Int) ≤ c.chan)
                  · have HN : Hid (chanBad p.caps.length c = false) := by simp only [Hid, chanBad_eq, chanBad', e2, e3]; rfl
                    go_wp2
                    go_roundw
                    case rel =>
                      obtain ⟨y4, rfl⟩ := hu
                      exact ⟨j + 1, y4.trans _, by omega, by go_num, rfl, by rw [HJ.out, HJS.out, HN.out]; rfl⟩
                    case measure => simp [intOf]; omega
                  · have HN : Hid (chanBad p.caps.length c = true) := by simp only [Hid, chanBad_eq, chanBad', e2, e3]; rfl
                    go_wp2
                    go_ret2
                    exact ⟨⟨_, _, rfl, by rw [← HV.out, HC.out, HI.out, HS.out, HB.out, HJ.out, HJS.out, HN.out]; rfl⟩, ex_ext _ hu'⟩
                · have HN : Hid (chanBad p.caps.length c = true) := by simp only [Hid, chanBad_eq, chanBad', e2]; rfl
                  go_wp2
                  go_ret2
                  exact ⟨⟨_, _, rfl, by rw [← HV.out, HC.out, HI.out, HS.out, HB.out, HJ.out, HJS.out, HN.out]; rfl⟩, ex_ext _ hu'⟩
              · have HE : Hid (s.cases.any (chanBad p.caps.length) = false) := by
                  have := HJ.out
                  rw [List.drop_eq_nil_of_le (by omega)] at this; exact this
                clear hrow2 HJ
                go_wp2
                go_roundw
                case rel =>
                  obtain ⟨y4, rfl⟩ := hz
                  exact ⟨k + 1, y4.trans _, by omega, by go_num, rfl, by rw [HI.out, HS.out, HB.out, HE.out]; rfl⟩
                case measure => simp [intOf]; omega
          · have HB : Hid (selBad p.caps.length s = true) := by simp only [Hid, selBad, e1]; rfl
            clear hrow2
            go_wp2
            go_ret2
            exact ⟨⟨_, _, rfl, by rw [← HV.out, HC.out, HI.out, HS.out, HB.out]; rfl⟩, ex_ext _ hz'⟩
        · have HE : Hid (p.sels.any (selBad p.caps.length) = false) := by
            have := HI.out
            rw [List.drop_eq_nil_of_le (by omega)] at this; exact this
          clear HI hsels
          go_wp2
          go_ret2
          exact ⟨⟨_, _, rfl, by rw [← HV.out, HC.out, HE.out]; rfl⟩, ex_ext _ hy'⟩

theorem rtables_any (x0 : Ext w) {p : Prg} {L : PL} (hP : PrgAt (Old w) w L p) {v : Bool} (hv : tabOk p = v) :
    Calls Try.prog 44 #[p.val L] (w.ext x0) fun r w' => (∃ i e, r = .returned (.tuple #[.int .i64 i, .int .i64 e]) ∧ (e != 0) = !v) ∧ ∃ y : Ext w, w' = w.ext y := by
  subst hv
  rw [tabOk_sz]
  cases hs : szOk p
  · rw [Bool.false_and]; exact rtab_sz x0 hP hs
  · rw [Bool.true_and]; exact rtab_ok x0 hP hs rfl
end
end Go.Proofs.Ytlekjobicpnafaa.Pg
