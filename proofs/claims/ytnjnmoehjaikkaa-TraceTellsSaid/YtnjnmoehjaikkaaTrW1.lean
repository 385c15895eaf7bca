/- The judge's small functions and its rules. Condition: the judge lies in memory. -/
import Derived.Test.YtnjnmoehjaikkaaTrModel
namespace Go.Proofs.Ytnjnmoehjaikkaa.Tr
open Go Go.RowKit Base
set_option linter.unusedVariables false
set_option linter.unusedSimpArgs false

section
variable {w : World} {b : Jb} {caps : List Int} {s : JS}

set_option maxHeartbeats 1000000 in
theorem n_any (h : J w b caps s) (k : Int) (e : Ev) :
    Calls Try.prog 49 #[.pointer (some ⟨b.bj, 0, none⟩), .int .i64 k, e.val] w fun r w' => r = .returned (.int .i64 (s.count k e.obj)) ∧ ∃ x : Ext w, w' = w.ext x := by
  unfold Ev.val
  go_enter Try.func49, Try.ntmps49
  go_wp2
  obtain ⟨w1, x1, hw1, ⟨y, hy⟩, f0, f1, f2, f3, f4⟩ := boxEv w e
  rw [hw1]
  have J1 : J w1 b caps s := hy ▸ h.ext y
  have g1 := J1.c1
  have gl := J1.look k e.obj
  refine region_at (by kernel_rfl) (by kernel_rfl) ?_
  repeat (go_big_quiet_step (fail))
  refine wpQuiet_nil ?_
  rintro _ ⟨x, rfl⟩
  go_wp2
  go_ret
  exact ⟨rfl, ex_ext _ ⟨y, hy⟩⟩

set_option maxHeartbeats 1000000 in
theorem open_any (h : J w b caps s) (e : Ev) (h0 : 0 ≤ e.obj) (h1 : e.obj < caps.length) :
    Calls Try.prog 52 #[.pointer (some ⟨b.bj, 0, none⟩), e.val] w fun r w' => r = .returned (.bool (decide (0 ≤ rdI caps e.obj))) ∧ ∃ x : Ext w, w' = w.ext x := by
  unfold Ev.val
  go_enter Try.func52, Try.ntmps52
  go_wp2
  obtain ⟨w1, x1, hw1, ⟨y, hy⟩, f0, f1, f2, f3, f4⟩ := boxEv w e
  rw [hw1]
  have J1 : J w1 b caps s := hy ▸ h.ext y
  have g0 := J1.c0
  obtain ⟨bc, oc, hca, gc⟩ := J1.capAt h0 h1
  rw [hca] at g0
  refine region_at (by kernel_rfl) (by kernel_rfl) ?_
  repeat (go_big_quiet_step (fail))
  refine wpQuiet_nil ?_
  rintro _ ⟨x, rfl⟩
  go_wp2
  go_ret
  exact ⟨rfl, ex_ext _ ⟨y, hy⟩⟩

set_option maxHeartbeats 1000000 in
theorem rules1_any (h : J w b caps s) (e : Ev) :
    Calls Try.prog 48 #[e.val, .pointer (some ⟨b.bx, 0, none⟩)] w fun r w' => r = .returned (.int .i64 (wrap64 (s.count 11 e.obj - s.count 12 e.obj))) ∧ ∃ x : Ext w, w' = w.ext x := by
  unfold Ev.val
  go_enter Try.func48, Try.ntmps48
  go_wp2
  obtain ⟨w1, x1, hw1, ⟨y, hy⟩, f0, f1, f2, f3, f4⟩ := boxEv w e
  rw [hw1]
  have J1 : J w1 b caps s := hy ▸ h.ext y
  have gx := J1.cx
  refine region_at (by kernel_rfl) (by kernel_rfl) ?_
  repeat (go_big_quiet_step (exact calls_ext (n_any (J1.ext _) _ e)))
  refine wpQuiet_nil ?_
  rintro _ ⟨x, rfl⟩
  go_wp2
  go_ret
  exact ⟨rfl, ex_ext _ ⟨y, hy⟩⟩

set_option maxHeartbeats 1000000 in
theorem rules2_any (h : J w b caps s) (e : Ev) :
    Calls Try.prog 50 #[e.val, .pointer (some ⟨b.bx, 0, none⟩)] w fun r w' => r = .returned (.bool (e.obj == s.begun)) ∧ ∃ x : Ext w, w' = w.ext x := by
  unfold Ev.val
  go_enter Try.func50, Try.ntmps50
  go_wp2
  obtain ⟨w1, x1, hw1, ⟨y, hy⟩, f0, f1, f2, f3, f4⟩ := boxEv w e
  rw [hw1]
  have J1 : J w1 b caps s := hy ▸ h.ext y
  have gx := J1.cx
  have g10 := J1.c10
  refine region_at (by kernel_rfl) (by kernel_rfl) ?_
  repeat (go_big_quiet_step (fail))
  refine wpQuiet_nil ?_
  rintro _ ⟨x, rfl⟩
  go_wp2
  go_ret
  exact ⟨rfl, ex_ext _ ⟨y, hy⟩⟩

theorem ret_bool {a b : Bool} (h : a = b) : Ending.returned (.bool a) = .returned (.bool b) := by rw [h]
theorem open_is (h : J w b caps s) (e : Ev) (h0 : 0 ≤ e.obj) (h1 : e.obj < caps.length) {c : Bool} (hc : decide (0 ≤ rdI caps e.obj) = c) :
    Calls Try.prog 52 #[.pointer (some ⟨b.bj, 0, none⟩), e.val] w fun r w' => r = .returned (.bool c) ∧ ∃ x : Ext w, w' = w.ext x := by
  subst hc; exact open_any h e h0 h1
def R3 (caps : List Int) (s : JS) (e : Ev) : Bool := decide (0 ≤ rdI caps e.obj) && ((s.count 7 e.obj == 0) && ((e.no == s.count 3 e.obj) && decide (e.no ≤ wrap64 (s.count 5 e.obj + rdI caps e.obj))))
def R4 (caps : List Int) (s : JS) (e : Ev) : Bool := decide (0 ≤ rdI caps e.obj) && ((e.no == s.count 5 e.obj) && decide (e.no ≤ s.count 3 e.obj))
def R5 (s : JS) (e : Ev) : Bool := decide (0 < s.count 7 e.obj) && (s.count 5 e.obj == s.count 3 e.obj)
def R6 (caps : List Int) (s : JS) (e : Ev) : Bool := decide (0 ≤ rdI caps e.obj) && (s.count 7 e.obj == 0)
def R9 (s : JS) (e : Ev) : Bool := (s.count 14 e.obj == 0) && (s.first e.obj == e.g + 1)

set_option maxHeartbeats 1000000 in
theorem rules3_any (h : J w b caps s) (e : Ev) (h0 : 0 ≤ e.obj) (h1 : e.obj < caps.length) :
    Calls Try.prog 51 #[e.val, .pointer (some ⟨b.bx, 0, none⟩)] w fun r w' => r = .returned (.bool (R3 caps s e)) ∧ ∃ x : Ext w, w' = w.ext x := by
  cases h_0 : decide (0 ≤ rdI caps e.obj)
  · unfold Ev.val
    go_enter Try.func51, Try.ntmps51
    go_wp2
    obtain ⟨w1, x1, hw1, ⟨y, hy⟩, f0, f1, f2, f3, f4⟩ := boxEv w e
    rw [hw1]
    have J1 : J w1 b caps s := hy ▸ h.ext y
    have gx := J1.cx
    have g0 := J1.c0
    obtain ⟨bc, oc, hca, gc⟩ := J1.capAt h0 h1
    rw [hca] at g0
    refine region_at (by kernel_rfl) (by kernel_rfl) ?_
    repeat (go_big_quiet_step ((first | (go_at_call 52; exact calls_ext (open_is (J1.ext _) e h0 h1 h_0)) | exact calls_ext (n_any (J1.ext _) _ e))))
    refine wpQuiet_nil ?_
    rintro _ ⟨x, rfl⟩
    go_wp2
    go_ret
    exact ⟨ret_bool (by simp only [R3, h_0, Bool.true_and, Bool.and_true, Bool.false_and, Bool.true_or, Bool.false_or, Bool.or_true]; try rfl), ex_ext _ ⟨y, hy⟩⟩
  · cases h_1 : (s.count 7 e.obj == 0)
    · unfold Ev.val
      go_enter Try.func51, Try.ntmps51
      go_wp2
      obtain ⟨w1, x1, hw1, ⟨y, hy⟩, f0, f1, f2, f3, f4⟩ := boxEv w e
      rw [hw1]
      have J1 : J w1 b caps s := hy ▸ h.ext y
      have gx := J1.cx
      have g0 := J1.c0
      obtain ⟨bc, oc, hca, gc⟩ := J1.capAt h0 h1
      rw [hca] at g0
      refine region_at (by kernel_rfl) (by kernel_rfl) ?_
      repeat (go_big_quiet_step ((first | (go_at_call 52; exact calls_ext (open_is (J1.ext _) e h0 h1 h_0)) | exact calls_ext (n_any (J1.ext _) _ e))))
      refine wpQuiet_nil ?_
      rintro _ ⟨x, rfl⟩
      go_wp2
      go_ret
      exact ⟨ret_bool (by simp only [R3, h_0, h_1, Bool.true_and, Bool.and_true, Bool.false_and, Bool.true_or, Bool.false_or, Bool.or_true]; try rfl), ex_ext _ ⟨y, hy⟩⟩
    · cases h_2 : (e.no == s.count 3 e.obj)
      · unfold Ev.val
        go_enter Try.func51, Try.ntmps51
        go_wp2
        obtain ⟨w1, x1, hw1, ⟨y, hy⟩, f0, f1, f2, f3, f4⟩ := boxEv w e
        rw [hw1]
        have J1 : J w1 b caps s := hy ▸ h.ext y
        have gx := J1.cx
        have g0 := J1.c0
        obtain ⟨bc, oc, hca, gc⟩ := J1.capAt h0 h1
        rw [hca] at g0
        refine region_at (by kernel_rfl) (by kernel_rfl) ?_
        repeat (go_big_quiet_step ((first | (go_at_call 52; exact calls_ext (open_is (J1.ext _) e h0 h1 h_0)) | exact calls_ext (n_any (J1.ext _) _ e))))
        refine wpQuiet_nil ?_
        rintro _ ⟨x, rfl⟩
        go_wp2
        go_ret
        exact ⟨ret_bool (by simp only [R3, h_0, h_1, h_2, Bool.true_and, Bool.and_true, Bool.false_and, Bool.true_or, Bool.false_or, Bool.or_true]; try rfl), ex_ext _ ⟨y, hy⟩⟩
      · unfold Ev.val
        go_enter Try.func51, Try.ntmps51
        go_wp2
        obtain ⟨w1, x1, hw1, ⟨y, hy⟩, f0, f1, f2, f3, f4⟩ := boxEv w e
        rw [hw1]
        have J1 : J w1 b caps s := hy ▸ h.ext y
        have gx := J1.cx
        have g0 := J1.c0
        obtain ⟨bc, oc, hca, gc⟩ := J1.capAt h0 h1
        rw [hca] at g0
        refine region_at (by kernel_rfl) (by kernel_rfl) ?_
        repeat (go_big_quiet_step ((first | (go_at_call 52; exact calls_ext (open_is (J1.ext _) e h0 h1 h_0)) | exact calls_ext (n_any (J1.ext _) _ e))))
        refine wpQuiet_nil ?_
        rintro _ ⟨x, rfl⟩
        go_wp2
        go_ret
        exact ⟨ret_bool (by simp only [R3, h_0, h_1, h_2, Bool.true_and, Bool.and_true, Bool.false_and, Bool.true_or, Bool.false_or, Bool.or_true]; try rfl), ex_ext _ ⟨y, hy⟩⟩

set_option maxHeartbeats 1000000 in
theorem rules4_any (h : J w b caps s) (e : Ev) (h0 : 0 ≤ e.obj) (h1 : e.obj < caps.length) :
    Calls Try.prog 53 #[e.val, .pointer (some ⟨b.bx, 0, none⟩)] w fun r w' => r = .returned (.bool (R4 caps s e)) ∧ ∃ x : Ext w, w' = w.ext x := by
  cases h_0 : decide (0 ≤ rdI caps e.obj)
  · unfold Ev.val
    go_enter Try.func53, Try.ntmps53
    go_wp2
    obtain ⟨w1, x1, hw1, ⟨y, hy⟩, f0, f1, f2, f3, f4⟩ := boxEv w e
    rw [hw1]
    have J1 : J w1 b caps s := hy ▸ h.ext y
    have gx := J1.cx
    refine region_at (by kernel_rfl) (by kernel_rfl) ?_
    repeat (go_big_quiet_step ((first | (go_at_call 52; exact calls_ext (open_is (J1.ext _) e h0 h1 h_0)) | exact calls_ext (n_any (J1.ext _) _ e))))
    refine wpQuiet_nil ?_
    rintro _ ⟨x, rfl⟩
    go_wp2
    go_ret
    exact ⟨ret_bool (by simp only [R4, h_0, Bool.true_and, Bool.and_true, Bool.false_and, Bool.true_or, Bool.false_or, Bool.or_true]; try rfl), ex_ext _ ⟨y, hy⟩⟩
  · cases h_1 : (e.no == s.count 5 e.obj)
    · unfold Ev.val
      go_enter Try.func53, Try.ntmps53
      go_wp2
      obtain ⟨w1, x1, hw1, ⟨y, hy⟩, f0, f1, f2, f3, f4⟩ := boxEv w e
      rw [hw1]
      have J1 : J w1 b caps s := hy ▸ h.ext y
      have gx := J1.cx
      refine region_at (by kernel_rfl) (by kernel_rfl) ?_
      repeat (go_big_quiet_step ((first | (go_at_call 52; exact calls_ext (open_is (J1.ext _) e h0 h1 h_0)) | exact calls_ext (n_any (J1.ext _) _ e))))
      refine wpQuiet_nil ?_
      rintro _ ⟨x, rfl⟩
      go_wp2
      go_ret
      exact ⟨ret_bool (by simp only [R4, h_0, h_1, Bool.true_and, Bool.and_true, Bool.false_and, Bool.true_or, Bool.false_or, Bool.or_true]; try rfl), ex_ext _ ⟨y, hy⟩⟩
    · unfold Ev.val
      go_enter Try.func53, Try.ntmps53
      go_wp2
      obtain ⟨w1, x1, hw1, ⟨y, hy⟩, f0, f1, f2, f3, f4⟩ := boxEv w e
      rw [hw1]
      have J1 : J w1 b caps s := hy ▸ h.ext y
      have gx := J1.cx
      refine region_at (by kernel_rfl) (by kernel_rfl) ?_
      repeat (go_big_quiet_step ((first | (go_at_call 52; exact calls_ext (open_is (J1.ext _) e h0 h1 h_0)) | exact calls_ext (n_any (J1.ext _) _ e))))
      refine wpQuiet_nil ?_
      rintro _ ⟨x, rfl⟩
      go_wp2
      go_ret
      exact ⟨ret_bool (by simp only [R4, h_0, h_1, Bool.true_and, Bool.and_true, Bool.false_and, Bool.true_or, Bool.false_or, Bool.or_true]; try rfl), ex_ext _ ⟨y, hy⟩⟩

set_option maxHeartbeats 1000000 in
theorem rules5_any (h : J w b caps s) (e : Ev) :
    Calls Try.prog 54 #[e.val, .pointer (some ⟨b.bx, 0, none⟩)] w fun r w' => r = .returned (.bool (R5 s e)) ∧ ∃ x : Ext w, w' = w.ext x := by
  cases h_0 : decide (0 < s.count 7 e.obj)
  · unfold Ev.val
    go_enter Try.func54, Try.ntmps54
    go_wp2
    obtain ⟨w1, x1, hw1, ⟨y, hy⟩, f0, f1, f2, f3, f4⟩ := boxEv w e
    rw [hw1]
    have J1 : J w1 b caps s := hy ▸ h.ext y
    have gx := J1.cx
    refine region_at (by kernel_rfl) (by kernel_rfl) ?_
    repeat (go_big_quiet_step (exact calls_ext (n_any (J1.ext _) _ e)))
    refine wpQuiet_nil ?_
    rintro _ ⟨x, rfl⟩
    go_wp2
    go_ret
    exact ⟨ret_bool (by simp only [R5, h_0, Bool.true_and, Bool.and_true, Bool.false_and, Bool.true_or, Bool.false_or, Bool.or_true]; try rfl), ex_ext _ ⟨y, hy⟩⟩
  · unfold Ev.val
    go_enter Try.func54, Try.ntmps54
    go_wp2
    obtain ⟨w1, x1, hw1, ⟨y, hy⟩, f0, f1, f2, f3, f4⟩ := boxEv w e
    rw [hw1]
    have J1 : J w1 b caps s := hy ▸ h.ext y
    have gx := J1.cx
    refine region_at (by kernel_rfl) (by kernel_rfl) ?_
    repeat (go_big_quiet_step (exact calls_ext (n_any (J1.ext _) _ e)))
    refine wpQuiet_nil ?_
    rintro _ ⟨x, rfl⟩
    go_wp2
    go_ret
    exact ⟨ret_bool (by simp only [R5, h_0, Bool.true_and, Bool.and_true, Bool.false_and, Bool.true_or, Bool.false_or, Bool.or_true]; try rfl), ex_ext _ ⟨y, hy⟩⟩

set_option maxHeartbeats 1000000 in
theorem rules9_any (h : J w b caps s) (e : Ev) (h0 : 0 ≤ e.g) (h1 : e.g < 8) :
    Calls Try.prog 58 #[e.val, .pointer (some ⟨b.bx, 0, none⟩)] w fun r w' => r = .returned (.bool (R9 s e)) ∧ ∃ x : Ext w, w' = w.ext x := by
  cases h_0 : (s.count 14 e.obj == 0)
  · unfold Ev.val
    go_enter Try.func58, Try.ntmps58
    go_wp2
    obtain ⟨w1, x1, hw1, ⟨y, hy⟩, f0, f1, f2, f3, f4⟩ := boxEv w e
    rw [hw1]
    have J1 : J w1 b caps s := hy ▸ h.ext y
    have gx := J1.cx
    have g11 := J1.c11
    have gl := J1.lookF e.obj
    refine region_at (by kernel_rfl) (by kernel_rfl) ?_
    repeat (go_big_quiet_step (exact calls_ext (n_any (J1.ext _) _ e)))
    refine wpQuiet_nil ?_
    rintro _ ⟨x, rfl⟩
    go_wp2
    go_ret
    exact ⟨ret_bool (by simp only [R9, h_0, Bool.true_and, Bool.and_true, Bool.false_and, Bool.true_or, Bool.false_or, Bool.or_true]; try rfl), ex_ext _ ⟨y, hy⟩⟩
  · unfold Ev.val
    go_enter Try.func58, Try.ntmps58
    go_wp2
    obtain ⟨w1, x1, hw1, ⟨y, hy⟩, f0, f1, f2, f3, f4⟩ := boxEv w e
    rw [hw1]
    have J1 : J w1 b caps s := hy ▸ h.ext y
    have gx := J1.cx
    have g11 := J1.c11
    have gl := J1.lookF e.obj
    refine region_at (by kernel_rfl) (by kernel_rfl) ?_
    repeat (go_big_quiet_step (exact calls_ext (n_any (J1.ext _) _ e)))
    refine wpQuiet_nil ?_
    rintro _ ⟨x, rfl⟩
    go_wp2
    go_ret
    exact ⟨ret_bool (by simp only [R9, h_0, Bool.true_and, Bool.and_true, Bool.false_and, Bool.true_or, Bool.false_or, Bool.or_true]; try rfl), ex_ext _ ⟨y, hy⟩⟩

set_option maxHeartbeats 1000000 in
theorem rules6_any (h : J w b caps s) (e : Ev) (h0 : 0 ≤ e.obj) (h1 : e.obj < caps.length) :
    Calls Try.prog 55 #[e.val, .pointer (some ⟨b.bx, 0, none⟩)] w fun r w' => r = .returned (.bool (R6 caps s e)) ∧ ∃ x : Ext w, w' = w.ext x := by
  cases h_0 : decide (0 ≤ rdI caps e.obj)
  · unfold Ev.val
    obtain ⟨w1, x1, hw1, ⟨y, hy⟩, f0, f1, f2, f3, f4⟩ := boxEv w e
    have J1 : J w1 b caps s := hy ▸ h.ext y
    have hy' : ∃ y : Ext w, w1 = w.ext y := ⟨y, hy⟩
    clear hy
    have gx := J1.cx
    go_enter Try.func55, Try.ntmps55
    go_wp2_with (first | (go_at_call 52; refine (calls_ext (open_is (J1.ext _) e h0 h1 h_0)).mono ?_; rintro _ _ ⟨rfl, z, rfl⟩) | (go_at_call 49; refine (calls_ext (n_any (J1.ext _) _ e)).mono ?_; rintro _ _ ⟨rfl, z, rfl⟩))
    go_ret
    exact ⟨ret_bool (by simp only [R6, h_0, Bool.true_and, Bool.and_true, Bool.false_and, Bool.true_or, Bool.false_or, Bool.or_true]; try rfl), ex_ext _ hy'⟩
  · unfold Ev.val
    obtain ⟨w1, x1, hw1, ⟨y, hy⟩, f0, f1, f2, f3, f4⟩ := boxEv w e
    have J1 : J w1 b caps s := hy ▸ h.ext y
    have hy' : ∃ y : Ext w, w1 = w.ext y := ⟨y, hy⟩
    clear hy
    have gx := J1.cx
    go_enter Try.func55, Try.ntmps55
    go_wp2_with (first | (go_at_call 52; refine (calls_ext (open_is (J1.ext _) e h0 h1 h_0)).mono ?_; rintro _ _ ⟨rfl, z, rfl⟩) | (go_at_call 49; refine (calls_ext (n_any (J1.ext _) _ e)).mono ?_; rintro _ _ ⟨rfl, z, rfl⟩))
    go_ret
    exact ⟨ret_bool (by simp only [R6, h_0, Bool.true_and, Bool.and_true, Bool.false_and, Bool.true_or, Bool.false_or, Bool.or_true]; try rfl), ex_ext _ hy'⟩

set_option maxHeartbeats 1000000 in
theorem rules7_any (h : J w b caps s) (e : Ev) :
    Calls Try.prog 56 #[e.val, .pointer (some ⟨b.bh, 0, none⟩)] w fun r w' => r = .returned (.bool (wrap64 (s.count 11 e.obj - s.count 12 e.obj) == 0)) ∧ ∃ x : Ext w, w' = w.ext x := by
  unfold Ev.val
  obtain ⟨w1, x1, hw1, ⟨y, hy⟩, f0, f1, f2, f3, f4⟩ := boxEv w e
  have J1 : J w1 b caps s := hy ▸ h.ext y
  have hy' : ∃ y : Ext w, w1 = w.ext y := ⟨y, hy⟩
  clear hy
  have gx := J1.ch
  unfold cl at gx
  go_enter Try.func56, Try.ntmps56
  go_wp2_with (go_at_call 48; refine (calls_ext (rules1_any (J1.ext _) e)).mono ?_; rintro _ _ ⟨rfl, z, rfl⟩)
  go_ret
  exact ⟨rfl, ex_ext _ hy'⟩

set_option maxHeartbeats 1000000 in
theorem rules8_any (h : J w b caps s) (e : Ev) :
    Calls Try.prog 57 #[e.val, .pointer (some ⟨b.bh, 0, none⟩)] w fun r w' => r = .returned (.bool (wrap64 (s.count 11 e.obj - s.count 12 e.obj) == 1)) ∧ ∃ x : Ext w, w' = w.ext x := by
  unfold Ev.val
  obtain ⟨w1, x1, hw1, ⟨y, hy⟩, f0, f1, f2, f3, f4⟩ := boxEv w e
  have J1 : J w1 b caps s := hy ▸ h.ext y
  have hy' : ∃ y : Ext w, w1 = w.ext y := ⟨y, hy⟩
  clear hy
  have gx := J1.ch
  unfold cl at gx
  go_enter Try.func57, Try.ntmps57
  go_wp2_with (go_at_call 48; refine (calls_ext (rules1_any (J1.ext _) e)).mono ?_; rintro _ _ ⟨rfl, z, rfl⟩)
  go_ret
  exact ⟨rfl, ex_ext _ hy'⟩

set_option maxHeartbeats 1000000 in
theorem rules10_any (h : J w b caps s) (e : Ev) :
    Calls Try.prog 59 #[e.val, .pointer (some ⟨b.bx, 0, none⟩)] w fun r w' => r = .returned (.bool (decide (0 < s.count 14 e.obj))) ∧ ∃ x : Ext w, w' = w.ext x := by
  unfold Ev.val
  obtain ⟨w1, x1, hw1, ⟨y, hy⟩, f0, f1, f2, f3, f4⟩ := boxEv w e
  have J1 : J w1 b caps s := hy ▸ h.ext y
  have hy' : ∃ y : Ext w, w1 = w.ext y := ⟨y, hy⟩
  clear hy
  have gx := J1.cx
  go_enter Try.func59, Try.ntmps59
  go_wp2_with (go_at_call 49; refine (calls_ext (n_any (J1.ext _) _ e)).mono ?_; rintro _ _ ⟨rfl, z, rfl⟩)
  go_ret
  exact ⟨rfl, ex_ext _ hy'⟩
end
end Go.Proofs.Ytnjnmoehjaikkaa.Tr
