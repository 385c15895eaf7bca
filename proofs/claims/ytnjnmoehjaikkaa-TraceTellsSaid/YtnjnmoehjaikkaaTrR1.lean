/- The document's answer for traces: what is wrong with one event, rule by rule. Condition: the capacities and the events lie in memory. -/
import Derived.Test.YtnjnmoehjaikkaaTrR0
namespace Go.Proofs.Ytnjnmoehjaikkaa.Tr
open Go Go.RowKit Base
set_option linter.unusedVariables false
set_option linter.unusedSimpArgs false

theorem beq_le {a b : Int} (h : (a == b) = true) : a ≤ b ∧ b ≤ a := by simp at h; omega
theorem bne_le {a b : Int} (h : (a != b) = false) : a ≤ b ∧ b ≤ a := by simp at h; omega
theorem beq_ne {a b : Int} (h : (a == b) = false) : ¬ (a ≤ b ∧ b ≤ a) := by simp at h; omega
theorem bne_ne {a b : Int} (h : (a != b) = true) : ¬ (a ≤ b ∧ b ≤ a) := by simp at h; omega
theorem IntsAt.at' {w : World} {A : Option Addr} {xs : List Int} (h : IntsAt w A xs) {i : Int} (h0 : 0 ≤ i) (h1 : i < xs.length) : ∃ bc oc, A = some ⟨bc, oc, none⟩ ∧ ∀ x : Ext w, (w.ext x).cell? ⟨bc, oc + i.toNat, none⟩ = some (.int .i64 (rdI xs i)) := by
  obtain ⟨n, rfl⟩ := Int.eq_ofNat_of_zero_le h0
  exact h.at (by omega)

section
variable {w : World}

def rnumberedF (k : Int) : Bool := if (k == 3) = true then true else (k == 5)

set_option maxHeartbeats 4000000 in
theorem rnumbered_any (x0 : Ext w) (k : Int) :
    Calls Try.prog 82 #[.int .i64 k] (w.ext x0) fun r w' => r = .returned (.bool (rnumberedF k)) ∧ ∃ x : Ext w, w' = w.ext x := by
  cases h_0 : (k == 3)
  · have p_h_0 := beq_ne h_0
    clear p_h_0
    go_enter Try.func82, Try.ntmps82
    go_wp2
    go_ret
    exact ⟨ret_bool (by simp only [rnumberedF, h_0, Bool.false_eq_true, if_true, if_false]; try rfl), by first | exact ⟨_, rfl⟩ | exact ex_ext _ hy1 | exact ex_alloc _ (ex_ext _ hy1) | exact ex_alloc _ (ex_alloc _ (ex_ext _ hy1)) | exact ex_ext _ (ex_ext _ (ex_ext _ hy1))⟩
  · have p_h_0 := beq_le h_0
    clear p_h_0
    go_enter Try.func82, Try.ntmps82
    go_wp2
    go_ret
    exact ⟨ret_bool (by simp only [rnumberedF, h_0, Bool.false_eq_true, if_true, if_false]; try rfl), by first | exact ⟨_, rfl⟩ | exact ex_ext _ hy1 | exact ex_alloc _ (ex_ext _ hy1) | exact ex_alloc _ (ex_alloc _ (ex_ext _ hy1)) | exact ex_ext _ (ex_ext _ (ex_ext _ hy1))⟩

def rbeginsF (k : Int) : Bool := if (k == 0) = true then true else (if (k == 3) = true then true else (if (k == 5) = true then true else (if (k == 6) = true then true else (if (k == 9) = true then true else (if (k == 11) = true then true else (k == 15))))))

set_option maxHeartbeats 4000000 in
theorem rbegins_any (x0 : Ext w) (k : Int) :
    Calls Try.prog 83 #[.int .i64 k] (w.ext x0) fun r w' => r = .returned (.bool (rbeginsF k)) ∧ ∃ x : Ext w, w' = w.ext x := by
  cases h_0 : (k == 0)
  · have p_h_0 := beq_ne h_0
    cases h_1 : (k == 3)
    · have p_h_1 := beq_ne h_1
      cases h_2 : (k == 5)
      · have p_h_2 := beq_ne h_2
        cases h_3 : (k == 6)
        · have p_h_3 := beq_ne h_3
          cases h_4 : (k == 9)
          · have p_h_4 := beq_ne h_4
            cases h_5 : (k == 11)
            · have p_h_5 := beq_ne h_5
              clear p_h_0 p_h_1 p_h_2 p_h_3 p_h_4 p_h_5
              go_enter Try.func83, Try.ntmps83
              go_wp2
              go_ret
              exact ⟨ret_bool (by simp only [rbeginsF, h_0, h_1, h_2, h_3, h_4, h_5, Bool.false_eq_true, if_true, if_false]; try rfl), by first | exact ⟨_, rfl⟩ | exact ex_ext _ hy1 | exact ex_alloc _ (ex_ext _ hy1) | exact ex_alloc _ (ex_alloc _ (ex_ext _ hy1)) | exact ex_ext _ (ex_ext _ (ex_ext _ hy1))⟩
            · have p_h_5 := beq_le h_5
              clear p_h_0 p_h_1 p_h_2 p_h_3 p_h_4 p_h_5
              go_enter Try.func83, Try.ntmps83
              go_wp2
              go_ret
              exact ⟨ret_bool (by simp only [rbeginsF, h_0, h_1, h_2, h_3, h_4, h_5, Bool.false_eq_true, if_true, if_false]; try rfl), by first | exact ⟨_, rfl⟩ | exact ex_ext _ hy1 | exact ex_alloc _ (ex_ext _ hy1) | exact ex_alloc _ (ex_alloc _ (ex_ext _ hy1)) | exact ex_ext _ (ex_ext _ (ex_ext _ hy1))⟩
          · have p_h_4 := beq_le h_4
            clear p_h_0 p_h_1 p_h_2 p_h_3 p_h_4
            go_enter Try.func83, Try.ntmps83
            go_wp2
            go_ret
            exact ⟨ret_bool (by simp only [rbeginsF, h_0, h_1, h_2, h_3, h_4, Bool.false_eq_true, if_true, if_false]; try rfl), by first | exact ⟨_, rfl⟩ | exact ex_ext _ hy1 | exact ex_alloc _ (ex_ext _ hy1) | exact ex_alloc _ (ex_alloc _ (ex_ext _ hy1)) | exact ex_ext _ (ex_ext _ (ex_ext _ hy1))⟩
        · have p_h_3 := beq_le h_3
          clear p_h_0 p_h_1 p_h_2 p_h_3
          go_enter Try.func83, Try.ntmps83
          go_wp2
          go_ret
          exact ⟨ret_bool (by simp only [rbeginsF, h_0, h_1, h_2, h_3, Bool.false_eq_true, if_true, if_false]; try rfl), by first | exact ⟨_, rfl⟩ | exact ex_ext _ hy1 | exact ex_alloc _ (ex_ext _ hy1) | exact ex_alloc _ (ex_alloc _ (ex_ext _ hy1)) | exact ex_ext _ (ex_ext _ (ex_ext _ hy1))⟩
      · have p_h_2 := beq_le h_2
        clear p_h_0 p_h_1 p_h_2
        go_enter Try.func83, Try.ntmps83
        go_wp2
        go_ret
        exact ⟨ret_bool (by simp only [rbeginsF, h_0, h_1, h_2, Bool.false_eq_true, if_true, if_false]; try rfl), by first | exact ⟨_, rfl⟩ | exact ex_ext _ hy1 | exact ex_alloc _ (ex_ext _ hy1) | exact ex_alloc _ (ex_alloc _ (ex_ext _ hy1)) | exact ex_ext _ (ex_ext _ (ex_ext _ hy1))⟩
    · have p_h_1 := beq_le h_1
      clear p_h_0 p_h_1
      go_enter Try.func83, Try.ntmps83
      go_wp2
      go_ret
      exact ⟨ret_bool (by simp only [rbeginsF, h_0, h_1, Bool.false_eq_true, if_true, if_false]; try rfl), by first | exact ⟨_, rfl⟩ | exact ex_ext _ hy1 | exact ex_alloc _ (ex_ext _ hy1) | exact ex_alloc _ (ex_alloc _ (ex_ext _ hy1)) | exact ex_ext _ (ex_ext _ (ex_ext _ hy1))⟩
  · have p_h_0 := beq_le h_0
    clear p_h_0
    go_enter Try.func83, Try.ntmps83
    go_wp2
    go_ret
    exact ⟨ret_bool (by simp only [rbeginsF, h_0, Bool.false_eq_true, if_true, if_false]; try rfl), by first | exact ⟨_, rfl⟩ | exact ex_ext _ hy1 | exact ex_alloc _ (ex_ext _ hy1) | exact ex_alloc _ (ex_alloc _ (ex_ext _ hy1)) | exact ex_ext _ (ex_ext _ (ex_ext _ hy1))⟩

def roriginF (k : Int) : Int := if (k == 3) = true then 2 else (if (k == 5) = true then 4 else (if (k == 6) = true then 4 else (if (k == 9) = true then 8 else (if (k == 11) = true then 10 else 13))))

set_option maxHeartbeats 4000000 in
theorem rorigin_any (x0 : Ext w) (k : Int) :
    Calls Try.prog 85 #[.int .i64 k] (w.ext x0) fun r w' => r = .returned (.int .i64 (roriginF k)) ∧ ∃ x : Ext w, w' = w.ext x := by
  cases h_0 : (k == 3)
  · have p_h_0 := beq_ne h_0
    cases h_1 : (k == 5)
    · have p_h_1 := beq_ne h_1
      cases h_2 : (k == 6)
      · have p_h_2 := beq_ne h_2
        cases h_3 : (k == 9)
        · have p_h_3 := beq_ne h_3
          cases h_4 : (k == 11)
          · have p_h_4 := beq_ne h_4
            clear p_h_0 p_h_1 p_h_2 p_h_3 p_h_4
            go_enter Try.func85, Try.ntmps85
            go_wp2
            go_ret
            exact ⟨ret_i64 (by simp only [roriginF, h_0, h_1, h_2, h_3, h_4, Bool.false_eq_true, if_true, if_false]; try rfl), by first | exact ⟨_, rfl⟩ | exact ex_ext _ hy1 | exact ex_alloc _ (ex_ext _ hy1) | exact ex_alloc _ (ex_alloc _ (ex_ext _ hy1)) | exact ex_ext _ (ex_ext _ (ex_ext _ hy1))⟩
          · have p_h_4 := beq_le h_4
            clear p_h_0 p_h_1 p_h_2 p_h_3 p_h_4
            go_enter Try.func85, Try.ntmps85
            go_wp2
            go_ret
            exact ⟨ret_i64 (by simp only [roriginF, h_0, h_1, h_2, h_3, h_4, Bool.false_eq_true, if_true, if_false]; try rfl), by first | exact ⟨_, rfl⟩ | exact ex_ext _ hy1 | exact ex_alloc _ (ex_ext _ hy1) | exact ex_alloc _ (ex_alloc _ (ex_ext _ hy1)) | exact ex_ext _ (ex_ext _ (ex_ext _ hy1))⟩
        · have p_h_3 := beq_le h_3
          clear p_h_0 p_h_1 p_h_2 p_h_3
          go_enter Try.func85, Try.ntmps85
          go_wp2
          go_ret
          exact ⟨ret_i64 (by simp only [roriginF, h_0, h_1, h_2, h_3, Bool.false_eq_true, if_true, if_false]; try rfl), by first | exact ⟨_, rfl⟩ | exact ex_ext _ hy1 | exact ex_alloc _ (ex_ext _ hy1) | exact ex_alloc _ (ex_alloc _ (ex_ext _ hy1)) | exact ex_ext _ (ex_ext _ (ex_ext _ hy1))⟩
      · have p_h_2 := beq_le h_2
        clear p_h_0 p_h_1 p_h_2
        go_enter Try.func85, Try.ntmps85
        go_wp2
        go_ret
        exact ⟨ret_i64 (by simp only [roriginF, h_0, h_1, h_2, Bool.false_eq_true, if_true, if_false]; try rfl), by first | exact ⟨_, rfl⟩ | exact ex_ext _ hy1 | exact ex_alloc _ (ex_ext _ hy1) | exact ex_alloc _ (ex_alloc _ (ex_ext _ hy1)) | exact ex_ext _ (ex_ext _ (ex_ext _ hy1))⟩
    · have p_h_1 := beq_le h_1
      clear p_h_0 p_h_1
      go_enter Try.func85, Try.ntmps85
      go_wp2
      go_ret
      exact ⟨ret_i64 (by simp only [roriginF, h_0, h_1, Bool.false_eq_true, if_true, if_false]; try rfl), by first | exact ⟨_, rfl⟩ | exact ex_ext _ hy1 | exact ex_alloc _ (ex_ext _ hy1) | exact ex_alloc _ (ex_alloc _ (ex_ext _ hy1)) | exact ex_ext _ (ex_ext _ (ex_ext _ hy1))⟩
  · have p_h_0 := beq_le h_0
    clear p_h_0
    go_enter Try.func85, Try.ntmps85
    go_wp2
    go_ret
    exact ⟨ret_i64 (by simp only [roriginF, h_0, Bool.false_eq_true, if_true, if_false]; try rfl), by first | exact ⟨_, rfl⟩ | exact ex_ext _ hy1 | exact ex_alloc _ (ex_ext _ hy1) | exact ex_alloc _ (ex_alloc _ (ex_ext _ hy1)) | exact ex_ext _ (ex_ext _ (ex_ext _ hy1))⟩

def rmostF (caps : List Int) (k : Int) : Int := if decide (2 ≤ k) = true then (if decide (k ≤ 7) = true then (caps.length : Int) else (if (k == 8) = true then 4 else (if (k == 9) = true then 4 else (if decide (16 ≤ k) = true then 4 else (if decide (10 ≤ k) = true then (if decide (k ≤ 15) = true then 2 else 1) else 1))))) else (if (k == 8) = true then 4 else (if (k == 9) = true then 4 else (if decide (16 ≤ k) = true then 4 else (if decide (10 ≤ k) = true then (if decide (k ≤ 15) = true then 2 else 1) else 1))))

set_option maxHeartbeats 4000000 in
theorem rmost_any (x0 : Ext w) {cA : Option Addr} {caps : List Int} {cc : Nat} (hcl : caps.length ≤ 4) (k : Int) :
    Calls Try.prog 84 #[.slice cA caps.length cc, .int .i64 k] (w.ext x0) fun r w' => r = .returned (.int .i64 (rmostF caps k)) ∧ ∃ x : Ext w, w' = w.ext x := by
  cases h_0 : decide (2 ≤ k)
  · have p_h_0 := of_decide_eq_false h_0
    cases h_1 : (k == 8)
    · have p_h_1 := beq_ne h_1
      cases h_2 : (k == 9)
      · have p_h_2 := beq_ne h_2
        cases h_3 : decide (16 ≤ k)
        · have p_h_3 := of_decide_eq_false h_3
          cases h_4 : decide (10 ≤ k)
          · have p_h_4 := of_decide_eq_false h_4
            clear p_h_0 p_h_1 p_h_2 p_h_3 p_h_4
            go_enter Try.func84, Try.ntmps84
            go_wp2
            go_ret
            exact ⟨ret_i64 (by simp only [rmostF, h_0, h_1, h_2, h_3, h_4, Bool.false_eq_true, if_true, if_false]; try rfl), by first | exact ⟨_, rfl⟩ | exact ex_ext _ hy1 | exact ex_alloc _ (ex_ext _ hy1) | exact ex_alloc _ (ex_alloc _ (ex_ext _ hy1)) | exact ex_ext _ (ex_ext _ (ex_ext _ hy1))⟩
          · have p_h_4 := of_decide_eq_true h_4
            cases h_5 : decide (k ≤ 15)
            · have p_h_5 := of_decide_eq_false h_5
              clear p_h_0 p_h_1 p_h_2 p_h_3 p_h_4 p_h_5
              go_enter Try.func84, Try.ntmps84
              go_wp2
              go_ret
              exact ⟨ret_i64 (by simp only [rmostF, h_0, h_1, h_2, h_3, h_4, h_5, Bool.false_eq_true, if_true, if_false]; try rfl), by first | exact ⟨_, rfl⟩ | exact ex_ext _ hy1 | exact ex_alloc _ (ex_ext _ hy1) | exact ex_alloc _ (ex_alloc _ (ex_ext _ hy1)) | exact ex_ext _ (ex_ext _ (ex_ext _ hy1))⟩
            · have p_h_5 := of_decide_eq_true h_5
              clear p_h_0 p_h_1 p_h_2 p_h_3 p_h_4 p_h_5
              go_enter Try.func84, Try.ntmps84
              go_wp2
              go_ret
              exact ⟨ret_i64 (by simp only [rmostF, h_0, h_1, h_2, h_3, h_4, h_5, Bool.false_eq_true, if_true, if_false]; try rfl), by first | exact ⟨_, rfl⟩ | exact ex_ext _ hy1 | exact ex_alloc _ (ex_ext _ hy1) | exact ex_alloc _ (ex_alloc _ (ex_ext _ hy1)) | exact ex_ext _ (ex_ext _ (ex_ext _ hy1))⟩
        · have p_h_3 := of_decide_eq_true h_3
          clear p_h_0 p_h_1 p_h_2 p_h_3
          go_enter Try.func84, Try.ntmps84
          go_wp2
          go_ret
          exact ⟨ret_i64 (by simp only [rmostF, h_0, h_1, h_2, h_3, Bool.false_eq_true, if_true, if_false]; try rfl), by first | exact ⟨_, rfl⟩ | exact ex_ext _ hy1 | exact ex_alloc _ (ex_ext _ hy1) | exact ex_alloc _ (ex_alloc _ (ex_ext _ hy1)) | exact ex_ext _ (ex_ext _ (ex_ext _ hy1))⟩
      · have p_h_2 := beq_le h_2
        clear p_h_0 p_h_1 p_h_2
        go_enter Try.func84, Try.ntmps84
        go_wp2
        go_ret
        exact ⟨ret_i64 (by simp only [rmostF, h_0, h_1, h_2, Bool.false_eq_true, if_true, if_false]; try rfl), by first | exact ⟨_, rfl⟩ | exact ex_ext _ hy1 | exact ex_alloc _ (ex_ext _ hy1) | exact ex_alloc _ (ex_alloc _ (ex_ext _ hy1)) | exact ex_ext _ (ex_ext _ (ex_ext _ hy1))⟩
    · have p_h_1 := beq_le h_1
      clear p_h_0 p_h_1
      go_enter Try.func84, Try.ntmps84
      go_wp2
      go_ret
      exact ⟨ret_i64 (by simp only [rmostF, h_0, h_1, Bool.false_eq_true, if_true, if_false]; try rfl), by first | exact ⟨_, rfl⟩ | exact ex_ext _ hy1 | exact ex_alloc _ (ex_ext _ hy1) | exact ex_alloc _ (ex_alloc _ (ex_ext _ hy1)) | exact ex_ext _ (ex_ext _ (ex_ext _ hy1))⟩
  · have p_h_0 := of_decide_eq_true h_0
    cases h_1 : decide (k ≤ 7)
    · have p_h_1 := of_decide_eq_false h_1
      cases h_2 : (k == 8)
      · have p_h_2 := beq_ne h_2
        cases h_3 : (k == 9)
        · have p_h_3 := beq_ne h_3
          cases h_4 : decide (16 ≤ k)
          · have p_h_4 := of_decide_eq_false h_4
            cases h_5 : decide (10 ≤ k)
            · have p_h_5 := of_decide_eq_false h_5
              clear p_h_0 p_h_1 p_h_2 p_h_3 p_h_4 p_h_5
              go_enter Try.func84, Try.ntmps84
              go_wp2
              go_ret
              exact ⟨ret_i64 (by simp only [rmostF, h_0, h_1, h_2, h_3, h_4, h_5, Bool.false_eq_true, if_true, if_false]; try rfl), by first | exact ⟨_, rfl⟩ | exact ex_ext _ hy1 | exact ex_alloc _ (ex_ext _ hy1) | exact ex_alloc _ (ex_alloc _ (ex_ext _ hy1)) | exact ex_ext _ (ex_ext _ (ex_ext _ hy1))⟩
            · have p_h_5 := of_decide_eq_true h_5
              cases h_6 : decide (k ≤ 15)
              · have p_h_6 := of_decide_eq_false h_6
                clear p_h_0 p_h_1 p_h_2 p_h_3 p_h_4 p_h_5 p_h_6
                go_enter Try.func84, Try.ntmps84
                go_wp2
                go_ret
                exact ⟨ret_i64 (by simp only [rmostF, h_0, h_1, h_2, h_3, h_4, h_5, h_6, Bool.false_eq_true, if_true, if_false]; try rfl), by first | exact ⟨_, rfl⟩ | exact ex_ext _ hy1 | exact ex_alloc _ (ex_ext _ hy1) | exact ex_alloc _ (ex_alloc _ (ex_ext _ hy1)) | exact ex_ext _ (ex_ext _ (ex_ext _ hy1))⟩
              · have p_h_6 := of_decide_eq_true h_6
                clear p_h_0 p_h_1 p_h_2 p_h_3 p_h_4 p_h_5 p_h_6
                go_enter Try.func84, Try.ntmps84
                go_wp2
                go_ret
                exact ⟨ret_i64 (by simp only [rmostF, h_0, h_1, h_2, h_3, h_4, h_5, h_6, Bool.false_eq_true, if_true, if_false]; try rfl), by first | exact ⟨_, rfl⟩ | exact ex_ext _ hy1 | exact ex_alloc _ (ex_ext _ hy1) | exact ex_alloc _ (ex_alloc _ (ex_ext _ hy1)) | exact ex_ext _ (ex_ext _ (ex_ext _ hy1))⟩
          · have p_h_4 := of_decide_eq_true h_4
            clear p_h_0 p_h_1 p_h_2 p_h_3 p_h_4
            go_enter Try.func84, Try.ntmps84
            go_wp2
            go_ret
            exact ⟨ret_i64 (by simp only [rmostF, h_0, h_1, h_2, h_3, h_4, Bool.false_eq_true, if_true, if_false]; try rfl), by first | exact ⟨_, rfl⟩ | exact ex_ext _ hy1 | exact ex_alloc _ (ex_ext _ hy1) | exact ex_alloc _ (ex_alloc _ (ex_ext _ hy1)) | exact ex_ext _ (ex_ext _ (ex_ext _ hy1))⟩
        · have p_h_3 := beq_le h_3
          clear p_h_0 p_h_1 p_h_2 p_h_3
          go_enter Try.func84, Try.ntmps84
          go_wp2
          go_ret
          exact ⟨ret_i64 (by simp only [rmostF, h_0, h_1, h_2, h_3, Bool.false_eq_true, if_true, if_false]; try rfl), by first | exact ⟨_, rfl⟩ | exact ex_ext _ hy1 | exact ex_alloc _ (ex_ext _ hy1) | exact ex_alloc _ (ex_alloc _ (ex_ext _ hy1)) | exact ex_ext _ (ex_ext _ (ex_ext _ hy1))⟩
      · have p_h_2 := beq_le h_2
        clear p_h_0 p_h_1 p_h_2
        go_enter Try.func84, Try.ntmps84
        go_wp2
        go_ret
        exact ⟨ret_i64 (by simp only [rmostF, h_0, h_1, h_2, Bool.false_eq_true, if_true, if_false]; try rfl), by first | exact ⟨_, rfl⟩ | exact ex_ext _ hy1 | exact ex_alloc _ (ex_ext _ hy1) | exact ex_alloc _ (ex_alloc _ (ex_ext _ hy1)) | exact ex_ext _ (ex_ext _ (ex_ext _ hy1))⟩
    · have p_h_1 := of_decide_eq_true h_1
      clear p_h_0 p_h_1
      go_enter Try.func84, Try.ntmps84
      go_wp2
      go_ret
      exact ⟨ret_i64 (by simp only [rmostF, h_0, h_1, Bool.false_eq_true, if_true, if_false]; try rfl), by first | exact ⟨_, rfl⟩ | exact ex_ext _ hy1 | exact ex_alloc _ (ex_ext _ hy1) | exact ex_alloc _ (ex_alloc _ (ex_ext _ hy1)) | exact ex_ext _ (ex_ext _ (ex_ext _ hy1))⟩

theorem rnumbered_is (x0 : Ext w) (k : Int) {c : Bool} (hc : rnumberedF k = c) : Calls Try.prog 82 #[.int .i64 k] (w.ext x0) fun r w' => r = .returned (.bool c) ∧ ∃ x : Ext w, w' = w.ext x := by
  subst hc; exact rnumbered_any x0 k

theorem rbegins_is (x0 : Ext w) (k : Int) {c : Bool} (hc : rbeginsF k = c) : Calls Try.prog 83 #[.int .i64 k] (w.ext x0) fun r w' => r = .returned (.bool c) ∧ ∃ x : Ext w, w' = w.ext x := by
  subst hc; exact rbegins_any x0 k

def rshapeF (i : Int) (e : Ev) : Bool := if decide (e.g < 0) = true then true else (if decide (7 < e.g) = true then true else (if decide (e.kind < 0) = true then true else (if decide (17 < e.kind) = true then true else (if decide (e.no < 0) = true then true else (if decide (e.start < (-1)) = true then true else (decide (i ≤ e.start)))))))

set_option maxHeartbeats 4000000 in
theorem rshape_any (x0 : Ext w) {A : Option Addr} {l : List Ev} {lc : Nat} (hE : EvsAt w A l) (hlc : l.length ≤ lc) (hll : l.length ≤ 140737488351232) {i : Int} (h0 : 0 ≤ i) (h1 : i < l.length) :
    Calls Try.prog 61 #[.slice A l.length lc, .int .i64 i] (w.ext x0) fun r w' => r = .returned (.bool (rshapeF i (evAt l i))) ∧ ∃ x : Ext w, w' = w.ext x := by
  obtain ⟨eb, eo, rfl⟩ := hE.some (by omega)
  obtain ⟨_, q0, q1, q2, q3, q4⟩ := hE.at2 h0 h1
  generalize he : evAt l i = e at *
  obtain ⟨w1, x1, hw1, ⟨y, hy⟩, hsz, f1_0, f1_1, f1_2, f1_3, f1_4⟩ := boxEv' (w.ext x0) e
  have E1 : EvsAt w1 _ l := hy ▸ (hE.ext x0).ext y
  have hy1 : ∃ y : Ext w, w1 = w.ext y := ⟨x0.trans y, hy⟩
  clear hy he
  cases h_0 : decide (e.g < 0)
  · have p_h_0 := of_decide_eq_false h_0
    cases h_1 : decide (7 < e.g)
    · have p_h_1 := of_decide_eq_false h_1
      cases h_2 : decide (e.kind < 0)
      · have p_h_2 := of_decide_eq_false h_2
        cases h_3 : decide (17 < e.kind)
        · have p_h_3 := of_decide_eq_false h_3
          cases h_4 : decide (e.no < 0)
          · have p_h_4 := of_decide_eq_false h_4
            cases h_5 : decide (e.start < (-1))
            · have p_h_5 := of_decide_eq_false h_5
              clear p_h_0 p_h_1 p_h_2 p_h_3 p_h_4 p_h_5
              go_enter Try.func61, Try.ntmps61
              go_wp2
              go_ret
              exact ⟨ret_bool (by simp only [rshapeF, h_0, h_1, h_2, h_3, h_4, h_5, Bool.false_eq_true, if_true, if_false]; try rfl), by first | exact ⟨_, rfl⟩ | exact ex_ext _ hy1 | exact ex_alloc _ (ex_ext _ hy1) | exact ex_alloc _ (ex_alloc _ (ex_ext _ hy1)) | exact ex_ext _ (ex_ext _ (ex_ext _ hy1))⟩
            · have p_h_5 := of_decide_eq_true h_5
              clear p_h_0 p_h_1 p_h_2 p_h_3 p_h_4 p_h_5
              go_enter Try.func61, Try.ntmps61
              go_wp2
              go_ret
              exact ⟨ret_bool (by simp only [rshapeF, h_0, h_1, h_2, h_3, h_4, h_5, Bool.false_eq_true, if_true, if_false]; try rfl), by first | exact ⟨_, rfl⟩ | exact ex_ext _ hy1 | exact ex_alloc _ (ex_ext _ hy1) | exact ex_alloc _ (ex_alloc _ (ex_ext _ hy1)) | exact ex_ext _ (ex_ext _ (ex_ext _ hy1))⟩
          · have p_h_4 := of_decide_eq_true h_4
            clear p_h_0 p_h_1 p_h_2 p_h_3 p_h_4
            go_enter Try.func61, Try.ntmps61
            go_wp2
            go_ret
            exact ⟨ret_bool (by simp only [rshapeF, h_0, h_1, h_2, h_3, h_4, Bool.false_eq_true, if_true, if_false]; try rfl), by first | exact ⟨_, rfl⟩ | exact ex_ext _ hy1 | exact ex_alloc _ (ex_ext _ hy1) | exact ex_alloc _ (ex_alloc _ (ex_ext _ hy1)) | exact ex_ext _ (ex_ext _ (ex_ext _ hy1))⟩
        · have p_h_3 := of_decide_eq_true h_3
          clear p_h_0 p_h_1 p_h_2 p_h_3
          go_enter Try.func61, Try.ntmps61
          go_wp2
          go_ret
          exact ⟨ret_bool (by simp only [rshapeF, h_0, h_1, h_2, h_3, Bool.false_eq_true, if_true, if_false]; try rfl), by first | exact ⟨_, rfl⟩ | exact ex_ext _ hy1 | exact ex_alloc _ (ex_ext _ hy1) | exact ex_alloc _ (ex_alloc _ (ex_ext _ hy1)) | exact ex_ext _ (ex_ext _ (ex_ext _ hy1))⟩
      · have p_h_2 := of_decide_eq_true h_2
        clear p_h_0 p_h_1 p_h_2
        go_enter Try.func61, Try.ntmps61
        go_wp2
        go_ret
        exact ⟨ret_bool (by simp only [rshapeF, h_0, h_1, h_2, Bool.false_eq_true, if_true, if_false]; try rfl), by first | exact ⟨_, rfl⟩ | exact ex_ext _ hy1 | exact ex_alloc _ (ex_ext _ hy1) | exact ex_alloc _ (ex_alloc _ (ex_ext _ hy1)) | exact ex_ext _ (ex_ext _ (ex_ext _ hy1))⟩
    · have p_h_1 := of_decide_eq_true h_1
      clear p_h_0 p_h_1
      go_enter Try.func61, Try.ntmps61
      go_wp2
      go_ret
      exact ⟨ret_bool (by simp only [rshapeF, h_0, h_1, Bool.false_eq_true, if_true, if_false]; try rfl), by first | exact ⟨_, rfl⟩ | exact ex_ext _ hy1 | exact ex_alloc _ (ex_ext _ hy1) | exact ex_alloc _ (ex_alloc _ (ex_ext _ hy1)) | exact ex_ext _ (ex_ext _ (ex_ext _ hy1))⟩
  · have p_h_0 := of_decide_eq_true h_0
    clear p_h_0
    go_enter Try.func61, Try.ntmps61
    go_wp2
    go_ret
    exact ⟨ret_bool (by simp only [rshapeF, h_0, Bool.false_eq_true, if_true, if_false]; try rfl), by first | exact ⟨_, rfl⟩ | exact ex_ext _ hy1 | exact ex_alloc _ (ex_ext _ hy1) | exact ex_alloc _ (ex_alloc _ (ex_ext _ hy1)) | exact ex_ext _ (ex_ext _ (ex_ext _ hy1))⟩

def rbegunF (l : List Ev) (i : Int) (e : Ev) : Bool := if (e.kind != 0) = true then (decide (lastFrom l e.g i.toNat < 0)) else (if decide (0 ≤ lastFrom l e.g i.toNat) = true then true else (if (e.obj != 0) = true then true else (if (e.no != 0) = true then true else (if (e.g == 0) = true then (if (e.start != (-1)) = true then true else (if decide (0 < e.g) = true then (if decide (e.start < 0) = true then true else (if (((evAt l e.start).kind) != 1) = true then true else (((evAt l e.start).obj) != e.g))) else false)) else (if decide (0 < e.g) = true then (if decide (e.start < 0) = true then true else (if (((evAt l e.start).kind) != 1) = true then true else (((evAt l e.start).obj) != e.g))) else false)))))

set_option maxHeartbeats 4000000 in
theorem rbegun_any (x0 : Ext w) {A : Option Addr} {l : List Ev} {lc : Nat} (hE : EvsAt w A l) (hlc : l.length ≤ lc) (hll : l.length ≤ 140737488351232) {i : Int} (h0 : 0 ≤ i) (h1 : i < l.length) (hs0 : -1 ≤ (evAt l i).start) (hs1 : (evAt l i).start < i) :
    Calls Try.prog 62 #[.slice A l.length lc, .int .i64 i] (w.ext x0) fun r w' => r = .returned (.bool (rbegunF l i (evAt l i))) ∧ ∃ x : Ext w, w' = w.ext x := by
  obtain ⟨eb, eo, rfl⟩ := hE.some (by omega)
  obtain ⟨_, q0, q1, q2, q3, q4⟩ := hE.at2 h0 h1
  generalize he : evAt l i = e at *
  obtain ⟨w1, x1, hw1, ⟨y, hy⟩, hsz, f1_0, f1_1, f1_2, f1_3, f1_4⟩ := boxEv' (w.ext x0) e
  have E1 : EvsAt w1 _ l := hy ▸ (hE.ext x0).ext y
  have hy1 : ∃ y : Ext w, w1 = w.ext y := ⟨x0.trans y, hy⟩
  have hL1 : ∀ x : Ext w1, Calls Try.prog 14 #[.slice (some ⟨eb, eo, none⟩) l.length lc, .int .i64 i] (w1.ext x) fun r w' => r = .returned (.int .i64 (lastFrom l e.g i.toNat)) ∧ ∃ z : Ext w1, w' = w1.ext z := fun x => by have := rlast_any x E1 hlc hll h0 h1; rw [he] at this; exact this
  clear hy he
  cases h_0 : (e.kind != 0)
  · have p_h_0 := bne_le h_0
    cases h_1 : decide (0 ≤ lastFrom l e.g i.toNat)
    · have p_h_1 := of_decide_eq_false h_1
      cases h_2 : (e.obj != 0)
      · have p_h_2 := bne_le h_2
        cases h_3 : (e.no != 0)
        · have p_h_3 := bne_le h_3
          cases h_4 : (e.g == 0)
          · have p_h_4 := beq_ne h_4
            cases h_5 : decide (0 < e.g)
            · have p_h_5 := of_decide_eq_false h_5
              clear p_h_0 p_h_1 p_h_2 p_h_3 p_h_4 p_h_5
              go_enter Try.func62, Try.ntmps62
              go_wp2_with ((first | (go_at_call 14; refine (hL1 _).mono ?_; rintro _ _ ⟨rfl, z, rfl⟩)))
              refine region_at (by kernel_rfl) (by kernel_rfl) ?_
              repeat (go_big_quiet_step ((first | (go_at_call 14; exact hL1 _))))
              refine wpQuiet_nil ?_
              rintro _ ⟨x, rfl⟩
              go_wp2_with ((first | (go_at_call 14; refine (hL1 _).mono ?_; rintro _ _ ⟨rfl, z, rfl⟩)))
              go_ret
              exact ⟨ret_bool (by simp only [rbegunF, h_0, h_1, h_2, h_3, h_4, h_5, Bool.false_eq_true, if_true, if_false]; try rfl), by first | exact ⟨_, rfl⟩ | exact ex_ext _ hy1 | exact ex_alloc _ (ex_ext _ hy1) | exact ex_alloc _ (ex_alloc _ (ex_ext _ hy1)) | exact ex_ext _ (ex_ext _ (ex_ext _ hy1))⟩
            · have p_h_5 := of_decide_eq_true h_5
              cases h_6 : decide (e.start < 0)
              · have p_h_6 := of_decide_eq_false h_6
                cases h_7 : (((evAt l e.start).kind) != 1)
                · have p_h_7 := bne_le h_7
                  have b1_0 : (0 : Int) ≤ e.start := by omega
                  have b1_1 : e.start < (l.length : Int) := by omega
                  obtain ⟨_, k1_0, k1_1, k1_2, k1_3, k1_4⟩ := E1.at2 (i := e.start) (by omega) (by omega)
                  clear p_h_0 p_h_1 p_h_2 p_h_3 p_h_4 p_h_5 p_h_6 p_h_7
                  go_enter Try.func62, Try.ntmps62
                  go_wp2_with ((first | (go_at_call 14; refine (hL1 _).mono ?_; rintro _ _ ⟨rfl, z, rfl⟩)))
                  refine region_at (by kernel_rfl) (by kernel_rfl) ?_
                  repeat (go_big_quiet_step ((first | (go_at_call 14; exact hL1 _))))
                  refine wpQuiet_nil ?_
                  rintro _ ⟨x, rfl⟩
                  go_wp2_with ((first | (go_at_call 14; refine (hL1 _).mono ?_; rintro _ _ ⟨rfl, z, rfl⟩)))
                  go_ret
                  exact ⟨ret_bool (by simp only [rbegunF, h_0, h_1, h_2, h_3, h_4, h_5, h_6, h_7, Bool.false_eq_true, if_true, if_false]; try rfl), by first | exact ⟨_, rfl⟩ | exact ex_ext _ hy1 | exact ex_alloc _ (ex_ext _ hy1) | exact ex_alloc _ (ex_alloc _ (ex_ext _ hy1)) | exact ex_ext _ (ex_ext _ (ex_ext _ hy1))⟩
                · have p_h_7 := bne_ne h_7
                  have b1_0 : (0 : Int) ≤ e.start := by omega
                  have b1_1 : e.start < (l.length : Int) := by omega
                  obtain ⟨_, k1_0, k1_1, k1_2, k1_3, k1_4⟩ := E1.at2 (i := e.start) (by omega) (by omega)
                  clear p_h_0 p_h_1 p_h_2 p_h_3 p_h_4 p_h_5 p_h_6 p_h_7
                  go_enter Try.func62, Try.ntmps62
                  go_wp2_with ((first | (go_at_call 14; refine (hL1 _).mono ?_; rintro _ _ ⟨rfl, z, rfl⟩)))
                  refine region_at (by kernel_rfl) (by kernel_rfl) ?_
                  repeat (go_big_quiet_step ((first | (go_at_call 14; exact hL1 _))))
                  refine wpQuiet_nil ?_
                  rintro _ ⟨x, rfl⟩
                  go_wp2_with ((first | (go_at_call 14; refine (hL1 _).mono ?_; rintro _ _ ⟨rfl, z, rfl⟩)))
                  go_ret
                  exact ⟨ret_bool (by simp only [rbegunF, h_0, h_1, h_2, h_3, h_4, h_5, h_6, h_7, Bool.false_eq_true, if_true, if_false]; try rfl), by first | exact ⟨_, rfl⟩ | exact ex_ext _ hy1 | exact ex_alloc _ (ex_ext _ hy1) | exact ex_alloc _ (ex_alloc _ (ex_ext _ hy1)) | exact ex_ext _ (ex_ext _ (ex_ext _ hy1))⟩
              · have p_h_6 := of_decide_eq_true h_6
                clear p_h_0 p_h_1 p_h_2 p_h_3 p_h_4 p_h_5 p_h_6
                go_enter Try.func62, Try.ntmps62
                go_wp2_with ((first | (go_at_call 14; refine (hL1 _).mono ?_; rintro _ _ ⟨rfl, z, rfl⟩)))
                refine region_at (by kernel_rfl) (by kernel_rfl) ?_
                repeat (go_big_quiet_step ((first | (go_at_call 14; exact hL1 _))))
                refine wpQuiet_nil ?_
                rintro _ ⟨x, rfl⟩
                go_wp2_with ((first | (go_at_call 14; refine (hL1 _).mono ?_; rintro _ _ ⟨rfl, z, rfl⟩)))
                go_ret
                exact ⟨ret_bool (by simp only [rbegunF, h_0, h_1, h_2, h_3, h_4, h_5, h_6, Bool.false_eq_true, if_true, if_false]; try rfl), by first | exact ⟨_, rfl⟩ | exact ex_ext _ hy1 | exact ex_alloc _ (ex_ext _ hy1) | exact ex_alloc _ (ex_alloc _ (ex_ext _ hy1)) | exact ex_ext _ (ex_ext _ (ex_ext _ hy1))⟩
          · have p_h_4 := beq_le h_4
            cases h_5 : (e.start != (-1))
            · have p_h_5 := bne_le h_5
              cases h_6 : decide (0 < e.g)
              · have p_h_6 := of_decide_eq_false h_6
                clear p_h_0 p_h_1 p_h_2 p_h_3 p_h_4 p_h_5 p_h_6
                go_enter Try.func62, Try.ntmps62
                go_wp2_with ((first | (go_at_call 14; refine (hL1 _).mono ?_; rintro _ _ ⟨rfl, z, rfl⟩)))
                refine region_at (by kernel_rfl) (by kernel_rfl) ?_
                repeat (go_big_quiet_step ((first | (go_at_call 14; exact hL1 _))))
                refine wpQuiet_nil ?_
                rintro _ ⟨x, rfl⟩
                go_wp2_with ((first | (go_at_call 14; refine (hL1 _).mono ?_; rintro _ _ ⟨rfl, z, rfl⟩)))
                go_ret
                exact ⟨ret_bool (by simp only [rbegunF, h_0, h_1, h_2, h_3, h_4, h_5, h_6, Bool.false_eq_true, if_true, if_false]; try rfl), by first | exact ⟨_, rfl⟩ | exact ex_ext _ hy1 | exact ex_alloc _ (ex_ext _ hy1) | exact ex_alloc _ (ex_alloc _ (ex_ext _ hy1)) | exact ex_ext _ (ex_ext _ (ex_ext _ hy1))⟩
              · have p_h_6 := of_decide_eq_true h_6
                cases h_7 : decide (e.start < 0)
                · have p_h_7 := of_decide_eq_false h_7
                  cases h_8 : (((evAt l e.start).kind) != 1)
                  · have p_h_8 := bne_le h_8
                    have b1_0 : (0 : Int) ≤ e.start := by omega
                    have b1_1 : e.start < (l.length : Int) := by omega
                    obtain ⟨_, k1_0, k1_1, k1_2, k1_3, k1_4⟩ := E1.at2 (i := e.start) (by omega) (by omega)
                    clear p_h_0 p_h_1 p_h_2 p_h_3 p_h_4 p_h_5 p_h_6 p_h_7 p_h_8
                    go_enter Try.func62, Try.ntmps62
                    go_wp2_with ((first | (go_at_call 14; refine (hL1 _).mono ?_; rintro _ _ ⟨rfl, z, rfl⟩)))
                    refine region_at (by kernel_rfl) (by kernel_rfl) ?_
                    repeat (go_big_quiet_step ((first | (go_at_call 14; exact hL1 _))))
                    refine wpQuiet_nil ?_
                    rintro _ ⟨x, rfl⟩
                    go_wp2_with ((first | (go_at_call 14; refine (hL1 _).mono ?_; rintro _ _ ⟨rfl, z, rfl⟩)))
                    go_ret
                    exact ⟨ret_bool (by simp only [rbegunF, h_0, h_1, h_2, h_3, h_4, h_5, h_6, h_7, h_8, Bool.false_eq_true, if_true, if_false]; try rfl), by first | exact ⟨_, rfl⟩ | exact ex_ext _ hy1 | exact ex_alloc _ (ex_ext _ hy1) | exact ex_alloc _ (ex_alloc _ (ex_ext _ hy1)) | exact ex_ext _ (ex_ext _ (ex_ext _ hy1))⟩
                  · have p_h_8 := bne_ne h_8
                    have b1_0 : (0 : Int) ≤ e.start := by omega
                    have b1_1 : e.start < (l.length : Int) := by omega
                    obtain ⟨_, k1_0, k1_1, k1_2, k1_3, k1_4⟩ := E1.at2 (i := e.start) (by omega) (by omega)
                    clear p_h_0 p_h_1 p_h_2 p_h_3 p_h_4 p_h_5 p_h_6 p_h_7 p_h_8
                    go_enter Try.func62, Try.ntmps62
                    go_wp2_with ((first | (go_at_call 14; refine (hL1 _).mono ?_; rintro _ _ ⟨rfl, z, rfl⟩)))
                    refine region_at (by kernel_rfl) (by kernel_rfl) ?_
                    repeat (go_big_quiet_step ((first | (go_at_call 14; exact hL1 _))))
                    refine wpQuiet_nil ?_
                    rintro _ ⟨x, rfl⟩
                    go_wp2_with ((first | (go_at_call 14; refine (hL1 _).mono ?_; rintro _ _ ⟨rfl, z, rfl⟩)))
                    go_ret
                    exact ⟨ret_bool (by simp only [rbegunF, h_0, h_1, h_2, h_3, h_4, h_5, h_6, h_7, h_8, Bool.false_eq_true, if_true, if_false]; try rfl), by first | exact ⟨_, rfl⟩ | exact ex_ext _ hy1 | exact ex_alloc _ (ex_ext _ hy1) | exact ex_alloc _ (ex_alloc _ (ex_ext _ hy1)) | exact ex_ext _ (ex_ext _ (ex_ext _ hy1))⟩
                · have p_h_7 := of_decide_eq_true h_7
                  clear p_h_0 p_h_1 p_h_2 p_h_3 p_h_4 p_h_5 p_h_6 p_h_7
                  go_enter Try.func62, Try.ntmps62
                  go_wp2_with ((first | (go_at_call 14; refine (hL1 _).mono ?_; rintro _ _ ⟨rfl, z, rfl⟩)))
                  refine region_at (by kernel_rfl) (by kernel_rfl) ?_
                  repeat (go_big_quiet_step ((first | (go_at_call 14; exact hL1 _))))
                  refine wpQuiet_nil ?_
                  rintro _ ⟨x, rfl⟩
                  go_wp2_with ((first | (go_at_call 14; refine (hL1 _).mono ?_; rintro _ _ ⟨rfl, z, rfl⟩)))
                  go_ret
                  exact ⟨ret_bool (by simp only [rbegunF, h_0, h_1, h_2, h_3, h_4, h_5, h_6, h_7, Bool.false_eq_true, if_true, if_false]; try rfl), by first | exact ⟨_, rfl⟩ | exact ex_ext _ hy1 | exact ex_alloc _ (ex_ext _ hy1) | exact ex_alloc _ (ex_alloc _ (ex_ext _ hy1)) | exact ex_ext _ (ex_ext _ (ex_ext _ hy1))⟩
            · have p_h_5 := bne_ne h_5
              clear p_h_0 p_h_1 p_h_2 p_h_3 p_h_4 p_h_5
              go_enter Try.func62, Try.ntmps62
              go_wp2_with ((first | (go_at_call 14; refine (hL1 _).mono ?_; rintro _ _ ⟨rfl, z, rfl⟩)))
              go_ret
              exact ⟨ret_bool (by simp only [rbegunF, h_0, h_1, h_2, h_3, h_4, h_5, Bool.false_eq_true, if_true, if_false]; try rfl), by first | exact ⟨_, rfl⟩ | exact ex_ext _ hy1 | exact ex_alloc _ (ex_ext _ hy1) | exact ex_alloc _ (ex_alloc _ (ex_ext _ hy1)) | exact ex_ext _ (ex_ext _ (ex_ext _ hy1))⟩
        · have p_h_3 := bne_ne h_3
          clear p_h_0 p_h_1 p_h_2 p_h_3
          go_enter Try.func62, Try.ntmps62
          go_wp2_with ((first | (go_at_call 14; refine (hL1 _).mono ?_; rintro _ _ ⟨rfl, z, rfl⟩)))
          go_ret
          exact ⟨ret_bool (by simp only [rbegunF, h_0, h_1, h_2, h_3, Bool.false_eq_true, if_true, if_false]; try rfl), by first | exact ⟨_, rfl⟩ | exact ex_ext _ hy1 | exact ex_alloc _ (ex_ext _ hy1) | exact ex_alloc _ (ex_alloc _ (ex_ext _ hy1)) | exact ex_ext _ (ex_ext _ (ex_ext _ hy1))⟩
      · have p_h_2 := bne_ne h_2
        clear p_h_0 p_h_1 p_h_2
        go_enter Try.func62, Try.ntmps62
        go_wp2_with ((first | (go_at_call 14; refine (hL1 _).mono ?_; rintro _ _ ⟨rfl, z, rfl⟩)))
        go_ret
        exact ⟨ret_bool (by simp only [rbegunF, h_0, h_1, h_2, Bool.false_eq_true, if_true, if_false]; try rfl), by first | exact ⟨_, rfl⟩ | exact ex_ext _ hy1 | exact ex_alloc _ (ex_ext _ hy1) | exact ex_alloc _ (ex_alloc _ (ex_ext _ hy1)) | exact ex_ext _ (ex_ext _ (ex_ext _ hy1))⟩
    · have p_h_1 := of_decide_eq_true h_1
      clear p_h_0 p_h_1
      go_enter Try.func62, Try.ntmps62
      go_wp2_with ((first | (go_at_call 14; refine (hL1 _).mono ?_; rintro _ _ ⟨rfl, z, rfl⟩)))
      go_ret
      exact ⟨ret_bool (by simp only [rbegunF, h_0, h_1, Bool.false_eq_true, if_true, if_false]; try rfl), by first | exact ⟨_, rfl⟩ | exact ex_ext _ hy1 | exact ex_alloc _ (ex_ext _ hy1) | exact ex_alloc _ (ex_alloc _ (ex_ext _ hy1)) | exact ex_ext _ (ex_ext _ (ex_ext _ hy1))⟩
  · have p_h_0 := bne_ne h_0
    clear p_h_0
    go_enter Try.func62, Try.ntmps62
    go_wp2_with ((first | (go_at_call 14; refine (hL1 _).mono ?_; rintro _ _ ⟨rfl, z, rfl⟩)))
    go_ret
    exact ⟨ret_bool (by simp only [rbegunF, h_0, Bool.false_eq_true, if_true, if_false]; try rfl), by first | exact ⟨_, rfl⟩ | exact ex_ext _ hy1 | exact ex_alloc _ (ex_ext _ hy1) | exact ex_alloc _ (ex_alloc _ (ex_ext _ hy1)) | exact ex_ext _ (ex_ext _ (ex_ext _ hy1))⟩

def rbeganF (l : List Ev) (i : Int) (e : Ev) : Bool := if (e.kind == 0) = true then false else (if rbeginsF e.kind = true then (if decide (e.start < 0) = true then true else (if (e.start != (lastFrom l e.g i.toNat)) = true then true else (if decide (e.kind ≤ 6) = true then (if (((evAt l e.start).kind) == 8) = true then false else (if (((evAt l e.start).kind) != (roriginF e.kind)) = true then true else (((evAt l e.start).obj) != e.obj))) else (if (((evAt l e.start).kind) != (roriginF e.kind)) = true then true else (((evAt l e.start).obj) != e.obj))))) else false)

set_option maxHeartbeats 4000000 in
theorem rbegan_any (x0 : Ext w) {A : Option Addr} {l : List Ev} {lc : Nat} (hE : EvsAt w A l) (hlc : l.length ≤ lc) (hll : l.length ≤ 140737488351232) {i : Int} (h0 : 0 ≤ i) (h1 : i < l.length) (hs0 : -1 ≤ (evAt l i).start) (hs1 : (evAt l i).start < i) :
    Calls Try.prog 64 #[.slice A l.length lc, .int .i64 i] (w.ext x0) fun r w' => r = .returned (.bool (rbeganF l i (evAt l i))) ∧ ∃ x : Ext w, w' = w.ext x := by
  obtain ⟨eb, eo, rfl⟩ := hE.some (by omega)
  obtain ⟨_, q0, q1, q2, q3, q4⟩ := hE.at2 h0 h1
  generalize he : evAt l i = e at *
  obtain ⟨w1, x1, hw1, ⟨y, hy⟩, hsz, f1_0, f1_1, f1_2, f1_3, f1_4⟩ := boxEv' (w.ext x0) e
  have E1 : EvsAt w1 _ l := hy ▸ (hE.ext x0).ext y
  have hy1 : ∃ y : Ext w, w1 = w.ext y := ⟨x0.trans y, hy⟩
  have hL1 : ∀ x : Ext w1, Calls Try.prog 14 #[.slice (some ⟨eb, eo, none⟩) l.length lc, .int .i64 i] (w1.ext x) fun r w' => r = .returned (.int .i64 (lastFrom l e.g i.toNat)) ∧ ∃ z : Ext w1, w' = w1.ext z := fun x => by have := rlast_any x E1 hlc hll h0 h1; rw [he] at this; exact this
  have hlw : ∀ z : Ext w1, (w.ext x0).heap.size < (w1.ext z).heap.size := fun z => World.ext_lt w1 z hsz
  clear hy he
  cases h_0 : (e.kind == 0)
  · have p_h_0 := beq_ne h_0
    cases h_1 : rbeginsF e.kind
    · clear p_h_0
      go_enter Try.func64, Try.ntmps64
      go_wp2_with ((first | (go_at_call 14; refine (hL1 _).mono ?_; rintro _ _ ⟨rfl, z, rfl⟩) | (go_at_call 83; refine (rbegins_is _ _ h_1).mono ?_; rintro _ _ ⟨rfl, z, rfl⟩) | (go_at_call 85; refine (rorigin_any _ _).mono ?_; rintro _ _ ⟨rfl, z, rfl⟩)))
      go_ret
      exact ⟨ret_bool (by simp only [rbeganF, h_0, h_1, Bool.false_eq_true, if_true, if_false]; try rfl), by first | exact ⟨_, rfl⟩ | exact ex_ext _ hy1 | exact ex_alloc _ (ex_ext _ hy1) | exact ex_alloc _ (ex_alloc _ (ex_ext _ hy1)) | exact ex_ext _ (ex_ext _ (ex_ext _ hy1))⟩
    · cases h_2 : decide (e.start < 0)
      · have p_h_2 := of_decide_eq_false h_2
        cases h_3 : (e.start != (lastFrom l e.g i.toNat))
        · have p_h_3 := bne_le h_3
          cases h_4 : decide (e.kind ≤ 6)
          · have p_h_4 := of_decide_eq_false h_4
            cases h_5 : (((evAt l e.start).kind) != (roriginF e.kind))
            · have p_h_5 := bne_le h_5
              have b1_0 : (0 : Int) ≤ e.start := by omega
              have b1_1 : e.start < (l.length : Int) := by omega
              obtain ⟨_, k1_0, k1_1, k1_2, k1_3, k1_4⟩ := E1.at2 (i := e.start) (by omega) (by omega)
              clear p_h_0 p_h_2 p_h_3 p_h_4 p_h_5
              go_enter Try.func64, Try.ntmps64
              go_wp2_with ((first | (go_at_call 14; refine (hL1 _).mono ?_; rintro _ _ ⟨rfl, z, rfl⟩) | (go_at_call 83; refine (rbegins_is _ _ h_1).mono ?_; rintro _ _ ⟨rfl, z, rfl⟩) | (go_at_call 85; refine (rorigin_any _ _).mono ?_; rintro _ _ ⟨rfl, z, rfl⟩)))
              refine region_at (by kernel_rfl) (by kernel_rfl) ?_
              repeat (go_big_quiet_step ((first | (go_at_call 14; exact hL1 _) | (go_at_call 83; exact rbegins_is _ _ h_1) | (go_at_call 85; exact rorigin_any _ _))))
              refine wpQuiet_nil ?_
              rintro _ ⟨x, rfl⟩
              go_wp2_with ((first | (go_at_call 14; refine (hL1 _).mono ?_; rintro _ _ ⟨rfl, z, rfl⟩) | (go_at_call 83; refine (rbegins_is _ _ h_1).mono ?_; rintro _ _ ⟨rfl, z, rfl⟩) | (go_at_call 85; refine (rorigin_any _ _).mono ?_; rintro _ _ ⟨rfl, z, rfl⟩)))
              obtain ⟨w2, x2, hw2, ⟨y2, rfl⟩, hsz2, f2_0, f2_1, f2_2, f2_3, f2_4⟩ := boxEv' (w1.ext x) (evAt l e.start)
              rw [hw2]
              have f3_0 : ∀ z : Ext ((w1.ext x).ext y2), (((w1.ext x).ext y2).ext z).cell? ⟨(w.ext x0).heap.size, 0, none⟩ = some (.int .i64 e.g) := fun z => f1_0 ((x.trans y2).trans z)
              have f3_1 : ∀ z : Ext ((w1.ext x).ext y2), (((w1.ext x).ext y2).ext z).cell? ⟨(w.ext x0).heap.size, 1, none⟩ = some (.int .i64 e.kind) := fun z => f1_1 ((x.trans y2).trans z)
              have f3_2 : ∀ z : Ext ((w1.ext x).ext y2), (((w1.ext x).ext y2).ext z).cell? ⟨(w.ext x0).heap.size, 2, none⟩ = some (.int .i64 e.obj) := fun z => f1_2 ((x.trans y2).trans z)
              have f3_3 : ∀ z : Ext ((w1.ext x).ext y2), (((w1.ext x).ext y2).ext z).cell? ⟨(w.ext x0).heap.size, 3, none⟩ = some (.int .i64 e.no) := fun z => f1_3 ((x.trans y2).trans z)
              have f3_4 : ∀ z : Ext ((w1.ext x).ext y2), (((w1.ext x).ext y2).ext z).cell? ⟨(w.ext x0).heap.size, 4, none⟩ = some (.int .i64 e.start) := fun z => f1_4 ((x.trans y2).trans z)
              go_wp2_with ((first | (go_at_call 14; refine (hL1 _).mono ?_; rintro _ _ ⟨rfl, z, rfl⟩) | (go_at_call 83; refine (rbegins_is _ _ h_1).mono ?_; rintro _ _ ⟨rfl, z, rfl⟩) | (go_at_call 85; refine (rorigin_any _ _).mono ?_; rintro _ _ ⟨rfl, z, rfl⟩)))
              refine region_at (by kernel_rfl) (by kernel_rfl) ?_
              repeat (go_big_quiet_step ((first | (go_at_call 14; exact hL1 _) | (go_at_call 83; exact rbegins_is _ _ h_1) | (go_at_call 85; exact rorigin_any _ _))))
              refine wpQuiet_nil ?_
              rintro _ ⟨x, rfl⟩
              go_wp2_with ((first | (go_at_call 14; refine (hL1 _).mono ?_; rintro _ _ ⟨rfl, z, rfl⟩) | (go_at_call 83; refine (rbegins_is _ _ h_1).mono ?_; rintro _ _ ⟨rfl, z, rfl⟩) | (go_at_call 85; refine (rorigin_any _ _).mono ?_; rintro _ _ ⟨rfl, z, rfl⟩)))
              go_ret
              exact ⟨ret_bool (by simp only [rbeganF, h_0, h_1, h_2, h_3, h_4, h_5, Bool.false_eq_true, if_true, if_false]; try rfl), by first | exact ⟨_, rfl⟩ | exact ex_ext _ hy1 | exact ex_alloc _ (ex_ext _ hy1) | exact ex_alloc _ (ex_alloc _ (ex_ext _ hy1)) | exact ex_ext _ (ex_ext _ (ex_ext _ hy1))⟩
            · have p_h_5 := bne_ne h_5
              have b1_0 : (0 : Int) ≤ e.start := by omega
              have b1_1 : e.start < (l.length : Int) := by omega
              obtain ⟨_, k1_0, k1_1, k1_2, k1_3, k1_4⟩ := E1.at2 (i := e.start) (by omega) (by omega)
              clear p_h_0 p_h_2 p_h_3 p_h_4 p_h_5
              go_enter Try.func64, Try.ntmps64
              go_wp2_with ((first | (go_at_call 14; refine (hL1 _).mono ?_; rintro _ _ ⟨rfl, z, rfl⟩) | (go_at_call 83; refine (rbegins_is _ _ h_1).mono ?_; rintro _ _ ⟨rfl, z, rfl⟩) | (go_at_call 85; refine (rorigin_any _ _).mono ?_; rintro _ _ ⟨rfl, z, rfl⟩)))
              refine region_at (by kernel_rfl) (by kernel_rfl) ?_
              repeat (go_big_quiet_step ((first | (go_at_call 14; exact hL1 _) | (go_at_call 83; exact rbegins_is _ _ h_1) | (go_at_call 85; exact rorigin_any _ _))))
              refine wpQuiet_nil ?_
              rintro _ ⟨x, rfl⟩
              go_wp2_with ((first | (go_at_call 14; refine (hL1 _).mono ?_; rintro _ _ ⟨rfl, z, rfl⟩) | (go_at_call 83; refine (rbegins_is _ _ h_1).mono ?_; rintro _ _ ⟨rfl, z, rfl⟩) | (go_at_call 85; refine (rorigin_any _ _).mono ?_; rintro _ _ ⟨rfl, z, rfl⟩)))
              obtain ⟨w2, x2, hw2, ⟨y2, rfl⟩, hsz2, f2_0, f2_1, f2_2, f2_3, f2_4⟩ := boxEv' (w1.ext x) (evAt l e.start)
              rw [hw2]
              have f3_0 : ∀ z : Ext ((w1.ext x).ext y2), (((w1.ext x).ext y2).ext z).cell? ⟨(w.ext x0).heap.size, 0, none⟩ = some (.int .i64 e.g) := fun z => f1_0 ((x.trans y2).trans z)
              have f3_1 : ∀ z : Ext ((w1.ext x).ext y2), (((w1.ext x).ext y2).ext z).cell? ⟨(w.ext x0).heap.size, 1, none⟩ = some (.int .i64 e.kind) := fun z => f1_1 ((x.trans y2).trans z)
              have f3_2 : ∀ z : Ext ((w1.ext x).ext y2), (((w1.ext x).ext y2).ext z).cell? ⟨(w.ext x0).heap.size, 2, none⟩ = some (.int .i64 e.obj) := fun z => f1_2 ((x.trans y2).trans z)
              have f3_3 : ∀ z : Ext ((w1.ext x).ext y2), (((w1.ext x).ext y2).ext z).cell? ⟨(w.ext x0).heap.size, 3, none⟩ = some (.int .i64 e.no) := fun z => f1_3 ((x.trans y2).trans z)
              have f3_4 : ∀ z : Ext ((w1.ext x).ext y2), (((w1.ext x).ext y2).ext z).cell? ⟨(w.ext x0).heap.size, 4, none⟩ = some (.int .i64 e.start) := fun z => f1_4 ((x.trans y2).trans z)
              go_wp2_with ((first | (go_at_call 14; refine (hL1 _).mono ?_; rintro _ _ ⟨rfl, z, rfl⟩) | (go_at_call 83; refine (rbegins_is _ _ h_1).mono ?_; rintro _ _ ⟨rfl, z, rfl⟩) | (go_at_call 85; refine (rorigin_any _ _).mono ?_; rintro _ _ ⟨rfl, z, rfl⟩)))
              refine region_at (by kernel_rfl) (by kernel_rfl) ?_
              repeat (go_big_quiet_step ((first | (go_at_call 14; exact hL1 _) | (go_at_call 83; exact rbegins_is _ _ h_1) | (go_at_call 85; exact rorigin_any _ _))))
              refine wpQuiet_nil ?_
              rintro _ ⟨x, rfl⟩
              go_wp2_with ((first | (go_at_call 14; refine (hL1 _).mono ?_; rintro _ _ ⟨rfl, z, rfl⟩) | (go_at_call 83; refine (rbegins_is _ _ h_1).mono ?_; rintro _ _ ⟨rfl, z, rfl⟩) | (go_at_call 85; refine (rorigin_any _ _).mono ?_; rintro _ _ ⟨rfl, z, rfl⟩)))
              go_ret
              exact ⟨ret_bool (by simp only [rbeganF, h_0, h_1, h_2, h_3, h_4, h_5, Bool.false_eq_true, if_true, if_false]; try rfl), by first | exact ⟨_, rfl⟩ | exact ex_ext _ hy1 | exact ex_alloc _ (ex_ext _ hy1) | exact ex_alloc _ (ex_alloc _ (ex_ext _ hy1)) | exact ex_ext _ (ex_ext _ (ex_ext _ hy1))⟩
          · have p_h_4 := of_decide_eq_true h_4
            cases h_5 : (((evAt l e.start).kind) == 8)
            · have p_h_5 := beq_ne h_5
              cases h_6 : (((evAt l e.start).kind) != (roriginF e.kind))
              · have p_h_6 := bne_le h_6
                have b1_0 : (0 : Int) ≤ e.start := by omega
                have b1_1 : e.start < (l.length : Int) := by omega
                obtain ⟨_, k1_0, k1_1, k1_2, k1_3, k1_4⟩ := E1.at2 (i := e.start) (by omega) (by omega)
                clear p_h_0 p_h_2 p_h_3 p_h_4 p_h_5 p_h_6
                go_enter Try.func64, Try.ntmps64
                go_wp2_with ((first | (go_at_call 14; refine (hL1 _).mono ?_; rintro _ _ ⟨rfl, z, rfl⟩) | (go_at_call 83; refine (rbegins_is _ _ h_1).mono ?_; rintro _ _ ⟨rfl, z, rfl⟩) | (go_at_call 85; refine (rorigin_any _ _).mono ?_; rintro _ _ ⟨rfl, z, rfl⟩)))
                refine region_at (by kernel_rfl) (by kernel_rfl) ?_
                repeat (go_big_quiet_step ((first | (go_at_call 14; exact hL1 _) | (go_at_call 83; exact rbegins_is _ _ h_1) | (go_at_call 85; exact rorigin_any _ _))))
                refine wpQuiet_nil ?_
                rintro _ ⟨x, rfl⟩
                go_wp2_with ((first | (go_at_call 14; refine (hL1 _).mono ?_; rintro _ _ ⟨rfl, z, rfl⟩) | (go_at_call 83; refine (rbegins_is _ _ h_1).mono ?_; rintro _ _ ⟨rfl, z, rfl⟩) | (go_at_call 85; refine (rorigin_any _ _).mono ?_; rintro _ _ ⟨rfl, z, rfl⟩)))
                obtain ⟨w2, x2, hw2, ⟨y2, rfl⟩, hsz2, f2_0, f2_1, f2_2, f2_3, f2_4⟩ := boxEv' (w1.ext x) (evAt l e.start)
                rw [hw2]
                have f3_0 : ∀ z : Ext ((w1.ext x).ext y2), (((w1.ext x).ext y2).ext z).cell? ⟨(w.ext x0).heap.size, 0, none⟩ = some (.int .i64 e.g) := fun z => f1_0 ((x.trans y2).trans z)
                have f3_1 : ∀ z : Ext ((w1.ext x).ext y2), (((w1.ext x).ext y2).ext z).cell? ⟨(w.ext x0).heap.size, 1, none⟩ = some (.int .i64 e.kind) := fun z => f1_1 ((x.trans y2).trans z)
                have f3_2 : ∀ z : Ext ((w1.ext x).ext y2), (((w1.ext x).ext y2).ext z).cell? ⟨(w.ext x0).heap.size, 2, none⟩ = some (.int .i64 e.obj) := fun z => f1_2 ((x.trans y2).trans z)
                have f3_3 : ∀ z : Ext ((w1.ext x).ext y2), (((w1.ext x).ext y2).ext z).cell? ⟨(w.ext x0).heap.size, 3, none⟩ = some (.int .i64 e.no) := fun z => f1_3 ((x.trans y2).trans z)
                have f3_4 : ∀ z : Ext ((w1.ext x).ext y2), (((w1.ext x).ext y2).ext z).cell? ⟨(w.ext x0).heap.size, 4, none⟩ = some (.int .i64 e.start) := fun z => f1_4 ((x.trans y2).trans z)
                go_wp2_with ((first | (go_at_call 14; refine (hL1 _).mono ?_; rintro _ _ ⟨rfl, z, rfl⟩) | (go_at_call 83; refine (rbegins_is _ _ h_1).mono ?_; rintro _ _ ⟨rfl, z, rfl⟩) | (go_at_call 85; refine (rorigin_any _ _).mono ?_; rintro _ _ ⟨rfl, z, rfl⟩)))
                refine region_at (by kernel_rfl) (by kernel_rfl) ?_
                repeat (go_big_quiet_step ((first | (go_at_call 14; exact hL1 _) | (go_at_call 83; exact rbegins_is _ _ h_1) | (go_at_call 85; exact rorigin_any _ _))))
                refine wpQuiet_nil ?_
                rintro _ ⟨x, rfl⟩
                go_wp2_with ((first | (go_at_call 14; refine (hL1 _).mono ?_; rintro _ _ ⟨rfl, z, rfl⟩) | (go_at_call 83; refine (rbegins_is _ _ h_1).mono ?_; rintro _ _ ⟨rfl, z, rfl⟩) | (go_at_call 85; refine (rorigin_any _ _).mono ?_; rintro _ _ ⟨rfl, z, rfl⟩)))
                go_ret
                exact ⟨ret_bool (by simp only [rbeganF, h_0, h_1, h_2, h_3, h_4, h_5, h_6, Bool.false_eq_true, if_true, if_false]; try rfl), by first | exact ⟨_, rfl⟩ | exact ex_ext _ hy1 | exact ex_alloc _ (ex_ext _ hy1) | exact ex_alloc _ (ex_alloc _ (ex_ext _ hy1)) | exact ex_ext _ (ex_ext _ (ex_ext _ hy1))⟩
              · have p_h_6 := bne_ne h_6
                have b1_0 : (0 : Int) ≤ e.start := by omega
                have b1_1 : e.start < (l.length : Int) := by omega
                obtain ⟨_, k1_0, k1_1, k1_2, k1_3, k1_4⟩ := E1.at2 (i := e.start) (by omega) (by omega)
                clear p_h_0 p_h_2 p_h_3 p_h_4 p_h_5 p_h_6
                go_enter Try.func64, Try.ntmps64
                go_wp2_with ((first | (go_at_call 14; refine (hL1 _).mono ?_; rintro _ _ ⟨rfl, z, rfl⟩) | (go_at_call 83; refine (rbegins_is _ _ h_1).mono ?_; rintro _ _ ⟨rfl, z, rfl⟩) | (go_at_call 85; refine (rorigin_any _ _).mono ?_; rintro _ _ ⟨rfl, z, rfl⟩)))
                refine region_at (by kernel_rfl) (by kernel_rfl) ?_
                repeat (go_big_quiet_step ((first | (go_at_call 14; exact hL1 _) | (go_at_call 83; exact rbegins_is _ _ h_1) | (go_at_call 85; exact rorigin_any _ _))))
                refine wpQuiet_nil ?_
                rintro _ ⟨x, rfl⟩
                go_wp2_with ((first | (go_at_call 14; refine (hL1 _).mono ?_; rintro _ _ ⟨rfl, z, rfl⟩) | (go_at_call 83; refine (rbegins_is _ _ h_1).mono ?_; rintro _ _ ⟨rfl, z, rfl⟩) | (go_at_call 85; refine (rorigin_any _ _).mono ?_; rintro _ _ ⟨rfl, z, rfl⟩)))
                obtain ⟨w2, x2, hw2, ⟨y2, rfl⟩, hsz2, f2_0, f2_1, f2_2, f2_3, f2_4⟩ := boxEv' (w1.ext x) (evAt l e.start)
                rw [hw2]
                have f3_0 : ∀ z : Ext ((w1.ext x).ext y2), (((w1.ext x).ext y2).ext z).cell? ⟨(w.ext x0).heap.size, 0, none⟩ = some (.int .i64 e.g) := fun z => f1_0 ((x.trans y2).trans z)
                have f3_1 : ∀ z : Ext ((w1.ext x).ext y2), (((w1.ext x).ext y2).ext z).cell? ⟨(w.ext x0).heap.size, 1, none⟩ = some (.int .i64 e.kind) := fun z => f1_1 ((x.trans y2).trans z)
                have f3_2 : ∀ z : Ext ((w1.ext x).ext y2), (((w1.ext x).ext y2).ext z).cell? ⟨(w.ext x0).heap.size, 2, none⟩ = some (.int .i64 e.obj) := fun z => f1_2 ((x.trans y2).trans z)
                have f3_3 : ∀ z : Ext ((w1.ext x).ext y2), (((w1.ext x).ext y2).ext z).cell? ⟨(w.ext x0).heap.size, 3, none⟩ = some (.int .i64 e.no) := fun z => f1_3 ((x.trans y2).trans z)
                have f3_4 : ∀ z : Ext ((w1.ext x).ext y2), (((w1.ext x).ext y2).ext z).cell? ⟨(w.ext x0).heap.size, 4, none⟩ = some (.int .i64 e.start) := fun z => f1_4 ((x.trans y2).trans z)
                go_wp2_with ((first | (go_at_call 14; refine (hL1 _).mono ?_; rintro _ _ ⟨rfl, z, rfl⟩) | (go_at_call 83; refine (rbegins_is _ _ h_1).mono ?_; rintro _ _ ⟨rfl, z, rfl⟩) | (go_at_call 85; refine (rorigin_any _ _).mono ?_; rintro _ _ ⟨rfl, z, rfl⟩)))
                refine region_at (by kernel_rfl) (by kernel_rfl) ?_
                repeat (go_big_quiet_step ((first | (go_at_call 14; exact hL1 _) | (go_at_call 83; exact rbegins_is _ _ h_1) | (go_at_call 85; exact rorigin_any _ _))))
                refine wpQuiet_nil ?_
                rintro _ ⟨x, rfl⟩
                go_wp2_with ((first | (go_at_call 14; refine (hL1 _).mono ?_; rintro _ _ ⟨rfl, z, rfl⟩) | (go_at_call 83; refine (rbegins_is _ _ h_1).mono ?_; rintro _ _ ⟨rfl, z, rfl⟩) | (go_at_call 85; refine (rorigin_any _ _).mono ?_; rintro _ _ ⟨rfl, z, rfl⟩)))
                go_ret
                exact ⟨ret_bool (by simp only [rbeganF, h_0, h_1, h_2, h_3, h_4, h_5, h_6, Bool.false_eq_true, if_true, if_false]; try rfl), by first | exact ⟨_, rfl⟩ | exact ex_ext _ hy1 | exact ex_alloc _ (ex_ext _ hy1) | exact ex_alloc _ (ex_alloc _ (ex_ext _ hy1)) | exact ex_ext _ (ex_ext _ (ex_ext _ hy1))⟩
            · have p_h_5 := beq_le h_5
              have b1_0 : (0 : Int) ≤ e.start := by omega
              have b1_1 : e.start < (l.length : Int) := by omega
              obtain ⟨_, k1_0, k1_1, k1_2, k1_3, k1_4⟩ := E1.at2 (i := e.start) (by omega) (by omega)
              clear p_h_0 p_h_2 p_h_3 p_h_4 p_h_5
              go_enter Try.func64, Try.ntmps64
              go_wp2_with ((first | (go_at_call 14; refine (hL1 _).mono ?_; rintro _ _ ⟨rfl, z, rfl⟩) | (go_at_call 83; refine (rbegins_is _ _ h_1).mono ?_; rintro _ _ ⟨rfl, z, rfl⟩) | (go_at_call 85; refine (rorigin_any _ _).mono ?_; rintro _ _ ⟨rfl, z, rfl⟩)))
              refine region_at (by kernel_rfl) (by kernel_rfl) ?_
              repeat (go_big_quiet_step ((first | (go_at_call 14; exact hL1 _) | (go_at_call 83; exact rbegins_is _ _ h_1) | (go_at_call 85; exact rorigin_any _ _))))
              refine wpQuiet_nil ?_
              rintro _ ⟨x, rfl⟩
              go_wp2_with ((first | (go_at_call 14; refine (hL1 _).mono ?_; rintro _ _ ⟨rfl, z, rfl⟩) | (go_at_call 83; refine (rbegins_is _ _ h_1).mono ?_; rintro _ _ ⟨rfl, z, rfl⟩) | (go_at_call 85; refine (rorigin_any _ _).mono ?_; rintro _ _ ⟨rfl, z, rfl⟩)))
              go_ret
              exact ⟨ret_bool (by simp only [rbeganF, h_0, h_1, h_2, h_3, h_4, h_5, Bool.false_eq_true, if_true, if_false]; try rfl), by first | exact ⟨_, rfl⟩ | exact ex_ext _ hy1 | exact ex_alloc _ (ex_ext _ hy1) | exact ex_alloc _ (ex_alloc _ (ex_ext _ hy1)) | exact ex_ext _ (ex_ext _ (ex_ext _ hy1))⟩
        · have p_h_3 := bne_ne h_3
          clear p_h_0 p_h_2 p_h_3
          go_enter Try.func64, Try.ntmps64
          go_wp2_with ((first | (go_at_call 14; refine (hL1 _).mono ?_; rintro _ _ ⟨rfl, z, rfl⟩) | (go_at_call 83; refine (rbegins_is _ _ h_1).mono ?_; rintro _ _ ⟨rfl, z, rfl⟩) | (go_at_call 85; refine (rorigin_any _ _).mono ?_; rintro _ _ ⟨rfl, z, rfl⟩)))
          refine region_at (by kernel_rfl) (by kernel_rfl) ?_
          repeat (go_big_quiet_step ((first | (go_at_call 14; exact hL1 _) | (go_at_call 83; exact rbegins_is _ _ h_1) | (go_at_call 85; exact rorigin_any _ _))))
          refine wpQuiet_nil ?_
          rintro _ ⟨x, rfl⟩
          go_wp2_with ((first | (go_at_call 14; refine (hL1 _).mono ?_; rintro _ _ ⟨rfl, z, rfl⟩) | (go_at_call 83; refine (rbegins_is _ _ h_1).mono ?_; rintro _ _ ⟨rfl, z, rfl⟩) | (go_at_call 85; refine (rorigin_any _ _).mono ?_; rintro _ _ ⟨rfl, z, rfl⟩)))
          go_ret
          exact ⟨ret_bool (by simp only [rbeganF, h_0, h_1, h_2, h_3, Bool.false_eq_true, if_true, if_false]; try rfl), by first | exact ⟨_, rfl⟩ | exact ex_ext _ hy1 | exact ex_alloc _ (ex_ext _ hy1) | exact ex_alloc _ (ex_alloc _ (ex_ext _ hy1)) | exact ex_ext _ (ex_ext _ (ex_ext _ hy1))⟩
      · have p_h_2 := of_decide_eq_true h_2
        clear p_h_0 p_h_2
        go_enter Try.func64, Try.ntmps64
        go_wp2_with ((first | (go_at_call 14; refine (hL1 _).mono ?_; rintro _ _ ⟨rfl, z, rfl⟩) | (go_at_call 83; refine (rbegins_is _ _ h_1).mono ?_; rintro _ _ ⟨rfl, z, rfl⟩) | (go_at_call 85; refine (rorigin_any _ _).mono ?_; rintro _ _ ⟨rfl, z, rfl⟩)))
        refine region_at (by kernel_rfl) (by kernel_rfl) ?_
        repeat (go_big_quiet_step ((first | (go_at_call 14; exact hL1 _) | (go_at_call 83; exact rbegins_is _ _ h_1) | (go_at_call 85; exact rorigin_any _ _))))
        refine wpQuiet_nil ?_
        rintro _ ⟨x, rfl⟩
        go_wp2_with ((first | (go_at_call 14; refine (hL1 _).mono ?_; rintro _ _ ⟨rfl, z, rfl⟩) | (go_at_call 83; refine (rbegins_is _ _ h_1).mono ?_; rintro _ _ ⟨rfl, z, rfl⟩) | (go_at_call 85; refine (rorigin_any _ _).mono ?_; rintro _ _ ⟨rfl, z, rfl⟩)))
        go_ret
        exact ⟨ret_bool (by simp only [rbeganF, h_0, h_1, h_2, Bool.false_eq_true, if_true, if_false]; try rfl), by first | exact ⟨_, rfl⟩ | exact ex_ext _ hy1 | exact ex_alloc _ (ex_ext _ hy1) | exact ex_alloc _ (ex_alloc _ (ex_ext _ hy1)) | exact ex_ext _ (ex_ext _ (ex_ext _ hy1))⟩
  · have p_h_0 := beq_le h_0
    clear p_h_0
    go_enter Try.func64, Try.ntmps64
    go_wp2_with ((first | (go_at_call 14; refine (hL1 _).mono ?_; rintro _ _ ⟨rfl, z, rfl⟩) | (go_at_call 83; refine (rbegins_is _ _ rfl).mono ?_; rintro _ _ ⟨rfl, z, rfl⟩) | (go_at_call 85; refine (rorigin_any _ _).mono ?_; rintro _ _ ⟨rfl, z, rfl⟩)))
    go_ret
    exact ⟨ret_bool (by simp only [rbeganF, h_0, Bool.false_eq_true, if_true, if_false]; try rfl), by first | exact ⟨_, rfl⟩ | exact ex_ext _ hy1 | exact ex_alloc _ (ex_ext _ hy1) | exact ex_alloc _ (ex_alloc _ (ex_ext _ hy1)) | exact ex_ext _ (ex_ext _ (ex_ext _ hy1))⟩

def rchannelF (caps : List Int) (l : List Ev) (i : Int) (e : Ev) : Bool := if (e.kind != 3) = true then (if decide (e.kind < 5) = true then false else (if decide (7 < e.kind) = true then false else (if decide (rdI caps e.obj < 0) = true then true else (if (e.kind == 3) = true then (if decide (0 < cntTo l 7 e.obj i.toNat) = true then true else (if (e.no != (cntTo l 3 e.obj i.toNat)) = true then true else (decide (cntTo l 5 e.obj i.toNat + (rdI caps e.obj) < e.no)))) else (if (e.kind == 5) = true then (if (e.no != (cntTo l 5 e.obj i.toNat)) = true then true else (decide (cntTo l 3 e.obj i.toNat < e.no))) else (if (e.kind == 6) = true then (if decide (0 < cntTo l 7 e.obj i.toNat) = true then ((cntTo l 3 e.obj i.toNat) != (cntTo l 5 e.obj i.toNat)) else true) else (decide (0 < cntTo l 7 e.obj i.toNat)))))))) else (if decide (rdI caps e.obj < 0) = true then true else (if (e.kind == 3) = true then (if decide (0 < cntTo l 7 e.obj i.toNat) = true then true else (if (e.no != (cntTo l 3 e.obj i.toNat)) = true then true else (decide (cntTo l 5 e.obj i.toNat + (rdI caps e.obj) < e.no)))) else (if (e.kind == 5) = true then (if (e.no != (cntTo l 5 e.obj i.toNat)) = true then true else (decide (cntTo l 3 e.obj i.toNat < e.no))) else (if (e.kind == 6) = true then (if decide (0 < cntTo l 7 e.obj i.toNat) = true then ((cntTo l 3 e.obj i.toNat) != (cntTo l 5 e.obj i.toNat)) else true) else (decide (0 < cntTo l 7 e.obj i.toNat))))))

set_option maxHeartbeats 4000000 in
theorem rchannel_any (x0 : Ext w) {A : Option Addr} {l : List Ev} {lc : Nat} (hE : EvsAt w A l) (hlc : l.length ≤ lc) (hll : l.length ≤ 140737488351232) {i : Int} (h0 : 0 ≤ i) (h1 : i < l.length) {cA : Option Addr} {caps : List Int} {cc : Nat} (hC : IntsAt w cA caps) (hcl : caps.length ≤ 4) (hcc : caps.length ≤ cc) (hcap : ∀ k : Int, 0 ≤ k → k < caps.length → -1 ≤ rdI caps k ∧ rdI caps k ≤ 3) (ho : ((evAt l i).kind = 3 ∨ (5 ≤ (evAt l i).kind ∧ (evAt l i).kind ≤ 7)) → 0 ≤ (evAt l i).obj ∧ (evAt l i).obj < caps.length) :
    Calls Try.prog 65 #[.slice cA caps.length cc, .slice A l.length lc, .int .i64 i] (w.ext x0) fun r w' => r = .returned (.bool (rchannelF caps l i (evAt l i))) ∧ ∃ x : Ext w, w' = w.ext x := by
  obtain ⟨eb, eo, rfl⟩ := hE.some (by omega)
  obtain ⟨_, q0, q1, q2, q3, q4⟩ := hE.at2 h0 h1
  generalize he : evAt l i = e at *
  obtain ⟨w1, x1, hw1, ⟨y, hy⟩, hsz, f1_0, f1_1, f1_2, f1_3, f1_4⟩ := boxEv' (w.ext x0) e
  have E1 : EvsAt w1 _ l := hy ▸ (hE.ext x0).ext y
  have C1 : IntsAt w1 cA caps := hy ▸ (hC.ext x0).ext y
  have hy1 : ∃ y : Ext w, w1 = w.ext y := ⟨x0.trans y, hy⟩
  have hb3 := cntTo_le l 3 e.obj i.toNat
  have hb5 := cntTo_le l 5 e.obj i.toNat
  have hcb := hcap e.obj
  clear hcap
  clear hy he
  cases h_0 : (e.kind != 3)
  · have p_h_0 := bne_le h_0
    cases h_1 : decide (rdI caps e.obj < 0)
    · have p_h_1 := of_decide_eq_false h_1
      cases h_2 : (e.kind == 3)
      · have p_h_2 := beq_ne h_2
        cases h_3 : (e.kind == 5)
        · have p_h_3 := beq_ne h_3
          cases h_4 : (e.kind == 6)
          · have p_h_4 := beq_ne h_4
            have b1_0 : (0 : Int) ≤ e.obj := by omega
            have b1_1 : e.obj < (caps.length : Int) := by omega
            obtain ⟨cb, co, rfl, k1⟩ := C1.at' (i := e.obj) (by omega) (by omega)
            clear p_h_0 p_h_1 p_h_2 p_h_3 p_h_4
            go_enter Try.func65, Try.ntmps65
            go_wp2_with ((first | (go_at_call 15; refine (rcount_any _ E1 hlc hll h0 h1 _ _).mono ?_; rintro _ _ ⟨rfl, z, rfl⟩)))
            go_ret
            exact ⟨ret_bool (by simp only [rchannelF, h_0, h_1, h_2, h_3, h_4, Bool.false_eq_true, if_true, if_false]; try rfl), by first | exact ⟨_, rfl⟩ | exact ex_ext _ hy1 | exact ex_alloc _ (ex_ext _ hy1) | exact ex_alloc _ (ex_alloc _ (ex_ext _ hy1)) | exact ex_ext _ (ex_ext _ (ex_ext _ hy1))⟩
          · have p_h_4 := beq_le h_4
            cases h_5 : decide (0 < cntTo l 7 e.obj i.toNat)
            · have p_h_5 := of_decide_eq_false h_5
              have b1_0 : (0 : Int) ≤ e.obj := by omega
              have b1_1 : e.obj < (caps.length : Int) := by omega
              obtain ⟨cb, co, rfl, k1⟩ := C1.at' (i := e.obj) (by omega) (by omega)
              clear p_h_0 p_h_1 p_h_2 p_h_3 p_h_4 p_h_5
              go_enter Try.func65, Try.ntmps65
              go_wp2_with ((first | (go_at_call 15; refine (rcount_any _ E1 hlc hll h0 h1 _ _).mono ?_; rintro _ _ ⟨rfl, z, rfl⟩)))
              go_ret
              exact ⟨ret_bool (by simp only [rchannelF, h_0, h_1, h_2, h_3, h_4, h_5, Bool.false_eq_true, if_true, if_false]; try rfl), by first | exact ⟨_, rfl⟩ | exact ex_ext _ hy1 | exact ex_alloc _ (ex_ext _ hy1) | exact ex_alloc _ (ex_alloc _ (ex_ext _ hy1)) | exact ex_ext _ (ex_ext _ (ex_ext _ hy1))⟩
            · have p_h_5 := of_decide_eq_true h_5
              have b1_0 : (0 : Int) ≤ e.obj := by omega
              have b1_1 : e.obj < (caps.length : Int) := by omega
              obtain ⟨cb, co, rfl, k1⟩ := C1.at' (i := e.obj) (by omega) (by omega)
              clear p_h_0 p_h_1 p_h_2 p_h_3 p_h_4 p_h_5
              go_enter Try.func65, Try.ntmps65
              go_wp2_with ((first | (go_at_call 15; refine (rcount_any _ E1 hlc hll h0 h1 _ _).mono ?_; rintro _ _ ⟨rfl, z, rfl⟩)))
              go_ret
              exact ⟨ret_bool (by simp only [rchannelF, h_0, h_1, h_2, h_3, h_4, h_5, Bool.false_eq_true, if_true, if_false]; try rfl), by first | exact ⟨_, rfl⟩ | exact ex_ext _ hy1 | exact ex_alloc _ (ex_ext _ hy1) | exact ex_alloc _ (ex_alloc _ (ex_ext _ hy1)) | exact ex_ext _ (ex_ext _ (ex_ext _ hy1))⟩
        · have p_h_3 := beq_le h_3
          cases h_4 : (e.no != (cntTo l 5 e.obj i.toNat))
          · have p_h_4 := bne_le h_4
            have b1_0 : (0 : Int) ≤ e.obj := by omega
            have b1_1 : e.obj < (caps.length : Int) := by omega
            obtain ⟨cb, co, rfl, k1⟩ := C1.at' (i := e.obj) (by omega) (by omega)
            clear p_h_0 p_h_1 p_h_2 p_h_3 p_h_4
            go_enter Try.func65, Try.ntmps65
            go_wp2_with ((first | (go_at_call 15; refine (rcount_any _ E1 hlc hll h0 h1 _ _).mono ?_; rintro _ _ ⟨rfl, z, rfl⟩)))
            go_ret
            exact ⟨ret_bool (by simp only [rchannelF, h_0, h_1, h_2, h_3, h_4, Bool.false_eq_true, if_true, if_false]; try rfl), by first | exact ⟨_, rfl⟩ | exact ex_ext _ hy1 | exact ex_alloc _ (ex_ext _ hy1) | exact ex_alloc _ (ex_alloc _ (ex_ext _ hy1)) | exact ex_ext _ (ex_ext _ (ex_ext _ hy1))⟩
          · have p_h_4 := bne_ne h_4
            have b1_0 : (0 : Int) ≤ e.obj := by omega
            have b1_1 : e.obj < (caps.length : Int) := by omega
            obtain ⟨cb, co, rfl, k1⟩ := C1.at' (i := e.obj) (by omega) (by omega)
            clear p_h_0 p_h_1 p_h_2 p_h_3 p_h_4
            go_enter Try.func65, Try.ntmps65
            go_wp2_with ((first | (go_at_call 15; refine (rcount_any _ E1 hlc hll h0 h1 _ _).mono ?_; rintro _ _ ⟨rfl, z, rfl⟩)))
            go_ret
            exact ⟨ret_bool (by simp only [rchannelF, h_0, h_1, h_2, h_3, h_4, Bool.false_eq_true, if_true, if_false]; try rfl), by first | exact ⟨_, rfl⟩ | exact ex_ext _ hy1 | exact ex_alloc _ (ex_ext _ hy1) | exact ex_alloc _ (ex_alloc _ (ex_ext _ hy1)) | exact ex_ext _ (ex_ext _ (ex_ext _ hy1))⟩
      · have p_h_2 := beq_le h_2
        cases h_3 : decide (0 < cntTo l 7 e.obj i.toNat)
        · have p_h_3 := of_decide_eq_false h_3
          cases h_4 : (e.no != (cntTo l 3 e.obj i.toNat))
          · have p_h_4 := bne_le h_4
            have b1_0 : (0 : Int) ≤ e.obj := by omega
            have b1_1 : e.obj < (caps.length : Int) := by omega
            obtain ⟨cb, co, rfl, k1⟩ := C1.at' (i := e.obj) (by omega) (by omega)
            clear p_h_0 p_h_1 p_h_2 p_h_3 p_h_4
            go_enter Try.func65, Try.ntmps65
            go_wp2_with ((first | (go_at_call 15; refine (rcount_any _ E1 hlc hll h0 h1 _ _).mono ?_; rintro _ _ ⟨rfl, z, rfl⟩)))
            refine region_at (by kernel_rfl) (by kernel_rfl) ?_
            repeat (go_big_quiet_step ((first | (go_at_call 15; exact rcount_any _ E1 hlc hll h0 h1 _ _))))
            refine wpQuiet_nil ?_
            rintro _ ⟨x, rfl⟩
            go_wp2_with ((first | (go_at_call 15; refine (rcount_any _ E1 hlc hll h0 h1 _ _).mono ?_; rintro _ _ ⟨rfl, z, rfl⟩)))
            go_ret
            exact ⟨ret_bool (by simp only [rchannelF, h_0, h_1, h_2, h_3, h_4, Bool.false_eq_true, if_true, if_false]; try rfl), by first | exact ⟨_, rfl⟩ | exact ex_ext _ hy1 | exact ex_alloc _ (ex_ext _ hy1) | exact ex_alloc _ (ex_alloc _ (ex_ext _ hy1)) | exact ex_ext _ (ex_ext _ (ex_ext _ hy1))⟩
          · have p_h_4 := bne_ne h_4
            have b1_0 : (0 : Int) ≤ e.obj := by omega
            have b1_1 : e.obj < (caps.length : Int) := by omega
            obtain ⟨cb, co, rfl, k1⟩ := C1.at' (i := e.obj) (by omega) (by omega)
            clear p_h_0 p_h_1 p_h_2 p_h_3 p_h_4
            go_enter Try.func65, Try.ntmps65
            go_wp2_with ((first | (go_at_call 15; refine (rcount_any _ E1 hlc hll h0 h1 _ _).mono ?_; rintro _ _ ⟨rfl, z, rfl⟩)))
            refine region_at (by kernel_rfl) (by kernel_rfl) ?_
            repeat (go_big_quiet_step ((first | (go_at_call 15; exact rcount_any _ E1 hlc hll h0 h1 _ _))))
            refine wpQuiet_nil ?_
            rintro _ ⟨x, rfl⟩
            go_wp2_with ((first | (go_at_call 15; refine (rcount_any _ E1 hlc hll h0 h1 _ _).mono ?_; rintro _ _ ⟨rfl, z, rfl⟩)))
            go_ret
            exact ⟨ret_bool (by simp only [rchannelF, h_0, h_1, h_2, h_3, h_4, Bool.false_eq_true, if_true, if_false]; try rfl), by first | exact ⟨_, rfl⟩ | exact ex_ext _ hy1 | exact ex_alloc _ (ex_ext _ hy1) | exact ex_alloc _ (ex_alloc _ (ex_ext _ hy1)) | exact ex_ext _ (ex_ext _ (ex_ext _ hy1))⟩
        · have p_h_3 := of_decide_eq_true h_3
          have b1_0 : (0 : Int) ≤ e.obj := by omega
          have b1_1 : e.obj < (caps.length : Int) := by omega
          obtain ⟨cb, co, rfl, k1⟩ := C1.at' (i := e.obj) (by omega) (by omega)
          clear p_h_0 p_h_1 p_h_2 p_h_3
          go_enter Try.func65, Try.ntmps65
          go_wp2_with ((first | (go_at_call 15; refine (rcount_any _ E1 hlc hll h0 h1 _ _).mono ?_; rintro _ _ ⟨rfl, z, rfl⟩)))
          refine region_at (by kernel_rfl) (by kernel_rfl) ?_
          repeat (go_big_quiet_step ((first | (go_at_call 15; exact rcount_any _ E1 hlc hll h0 h1 _ _))))
          refine wpQuiet_nil ?_
          rintro _ ⟨x, rfl⟩
          go_wp2_with ((first | (go_at_call 15; refine (rcount_any _ E1 hlc hll h0 h1 _ _).mono ?_; rintro _ _ ⟨rfl, z, rfl⟩)))
          go_ret
          exact ⟨ret_bool (by simp only [rchannelF, h_0, h_1, h_2, h_3, Bool.false_eq_true, if_true, if_false]; try rfl), by first | exact ⟨_, rfl⟩ | exact ex_ext _ hy1 | exact ex_alloc _ (ex_ext _ hy1) | exact ex_alloc _ (ex_alloc _ (ex_ext _ hy1)) | exact ex_ext _ (ex_ext _ (ex_ext _ hy1))⟩
    · have p_h_1 := of_decide_eq_true h_1
      have b1_0 : (0 : Int) ≤ e.obj := by omega
      have b1_1 : e.obj < (caps.length : Int) := by omega
      obtain ⟨cb, co, rfl, k1⟩ := C1.at' (i := e.obj) (by omega) (by omega)
      clear p_h_0 p_h_1
      go_enter Try.func65, Try.ntmps65
      go_wp2_with ((first | (go_at_call 15; refine (rcount_any _ E1 hlc hll h0 h1 _ _).mono ?_; rintro _ _ ⟨rfl, z, rfl⟩)))
      go_ret
      exact ⟨ret_bool (by simp only [rchannelF, h_0, h_1, Bool.false_eq_true, if_true, if_false]; try rfl), by first | exact ⟨_, rfl⟩ | exact ex_ext _ hy1 | exact ex_alloc _ (ex_ext _ hy1) | exact ex_alloc _ (ex_alloc _ (ex_ext _ hy1)) | exact ex_ext _ (ex_ext _ (ex_ext _ hy1))⟩
  · have p_h_0 := bne_ne h_0
    cases h_1 : decide (e.kind < 5)
    · have p_h_1 := of_decide_eq_false h_1
      cases h_2 : decide (7 < e.kind)
      · have p_h_2 := of_decide_eq_false h_2
        cases h_3 : decide (rdI caps e.obj < 0)
        · have p_h_3 := of_decide_eq_false h_3
          cases h_4 : (e.kind == 3)
          · have p_h_4 := beq_ne h_4
            cases h_5 : (e.kind == 5)
            · have p_h_5 := beq_ne h_5
              cases h_6 : (e.kind == 6)
              · have p_h_6 := beq_ne h_6
                have b1_0 : (0 : Int) ≤ e.obj := by omega
                have b1_1 : e.obj < (caps.length : Int) := by omega
                obtain ⟨cb, co, rfl, k1⟩ := C1.at' (i := e.obj) (by omega) (by omega)
                clear p_h_0 p_h_1 p_h_2 p_h_3 p_h_4 p_h_5 p_h_6
                go_enter Try.func65, Try.ntmps65
                go_wp2_with ((first | (go_at_call 15; refine (rcount_any _ E1 hlc hll h0 h1 _ _).mono ?_; rintro _ _ ⟨rfl, z, rfl⟩)))
                go_ret
                exact ⟨ret_bool (by simp only [rchannelF, h_0, h_1, h_2, h_3, h_4, h_5, h_6, Bool.false_eq_true, if_true, if_false]; try rfl), by first | exact ⟨_, rfl⟩ | exact ex_ext _ hy1 | exact ex_alloc _ (ex_ext _ hy1) | exact ex_alloc _ (ex_alloc _ (ex_ext _ hy1)) | exact ex_ext _ (ex_ext _ (ex_ext _ hy1))⟩
              · have p_h_6 := beq_le h_6
                cases h_7 : decide (0 < cntTo l 7 e.obj i.toNat)
                · have p_h_7 := of_decide_eq_false h_7
                  have b1_0 : (0 : Int) ≤ e.obj := by omega
                  have b1_1 : e.obj < (caps.length : Int) := by omega
                  obtain ⟨cb, co, rfl, k1⟩ := C1.at' (i := e.obj) (by omega) (by omega)
                  clear p_h_0 p_h_1 p_h_2 p_h_3 p_h_4 p_h_5 p_h_6 p_h_7
                  go_enter Try.func65, Try.ntmps65
                  go_wp2_with ((first | (go_at_call 15; refine (rcount_any _ E1 hlc hll h0 h1 _ _).mono ?_; rintro _ _ ⟨rfl, z, rfl⟩)))
                  go_ret
                  exact ⟨ret_bool (by simp only [rchannelF, h_0, h_1, h_2, h_3, h_4, h_5, h_6, h_7, Bool.false_eq_true, if_true, if_false]; try rfl), by first | exact ⟨_, rfl⟩ | exact ex_ext _ hy1 | exact ex_alloc _ (ex_ext _ hy1) | exact ex_alloc _ (ex_alloc _ (ex_ext _ hy1)) | exact ex_ext _ (ex_ext _ (ex_ext _ hy1))⟩
                · have p_h_7 := of_decide_eq_true h_7
                  have b1_0 : (0 : Int) ≤ e.obj := by omega
                  have b1_1 : e.obj < (caps.length : Int) := by omega
                  obtain ⟨cb, co, rfl, k1⟩ := C1.at' (i := e.obj) (by omega) (by omega)
                  clear p_h_0 p_h_1 p_h_2 p_h_3 p_h_4 p_h_5 p_h_6 p_h_7
                  go_enter Try.func65, Try.ntmps65
                  go_wp2_with ((first | (go_at_call 15; refine (rcount_any _ E1 hlc hll h0 h1 _ _).mono ?_; rintro _ _ ⟨rfl, z, rfl⟩)))
                  go_ret
                  exact ⟨ret_bool (by simp only [rchannelF, h_0, h_1, h_2, h_3, h_4, h_5, h_6, h_7, Bool.false_eq_true, if_true, if_false]; try rfl), by first | exact ⟨_, rfl⟩ | exact ex_ext _ hy1 | exact ex_alloc _ (ex_ext _ hy1) | exact ex_alloc _ (ex_alloc _ (ex_ext _ hy1)) | exact ex_ext _ (ex_ext _ (ex_ext _ hy1))⟩
            · have p_h_5 := beq_le h_5
              cases h_6 : (e.no != (cntTo l 5 e.obj i.toNat))
              · have p_h_6 := bne_le h_6
                have b1_0 : (0 : Int) ≤ e.obj := by omega
                have b1_1 : e.obj < (caps.length : Int) := by omega
                obtain ⟨cb, co, rfl, k1⟩ := C1.at' (i := e.obj) (by omega) (by omega)
                clear p_h_0 p_h_1 p_h_2 p_h_3 p_h_4 p_h_5 p_h_6
                go_enter Try.func65, Try.ntmps65
                go_wp2_with ((first | (go_at_call 15; refine (rcount_any _ E1 hlc hll h0 h1 _ _).mono ?_; rintro _ _ ⟨rfl, z, rfl⟩)))
                go_ret
                exact ⟨ret_bool (by simp only [rchannelF, h_0, h_1, h_2, h_3, h_4, h_5, h_6, Bool.false_eq_true, if_true, if_false]; try rfl), by first | exact ⟨_, rfl⟩ | exact ex_ext _ hy1 | exact ex_alloc _ (ex_ext _ hy1) | exact ex_alloc _ (ex_alloc _ (ex_ext _ hy1)) | exact ex_ext _ (ex_ext _ (ex_ext _ hy1))⟩
              · have p_h_6 := bne_ne h_6
                have b1_0 : (0 : Int) ≤ e.obj := by omega
                have b1_1 : e.obj < (caps.length : Int) := by omega
                obtain ⟨cb, co, rfl, k1⟩ := C1.at' (i := e.obj) (by omega) (by omega)
                clear p_h_0 p_h_1 p_h_2 p_h_3 p_h_4 p_h_5 p_h_6
                go_enter Try.func65, Try.ntmps65
                go_wp2_with ((first | (go_at_call 15; refine (rcount_any _ E1 hlc hll h0 h1 _ _).mono ?_; rintro _ _ ⟨rfl, z, rfl⟩)))
                go_ret
                exact ⟨ret_bool (by simp only [rchannelF, h_0, h_1, h_2, h_3, h_4, h_5, h_6, Bool.false_eq_true, if_true, if_false]; try rfl), by first | exact ⟨_, rfl⟩ | exact ex_ext _ hy1 | exact ex_alloc _ (ex_ext _ hy1) | exact ex_alloc _ (ex_alloc _ (ex_ext _ hy1)) | exact ex_ext _ (ex_ext _ (ex_ext _ hy1))⟩
          · have p_h_4 := beq_le h_4
            cases h_5 : decide (0 < cntTo l 7 e.obj i.toNat)
            · have p_h_5 := of_decide_eq_false h_5
              cases h_6 : (e.no != (cntTo l 3 e.obj i.toNat))
              · have p_h_6 := bne_le h_6
                have b1_0 : (0 : Int) ≤ e.obj := by omega
                have b1_1 : e.obj < (caps.length : Int) := by omega
                obtain ⟨cb, co, rfl, k1⟩ := C1.at' (i := e.obj) (by omega) (by omega)
                clear p_h_0 p_h_1 p_h_2 p_h_3 p_h_4 p_h_5 p_h_6
                go_enter Try.func65, Try.ntmps65
                go_wp2_with ((first | (go_at_call 15; refine (rcount_any _ E1 hlc hll h0 h1 _ _).mono ?_; rintro _ _ ⟨rfl, z, rfl⟩)))
                refine region_at (by kernel_rfl) (by kernel_rfl) ?_
                repeat (go_big_quiet_step ((first | (go_at_call 15; exact rcount_any _ E1 hlc hll h0 h1 _ _))))
                refine wpQuiet_nil ?_
                rintro _ ⟨x, rfl⟩
                go_wp2_with ((first | (go_at_call 15; refine (rcount_any _ E1 hlc hll h0 h1 _ _).mono ?_; rintro _ _ ⟨rfl, z, rfl⟩)))
                go_ret
                exact ⟨ret_bool (by simp only [rchannelF, h_0, h_1, h_2, h_3, h_4, h_5, h_6, Bool.false_eq_true, if_true, if_false]; try rfl), by first | exact ⟨_, rfl⟩ | exact ex_ext _ hy1 | exact ex_alloc _ (ex_ext _ hy1) | exact ex_alloc _ (ex_alloc _ (ex_ext _ hy1)) | exact ex_ext _ (ex_ext _ (ex_ext _ hy1))⟩
              · have p_h_6 := bne_ne h_6
                have b1_0 : (0 : Int) ≤ e.obj := by omega
                have b1_1 : e.obj < (caps.length : Int) := by omega
                obtain ⟨cb, co, rfl, k1⟩ := C1.at' (i := e.obj) (by omega) (by omega)
                clear p_h_0 p_h_1 p_h_2 p_h_3 p_h_4 p_h_5 p_h_6
                go_enter Try.func65, Try.ntmps65
                go_wp2_with ((first | (go_at_call 15; refine (rcount_any _ E1 hlc hll h0 h1 _ _).mono ?_; rintro _ _ ⟨rfl, z, rfl⟩)))
                refine region_at (by kernel_rfl) (by kernel_rfl) ?_
                repeat (go_big_quiet_step ((first | (go_at_call 15; exact rcount_any _ E1 hlc hll h0 h1 _ _))))
                refine wpQuiet_nil ?_
                rintro _ ⟨x, rfl⟩
                go_wp2_with ((first | (go_at_call 15; refine (rcount_any _ E1 hlc hll h0 h1 _ _).mono ?_; rintro _ _ ⟨rfl, z, rfl⟩)))
                go_ret
                exact ⟨ret_bool (by simp only [rchannelF, h_0, h_1, h_2, h_3, h_4, h_5, h_6, Bool.false_eq_true, if_true, if_false]; try rfl), by first | exact ⟨_, rfl⟩ | exact ex_ext _ hy1 | exact ex_alloc _ (ex_ext _ hy1) | exact ex_alloc _ (ex_alloc _ (ex_ext _ hy1)) | exact ex_ext _ (ex_ext _ (ex_ext _ hy1))⟩
            · have p_h_5 := of_decide_eq_true h_5
              have b1_0 : (0 : Int) ≤ e.obj := by omega
              have b1_1 : e.obj < (caps.length : Int) := by omega
              obtain ⟨cb, co, rfl, k1⟩ := C1.at' (i := e.obj) (by omega) (by omega)
              clear p_h_0 p_h_1 p_h_2 p_h_3 p_h_4 p_h_5
              go_enter Try.func65, Try.ntmps65
              go_wp2_with ((first | (go_at_call 15; refine (rcount_any _ E1 hlc hll h0 h1 _ _).mono ?_; rintro _ _ ⟨rfl, z, rfl⟩)))
              refine region_at (by kernel_rfl) (by kernel_rfl) ?_
              repeat (go_big_quiet_step ((first | (go_at_call 15; exact rcount_any _ E1 hlc hll h0 h1 _ _))))
              refine wpQuiet_nil ?_
              rintro _ ⟨x, rfl⟩
              go_wp2_with ((first | (go_at_call 15; refine (rcount_any _ E1 hlc hll h0 h1 _ _).mono ?_; rintro _ _ ⟨rfl, z, rfl⟩)))
              go_ret
              exact ⟨ret_bool (by simp only [rchannelF, h_0, h_1, h_2, h_3, h_4, h_5, Bool.false_eq_true, if_true, if_false]; try rfl), by first | exact ⟨_, rfl⟩ | exact ex_ext _ hy1 | exact ex_alloc _ (ex_ext _ hy1) | exact ex_alloc _ (ex_alloc _ (ex_ext _ hy1)) | exact ex_ext _ (ex_ext _ (ex_ext _ hy1))⟩
        · have p_h_3 := of_decide_eq_true h_3
          have b1_0 : (0 : Int) ≤ e.obj := by omega
          have b1_1 : e.obj < (caps.length : Int) := by omega
          obtain ⟨cb, co, rfl, k1⟩ := C1.at' (i := e.obj) (by omega) (by omega)
          clear p_h_0 p_h_1 p_h_2 p_h_3
          go_enter Try.func65, Try.ntmps65
          go_wp2_with ((first | (go_at_call 15; refine (rcount_any _ E1 hlc hll h0 h1 _ _).mono ?_; rintro _ _ ⟨rfl, z, rfl⟩)))
          go_ret
          exact ⟨ret_bool (by simp only [rchannelF, h_0, h_1, h_2, h_3, Bool.false_eq_true, if_true, if_false]; try rfl), by first | exact ⟨_, rfl⟩ | exact ex_ext _ hy1 | exact ex_alloc _ (ex_ext _ hy1) | exact ex_alloc _ (ex_alloc _ (ex_ext _ hy1)) | exact ex_ext _ (ex_ext _ (ex_ext _ hy1))⟩
      · have p_h_2 := of_decide_eq_true h_2
        clear p_h_0 p_h_1 p_h_2
        go_enter Try.func65, Try.ntmps65
        go_wp2_with ((first | (go_at_call 15; refine (rcount_any _ E1 hlc hll h0 h1 _ _).mono ?_; rintro _ _ ⟨rfl, z, rfl⟩)))
        go_ret
        exact ⟨ret_bool (by simp only [rchannelF, h_0, h_1, h_2, Bool.false_eq_true, if_true, if_false]; try rfl), by first | exact ⟨_, rfl⟩ | exact ex_ext _ hy1 | exact ex_alloc _ (ex_ext _ hy1) | exact ex_alloc _ (ex_alloc _ (ex_ext _ hy1)) | exact ex_ext _ (ex_ext _ (ex_ext _ hy1))⟩
    · have p_h_1 := of_decide_eq_true h_1
      clear p_h_0 p_h_1
      go_enter Try.func65, Try.ntmps65
      go_wp2_with ((first | (go_at_call 15; refine (rcount_any _ E1 hlc hll h0 h1 _ _).mono ?_; rintro _ _ ⟨rfl, z, rfl⟩)))
      go_ret
      exact ⟨ret_bool (by simp only [rchannelF, h_0, h_1, Bool.false_eq_true, if_true, if_false]; try rfl), by first | exact ⟨_, rfl⟩ | exact ex_ext _ hy1 | exact ex_alloc _ (ex_ext _ hy1) | exact ex_alloc _ (ex_alloc _ (ex_ext _ hy1)) | exact ex_ext _ (ex_ext _ (ex_ext _ hy1))⟩
end
end Go.Proofs.Ytnjnmoehjaikkaa.Tr
