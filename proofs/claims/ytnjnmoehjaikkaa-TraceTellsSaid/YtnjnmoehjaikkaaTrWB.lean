/- The law's small functions: few, alive; trace.Wrong whole. Condition: capacities and events lie in memory. -/
import Derived.Test.YtnjnmoehjaikkaaTrWA
namespace Go.Proofs.Ytnjnmoehjaikkaa.Tr
open Go Go.RowKit Base
set_option linter.unusedVariables false
set_option linter.unusedSimpArgs false

def capsOk (caps : List Int) : Bool := decide (caps.length ≤ 4) && !caps.any capBad
def wrongA (caps : List Int) (l : List Ev) : Int := if capsOk caps = true then wrongI caps [] s0 l else 0
def wrongE (caps : List Int) : Int := if capsOk caps = true then 0 else 1

theorem wrong_any (w : World) {cA A : Option Addr} {cc lc : Nat} {caps : List Int} {l : List Ev} (hC : IntsAt w cA caps) (hE : EvsAt w A l) (hcl : caps.length ≤ 140737488351232) (hlc : l.length ≤ lc) (hll : l.length ≤ 140737488351232) :
    Calls Try.prog 8 #[.slice cA caps.length cc, .slice A l.length lc] w fun r w' => r = .returned (.tuple #[.int .i64 (wrongA caps l), .int .i64 (wrongE caps)]) ∧ ∃ y : Ext w, w' = w.ext y := by
  unfold wrongA wrongE
  cases h : capsOk caps
  · have h' : decide (4 < (caps.length : Int)) = true ∨ caps.any capBad = true := by
      simp only [capsOk, Bool.and_eq_false_iff, decide_eq_false_iff_not, Bool.not_eq_false'] at h
      rcases h with h | h
      · left; simp; omega
      · exact .inr h
    simpa using wrong_caps w hC hcl h'
  · have h' := h
    simp only [capsOk, Bool.and_eq_true, decide_eq_true_eq, Bool.not_eq_true'] at h'
    simpa using wrong_ok w hC hE h'.1 h'.2 hlc hll

set_option maxHeartbeats 1000000 in
theorem few_any (w : World) (A : Option Addr) (n lc : Nat) (hn : n ≤ lc) (hl : n ≤ 140737488351232) : Calls Try.prog 7 #[.slice A n lc] w fun r w' => r = .returned (.slice A (min n 150) lc) ∧ ∃ y : Ext w, w' = w.ext y := by
  by_cases h : (150 : Int) < n
  · rw [Nat.min_eq_right (by omega)]
    have h2 : 150 ≤ lc := by omega
    cases A with
    | none =>
      go_enter Try.func7, Try.ntmps7
      go_wp2
      go_ret
      exact ⟨rfl, ex_refl w⟩
    | some a =>
      go_enter Try.func7, Try.ntmps7
      go_wp2
      go_ret
      exact ⟨rfl, ex_refl w⟩
  · rw [Nat.min_eq_left (by omega)]
    cases A with
    | none =>
      go_enter Try.func7, Try.ntmps7
      go_wp2
      go_ret
      exact ⟨rfl, ex_refl w⟩
    | some a =>
      go_enter Try.func7, Try.ntmps7
      go_wp2
      go_ret
      exact ⟨rfl, ex_refl w⟩

def aliveL : List Ev := [⟨0, 0, 0, 0, -1⟩, ⟨1, 16, 0, 0, -1⟩]

theorem alive_at (w : World) : ∃ (w1 : World) (x1 : Ext w1), w.alloc (.cells #[.int .i64 0, .int .i64 0, .int .i64 0, .int .i64 0, .int .i64 (-1), .int .i64 1, .int .i64 16, .int .i64 0, .int .i64 0, .int .i64 (-1)] 61) = w1.ext x1 ∧ (∃ y : Ext w, w1 = w.ext y) ∧ EvsAt w1 (some ⟨w.heap.size, 0, none⟩) aliveL := by
  refine ⟨w.alloc (.cells #[.int .i64 0, .int .i64 0, .int .i64 0, .int .i64 0, .int .i64 (-1), .int .i64 1, .int .i64 16, .int .i64 0, .int .i64 0, .int .i64 (-1)] 61), default, rfl, ex_alloc _ (ex_refl w), ?_⟩
  have hh : (w.alloc (.cells #[.int .i64 0, .int .i64 0, .int .i64 0, .int .i64 0, .int .i64 (-1), .int .i64 1, .int .i64 16, .int .i64 0, .int .i64 0, .int .i64 (-1)] 61)).heap[w.heap.size]? = some (.cells #[.int .i64 0, .int .i64 0, .int .i64 0, .int .i64 0, .int .i64 (-1), .int .i64 1, .int .i64 16, .int .i64 0, .int .i64 0, .int .i64 (-1)] 61 (0, 0)) := by
    show (w.heap.push _)[w.heap.size]? = _
    simp
  intro i e hi
  have : i = 0 ∨ i = 1 := by
    have := (List.getElem?_eq_some_iff.1 hi).1
    simp [aliveL] at this; omega
  rcases this with rfl | rfl
  · simp [aliveL] at hi; subst hi
    refine ⟨_, _, rfl, by simp, ?_, ?_, ?_, ?_, ?_⟩ <;> (rw [cell_of hh]; rfl)
  · simp [aliveL] at hi; subst hi
    refine ⟨_, _, rfl, by simp, ?_, ?_, ?_, ?_, ?_⟩ <;> (rw [cell_of hh]; rfl)

theorem alive_wrong : wrongA [] aliveL = 1 ∧ wrongE [] = 0 := by decide

set_option maxHeartbeats 1000000 in
theorem alive_any (w : World) : Calls Try.prog 9 #[] w fun r w' => r = .returned (.bool true) ∧ ∃ y : Ext w, w' = w.ext y := by
  obtain ⟨w1, x1, hw1, hy, hE⟩ := alive_at w
  have hw := wrong_any (w1.ext x1) (cA := none) (cc := 0) (lc := 2) (caps := []) (fun i hi => by simp at hi) (hE.ext x1) (by simp) (by simp [aliveL]) (by simp [aliveL])
  rw [alive_wrong.1, alive_wrong.2] at hw
  have hw' : Calls Try.prog 8 #[.slice none 0 0, .slice (some ⟨w.heap.size, 0, none⟩) 2 2] (w1.ext x1) fun r w' => r = .returned (.tuple #[.int .i64 1, .int .i64 0]) ∧ ∃ y : Ext w1, w' = w1.ext y := calls_ext2 hw
  clear hw hE
  go_enter Try.func9, Try.ntmps9
  go_wp2_with (go_at_call 8; refine hw'.mono ?_; rintro _ _ ⟨rfl, z, rfl⟩)
  go_ret
  exact ⟨rfl, ex_ext _ hy⟩
end Go.Proofs.Ytnjnmoehjaikkaa.Tr
