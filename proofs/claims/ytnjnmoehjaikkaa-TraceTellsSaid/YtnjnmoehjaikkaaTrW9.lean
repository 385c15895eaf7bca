/- slices.ContainsFunc over ints, and capacities. No condition. -/
import Derived.Test.YtnjnmoehjaikkaaTrW8
namespace Go.Proofs.Ytnjnmoehjaikkaa.Tr
open Go Go.RowKit Base
set_option linter.unusedVariables false
set_option linter.unusedSimpArgs false

theorem idxI_any {p : Int → Bool} : ∀ (xs : List Int) (n : Nat), decide (0 ≤ idxI p xs n) = xs.any p
  | [], n => by simp [idxI]
  | x :: xs, n => by
    simp only [idxI, List.any_cons]
    by_cases h : p x = true
    · simp [h]
    · simp only [h, if_false, Bool.false_or]
      exact idxI_any xs (n + 1)

set_option maxHeartbeats 4000000 in
theorem contains_any (w : World) {A : Option Addr} {c : Nat} {xs : List Int} (hX : IntsAt w A xs) (hlen : xs.length ≤ 140737488351232) (fid : Nat) (cap : Array Value)
    (henter : ∀ (args : Array Value) (W : World), (callFunc fid args).run Try.prog W = .ok (.enter fid args) W) (p : Int → Bool)
    (hf : ∀ k, k < xs.length → ∀ (v : Bool), p (rdI xs k) = v → ∀ x : Ext w, Calls Try.prog fid (#[.int .i64 (rdI xs k)] ++ cap) (w.ext x) fun r w' => r = .returned (.bool v) ∧ ∃ y : Ext w, w' = w.ext y) {v : Bool} (hv : xs.any p = v) :
    Calls Try.prog 30 #[.slice A xs.length c, .func (.func fid) #[] cap] w fun r w' => r = .returned (.bool v) ∧ ∃ y : Ext w, w' = w.ext y := by
  subst hv
  have hi := index_any w hX hlen fid cap henter p (c := c) hf
  have ha := idxI_any (p := p) xs 0
  generalize idxI p xs 0 = i at *
  have HA : Hid (decide (0 ≤ i) = xs.any p) := ha
  clear ha hf
  go_enter Try.func30, Try.ntmps30
  go_wp2_with (go_at_call 47; refine hi.mono ?_; rintro _ _ ⟨rfl, z, rfl⟩)
  go_ret
  exact ⟨ret_bool HA.out, _, rfl⟩

def capBad (n : Int) : Bool := !inB n (-1) 3

theorem cap1_any (w : World) (n : Int) {v : Bool} (hv : capBad n = v) : Calls Try.prog 31 #[.int .i64 n] w fun r w' => r = .returned (.bool v) ∧ w' = w := by
  subst hv
  unfold capBad
  cases h : inB n (-1) 3
  · go_enter Try.func31, Try.ntmps31
    go_wp2_with (go_at_call 32; refine (in_is h _).mono ?_; rintro _ _ ⟨rfl, rfl⟩)
    go_ret
    exact ⟨rfl, rfl⟩
  · go_enter Try.func31, Try.ntmps31
    go_wp2_with (go_at_call 32; refine (in_is h _).mono ?_; rintro _ _ ⟨rfl, rfl⟩)
    go_ret
    exact ⟨rfl, rfl⟩

theorem capsBad_any (w : World) {A : Option Addr} {c : Nat} {xs : List Int} (hX : IntsAt w A xs) (hlen : xs.length ≤ 140737488351232) {v : Bool} (hv : xs.any capBad = v) :
    Calls Try.prog 30 #[.slice A xs.length c, .func (.func 31) #[] #[]] w fun r w' => r = .returned (.bool v) ∧ ∃ y : Ext w, w' = w.ext y :=
  contains_any w hX hlen 31 #[] (fun args W => by simp [go_sem]) capBad (fun k hk v hv x => (cap1_any (w.ext x) _ hv).mono fun _ _ ⟨h1, h2⟩ => ⟨h1, x, h2⟩) hv
end Go.Proofs.Ytnjnmoehjaikkaa.Tr
