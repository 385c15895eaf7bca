/- slices.IndexFunc and slices.ContainsFunc over ints, with a function value that only reads. No condition. -/
import Derived.Test.YtnjnmoehjaikkaaTrW7
import Derived.LoopTactic
namespace Go.Proofs.Ytnjnmoehjaikkaa.Tr
open Go Go.RowKit Base
set_option linter.unusedVariables false
set_option linter.unusedSimpArgs false

def idxI (p : Int → Bool) : List Int → Nat → Int
  | [], _ => -1
  | x :: xs, n => if p x = true then n else idxI p xs (n + 1)

theorem idxI_drop {p : Int → Bool} {xs : List Int} : ∀ {k : Nat}, k < xs.length → idxI p (xs.drop k) k = if p (xs.getD k 0) = true then (k : Int) else idxI p (xs.drop (k + 1)) (k + 1) := by
  intro k hk
  rw [List.drop_eq_getElem_cons hk]
  simp [idxI, hk]

theorem IntsAt.at {w : World} {A : Option Addr} {xs : List Int} (h : IntsAt w A xs) {k : Nat} (hk : k < xs.length) : ∃ bc oc, A = some ⟨bc, oc, none⟩ ∧ ∀ x : Ext w, (w.ext x).cell? ⟨bc, oc + k, none⟩ = some (.int .i64 (rdI xs k)) := by
  obtain ⟨⟨bc, oc, sp⟩, ha, hb, hc⟩ := h k hk
  have hsp : sp = none := by
    cases sp with
    | none => rfl
    | some q =>
      exfalso
      by_cases h0 : k = 0
      · subst h0; simp [Addr.add, World.cell?] at hc; split at hc <;> simp at hc
      · obtain ⟨a0, ha0, _, hc0⟩ := h 0 (by omega)
        rw [ha] at ha0
        obtain rfl := Option.some.inj ha0
        simp [Addr.add, World.cell?] at hc0; split at hc0 <;> simp at hc0
  subst hsp
  refine ⟨bc, oc, ha, fun x => ?_⟩
  rw [World.ext_cell w x (by exact hb)]
  have : (⟨bc, oc, none⟩ : Addr).add k = ⟨bc, oc + k, none⟩ := by unfold Addr.add; split <;> simp_all
  rw [← this, hc, rdI, Int.toNat_natCast]

set_option maxHeartbeats 4000000 in
theorem index_any (w : World) {A : Option Addr} {c : Nat} {xs : List Int} (hX : IntsAt w A xs) (hlen : xs.length ≤ 140737488351232) (fid : Nat) (cap : Array Value)
    (henter : ∀ (args : Array Value) (W : World), (callFunc fid args).run Try.prog W = .ok (.enter fid args) W) (p : Int → Bool)
    (hf : ∀ k, k < xs.length → ∀ (v : Bool), p (rdI xs k) = v → ∀ x : Ext w, Calls Try.prog fid (#[.int .i64 (rdI xs k)] ++ cap) (w.ext x) fun r w' => r = .returned (.bool v) ∧ ∃ y : Ext w, w' = w.ext y) :
    Calls Try.prog 47 #[.slice A xs.length c, .func (.func fid) #[] cap] w fun r w' => r = .returned (.int .i64 (idxI p xs 0)) ∧ ∃ y : Ext w, w' = w.ext y := by
  go_enter Try.func47, Try.ntmps47
  go_wp2
  go_loopw [8] (fun i wr => ∃ (k : Nat) (x : Ext w), k ≤ xs.length ∧ i = .int .i64 k ∧ wr = w.ext x ∧ idxI p xs 0 = idxI p (xs.drop k) k) (fun i _ => xs.length - (intOf i).toNat)
  case atStart => exact ⟨0, ⟨w, Below.refl _ _⟩, Nat.zero_le _, rfl, rfl, rfl⟩
  case round =>
    obtain ⟨k, x, hk, rfl, rfl, hi⟩ := hrel
    by_cases hlt : k < xs.length
    · obtain ⟨bc, oc, rfl, g⟩ := hX.at hlt
      have hd := idxI_drop (p := p) hlt
      cases hp : p (rdI xs k)
      · have hc := hf k hlt _ hp
        have HI : Hid (idxI p xs 0 = idxI p (xs.drop (k + 1)) (k + 1)) := by
          have : p (xs.getD k 0) = false := by have := hp; unfold rdI at this; simpa using this
          rw [this] at hd; exact hi.trans (by simpa using hd)
        clear hf hd hi hp
        go_wp2_with ((refine (hc _).mono ?_); rintro _ _ ⟨rfl, z, rfl⟩)
        go_roundw
        case rel => exact ⟨k + 1, _, by omega, by go_num, rfl, HI.out⟩
        case measure => simp [intOf]; omega
      · have hc := hf k hlt _ hp
        have HI : Hid (idxI p xs 0 = k) := by
          have : p (xs.getD k 0) = true := by have := hp; unfold rdI at this; simpa using this
          rw [this] at hd; exact hi.trans (by simpa using hd)
        clear hf hd hi hp
        go_wp2_with ((refine (hc _).mono ?_); rintro _ _ ⟨rfl, z, rfl⟩)
        go_ret
        exact ⟨ret_i64 HI.out.symm, _, rfl⟩
    · have HI : Hid (idxI p xs 0 = -1) := by
        rw [List.drop_eq_nil_of_le (by omega)] at hi; exact hi
      clear hf hi
      go_wp2
      go_ret
      exact ⟨ret_i64 HI.out.symm, _, rfl⟩
end Go.Proofs.Ytnjnmoehjaikkaa.Tr
