/- A row that a call has built, read as a row of things. No condition. -/
import Derived.Test.YtlekjobicpnafaaRep
import Derived.Laws.OwnMore
namespace Go.Proofs.Ytlekjobicpnafaa.Base
open Go Go.RowKit
set_option linter.unusedVariables false

theorem flatten_at {k : Nat} : ∀ (css : List (List Value)), (∀ cs ∈ css, cs.length = k) → ∀ (i j : Nat) (cs : List Value) (v : Value), css[i]? = some cs → cs[j]? = some v → css.flatten[i * k + j]? = some v
  | [], _, i, j, cs, v, h, _ => by simp at h
  | c :: css, hk, 0, j, cs, v, h, hj => by
    simp at h; subst h
    have hl := (List.getElem?_eq_some_iff.1 hj).1
    rw [List.flatten_cons, Nat.zero_mul, Nat.zero_add, List.getElem?_append_left hl]; exact hj
  | c :: css, hk, i + 1, j, cs, v, h, hj => by
    have hc := hk c (by simp)
    have ih := flatten_at css (fun cs hcs => hk cs (by simp [hcs])) i j cs v (by simpa using h) hj
    rw [List.flatten_cons, List.getElem?_append_right (by rw [hc, Nat.succ_mul]; omega), hc, show (i + 1) * k + j - k = i * k + j by rw [Nat.succ_mul]; omega]
    exact ih

/-- What a slice value owns, read as a row. -/
theorem own_row {α : Type} {k : Nat} {E : Enc α} {S : Nat → Prop} {w : World} {base e : Nat} {v : Value} {xs : List α} {css : List (List Value)} (hk : ∀ cs ∈ css, cs.length = k)
    (hE : ∀ (i : Nat) x, xs[i]? = some x → ∃ cs, css[i]? = some cs ∧ E S w x cs) (hS : ∀ b, base ≤ b → b < w.heap.size → S b) (h : w.ownsRow base e k v xs.length css.flatten) :
    ∃ A cap, v = .slice A xs.length cap ∧ xs.length ≤ cap ∧ RowAt k E S w A xs := by
  rcases h.2 with ⟨hv, hn⟩ | ⟨g, cap, cur, hv, hg, hgg, hc, hcm, hcs, htk⟩
  · obtain rfl : xs = [] := List.eq_nil_of_length_eq_zero hn
    exact ⟨none, 0, hv, Nat.le_refl _, RowAt.nil⟩
  · refine ⟨some ⟨g, 0, none⟩, cap, hv, hc, fun i x hi => ?_⟩
    obtain ⟨cs, hcs', he⟩ := hE i x hi
    have hl := hk cs (List.mem_of_getElem? hcs')
    refine ⟨g, 0, cs, rfl, hS g hg (Array.getElem?_eq_some_iff.1 hgg).1, hl, he, fun j u hj => ?_⟩
    have h1 := flatten_at css hk i j cs u hcs' hj
    rw [Nat.zero_add]
    unfold World.cell?
    rw [show (⟨g, i * k + j, none⟩ : Addr).block = g from rfl, hgg]
    have h2 : cur.toList[i * k + j]? = some u := by
      rw [← htk, List.getElem?_take] at h1
      split at h1
      · exact h1
      · cases h1
    simpa using h2

theorem own_shape {w : World} {base e k n : Nat} {v : Value} {xs : List Value} (h : w.ownsRow base e k v n xs) : ∃ A cap, v = .slice A n cap := by
  rcases h.2 with ⟨hv, hn⟩ | ⟨g, cap, cur, hv, _⟩
  · exact ⟨none, 0, by rw [hv, hn]⟩
  · exact ⟨_, _, hv⟩
/-- The blocks that a call has laid. -/
def Fresh (w w' : World) : Nat → Prop := fun b => w.heap.size ≤ b ∧ b < w'.heap.size
end Go.Proofs.Ytlekjobicpnafaa.Base
