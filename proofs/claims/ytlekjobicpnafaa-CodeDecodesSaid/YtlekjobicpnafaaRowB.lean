/- A row that a call is building: what it holds stays, whatever is laid besides. No condition. -/
import Derived.Test.YtlekjobicpnafaaRepOwn
namespace Go.Proofs.Ytlekjobicpnafaa.Base
open Go Go.RowKit
set_option linter.unusedVariables false

/-- The blocks of a row's elements: laid by the call, and not the row itself. -/
def Inn (lo : Nat) (w : World) (v : Value) : Nat → Prop := fun b => lo ≤ b ∧ b < w.heap.size ∧ v.ownBlock ≠ some b

/-- So many elements have been laid behind each other. -/
structure RowB {α : Type} (k e : Nat) (E : Enc α) (lo : Nat) (w : World) (acc : List α) (css : List (List Value)) (v : Value) : Prop where
  own : w.ownsRow lo e k v acc.length css.flatten
  len : ∀ cs ∈ css, cs.length = k
  num : css.length = acc.length
  els : ∀ (i : Nat) x, acc[i]? = some x → ∃ cs, css[i]? = some cs ∧ E (Inn lo w v) w x cs
  size : lo ≤ w.heap.size

section
variable {α : Type} {k e : Nat} {E : Enc α} {lo : Nat} {w w' : World} {acc : List α} {css : List (List Value)} {v : Value}

theorem RowB.nil (h : lo ≤ w.heap.size) : RowB k e E lo w [] [] (.slice none 0 0) :=
  ⟨World.ownsRow_nil _ _ _ _, by simp, rfl, fun i x hi => by simp at hi, h⟩

/-- Whatever leaves its blocks alone. -/
theorem RowB.kept (hE : E.Mono) (h : RowB k e E lo w acc css v) (hs : w.heap.size ≤ w'.heap.size) (hb : ∀ b, lo ≤ b → b < w.heap.size → w'.heap[b]? = w.heap[b]?) : RowB k e E lo w' acc css v := by
  refine ⟨⟨h.own.1, ?_⟩, h.len, h.num, fun i x hi => ?_, Nat.le_trans h.size hs⟩
  · rcases h.own.2 with hn | ⟨g, cap, cur, hv, hg, hgg, rest⟩
    · exact .inl hn
    · exact .inr ⟨g, cap, cur, hv, hg, (hb g hg (Array.getElem?_eq_some_iff.1 hgg).1).trans hgg, rest⟩
  · obtain ⟨cs, hc, he⟩ := h.els i x hi
    exact ⟨cs, hc, hE _ _ _ _ _ _ (fun b ⟨h1, h2, h3⟩ => ⟨⟨h1, Nat.lt_of_lt_of_le h2 hs, h3⟩, hb b h1 h2⟩) he⟩
theorem RowB.grown (hE : E.Mono) (h : RowB k e E lo w acc css v) {row : Option Nat} (hg : w.grownBy w' row) (hr : ∀ b, row = some b → b < lo) : RowB k e E lo w' acc css v :=
  h.kept hE hg.size (fun b h1 h2 => hg.block b h2 (fun ee => by have := hr b ee.symm; omega))
theorem RowB.alloc (hE : E.Mono) (h : RowB k e E lo w acc css v) (o : Obj) : RowB k e E lo (w.alloc o) acc css v :=
  h.grown hE (World.grownBy_alloc w o none) (by simp)
theorem RowB.set (hE : E.Mono) (h : RowB k e E lo w acc css v) {b j : Nat} (hb : b < lo) (u : Value) : RowB k e E lo (w.setCell ⟨b, j, none⟩ u) acc css v :=
  h.kept hE (by simp) (fun c h1 h2 => Below.heap_setCell w _ u c (by simp; omega))

/-- One element more. -/
theorem RowB.snoc (hE : E.Mono) (h : RowB k e E lo w acc css v) {x : α} {cs : List Value} {g cap : Nat} (hk : cs.length = k) (he : E (Inn lo w v) w x cs)
    (hown : w'.ownsRow lo e k (.slice (some ⟨g, 0, none⟩) (acc.length + 1) cap) (acc.length + 1) (css.flatten ++ cs)) (hgr : w.grownBy w' v.ownBlock) (hat : v.ownBlock = some g ∨ w.heap.size ≤ g) :
    RowB k e E lo w' (acc ++ [x]) (css ++ [cs]) (.slice (some ⟨g, 0, none⟩) (acc.length + 1) cap) := by
  have hag : Agree (Inn lo w v) (Inn lo w' (.slice (some ⟨g, 0, none⟩) (acc.length + 1) cap)) w w' := fun b ⟨h1, h2, h3⟩ => by
    refine ⟨⟨h1, Nat.lt_of_lt_of_le h2 hgr.size, ?_⟩, hgr.block b h2 (fun ee => h3 ee.symm)⟩
    simp only [Value.ownBlock]
    intro ee
    obtain rfl := Option.some.inj ee
    rcases hat with h4 | h4
    · exact h3 h4
    · omega
  refine ⟨?_, ?_, by simp [h.num], ?_, Nat.le_trans h.size hgr.size⟩
  · simpa using hown
  · intro c hc
    rcases List.mem_append.1 hc with h1 | h1
    · exact h.len c h1
    · simp at h1; rw [h1]; exact hk
  · intro i y hi
    rw [List.getElem?_append] at hi
    split at hi
    · rename_i hlt
      obtain ⟨c, hc, he'⟩ := h.els i y hi
      exact ⟨c, by rw [List.getElem?_append_left (by rw [h.num]; exact hlt)]; exact hc, hE _ _ _ _ _ _ hag he'⟩
    · rename_i hge
      have hi0 : i - acc.length = 0 := by
        have := (List.getElem?_eq_some_iff.1 hi).1
        simp at this; omega
      rw [hi0] at hi
      simp at hi; subst hi
      have hi1 : i = css.length := by rw [h.num]; omega
      exact ⟨cs, by rw [hi1]; simp, hE _ _ _ _ _ _ hag he⟩

/-- Read as a row. -/
theorem RowB.row (hE : E.Mono) (h : RowB k e E lo w acc css v) {S : Nat → Prop} (hS : ∀ b, lo ≤ b → b < w.heap.size → S b) : ∃ A cap, v = .slice A acc.length cap ∧ acc.length ≤ cap ∧ RowAt k E S w A acc :=
  own_row h.len (fun i x hi => by
    obtain ⟨cs, hc, he⟩ := h.els i x hi
    exact ⟨cs, hc, hE _ _ _ _ _ _ (fun b ⟨h1, h2, _⟩ => ⟨hS b h1 h2, rfl⟩) he⟩) hS h.own
end
end Go.Proofs.Ytlekjobicpnafaa.Base
