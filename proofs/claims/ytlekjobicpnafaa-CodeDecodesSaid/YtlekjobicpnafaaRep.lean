/- Rows of things in memory, one within another: what lies where. No condition. -/
import Derived.Test.YtlekjobicpnafaaBase2
namespace Go.Proofs.Ytlekjobicpnafaa.Base
open Go Go.RowKit
set_option linter.unusedVariables false

/-- What cells hold a thing, if the blocks of S alone are looked at. -/
abbrev Enc (α : Type) := (Nat → Prop) → World → α → List Value → Prop
def Agree (S S' : Nat → Prop) (w w' : World) : Prop := ∀ b, S b → S' b ∧ w'.heap[b]? = w.heap[b]?
def Enc.Mono {α : Type} (E : Enc α) : Prop := ∀ (S S' : Nat → Prop) (w w' : World) (a : α) (cs : List Value), Agree S S' w w' → E S w a cs → E S' w' a cs

/-- A row of things, each of k cells. -/
def RowAt {α : Type} (k : Nat) (E : Enc α) (S : Nat → Prop) (w : World) (A : Option Addr) (xs : List α) : Prop :=
  ∀ i x, xs[i]? = some x → ∃ b o cs, A = some ⟨b, o, none⟩ ∧ S b ∧ cs.length = k ∧ E S w x cs ∧ ∀ j v, cs[j]? = some v → w.cell? ⟨b, o + i * k + j, none⟩ = some v

theorem Agree.refl (S : Nat → Prop) (w : World) : Agree S S w w := fun b h => ⟨h, rfl⟩
theorem Agree.trans {S S' S'' : Nat → Prop} {w w' w'' : World} (h : Agree S S' w w') (k : Agree S' S'' w' w'') : Agree S S'' w w'' := fun b hb => ⟨(k b (h b hb).1).1, (k b (h b hb).1).2.trans (h b hb).2⟩
theorem Agree.cell {S S' : Nat → Prop} {w w' : World} (h : Agree S S' w w') {b o : Nat} (hb : S b) : w'.cell? ⟨b, o, none⟩ = w.cell? ⟨b, o, none⟩ := World.cell?_of_block (h b hb).2

theorem RowAt.mono {α : Type} {k : Nat} {E : Enc α} (hE : E.Mono) {S S' : Nat → Prop} {w w' : World} {A : Option Addr} {xs : List α} (hag : Agree S S' w w') (h : RowAt k E S w A xs) : RowAt k E S' w' A xs := fun i x hi => by
  obtain ⟨b, o, cs, hA, hb, hl, he, hc⟩ := h i x hi
  exact ⟨b, o, cs, hA, (hag b hb).1, hl, hE _ _ _ _ _ _ hag he, fun j v hj => (hag.cell hb).trans (hc j v hj)⟩
theorem RowAt.nil {α : Type} {k : Nat} {E : Enc α} {S : Nat → Prop} {w : World} {A : Option Addr} : RowAt k E S w A [] := fun i x hi => by simp at hi
theorem RowAt.take {α : Type} {k : Nat} {E : Enc α} {S : Nat → Prop} {w : World} {A : Option Addr} {xs : List α} (h : RowAt k E S w A xs) (n : Nat) : RowAt k E S w A (xs.take n) := fun i x hi => by
  rw [List.getElem?_take] at hi
  split at hi
  · exact h i x hi
  · cases hi

/-- The blocks that there are. -/
def Old (w : World) : Nat → Prop := fun b => b < w.heap.size
theorem Agree.ext {w : World} (x : Ext w) : Agree (Old w) (Old (w.ext x)) w (w.ext x) := fun b hb => ⟨World.ext_lt w x hb, World.ext_heap w x hb⟩
theorem Agree.ext' {w : World} (x : Ext w) : Agree (Old w) (Old w) w (w.ext x) := fun b hb => ⟨hb, World.ext_heap w x hb⟩
theorem Agree.of_ex {w w' : World} (h : ∃ x : Ext w, w' = w.ext x) : Agree (Old w) (Old w') w w' := by obtain ⟨x, rfl⟩ := h; exact Agree.ext x

def el {α : Type} [Inhabited α] (xs : List α) (i : Nat) : α := xs.getD i default
theorem el_some {α : Type} [Inhabited α] {xs : List α} {i : Nat} (h : i < xs.length) : xs[i]? = some (el xs i) := by
  unfold el; rw [List.getD_eq_getElem?_getD, List.getElem?_eq_getElem h]; rfl
theorem el_mem {α : Type} [Inhabited α] {xs : List α} {i : Nat} (h : i < xs.length) : el xs i ∈ xs := List.mem_of_getElem? (el_some h)
theorem drop_el {α : Type} [Inhabited α] {xs : List α} {i : Nat} (h : i < xs.length) : xs.drop i = el xs i :: xs.drop (i + 1) := by
  rw [List.drop_eq_getElem_cons h]
  congr 1
  have := el_some h
  rw [List.getElem?_eq_getElem h] at this
  exact Option.some.inj this
theorem take_el {α : Type} [Inhabited α] {xs : List α} {i : Nat} (h : i < xs.length) : xs.take (i + 1) = xs.take i ++ [el xs i] := by
  rw [List.take_add_one, el_some h]; rfl

theorem RowAt.addr {α : Type} {k : Nat} {E : Enc α} {S : Nat → Prop} {w : World} {A : Option Addr} {xs : List α} (h : RowAt k E S w A xs) (hl : 0 < xs.length) : ∃ b o, A = some ⟨b, o, none⟩ ∧ S b := by
  obtain ⟨b, o, _, hA, hb, _⟩ := h 0 xs[0] (by simp [hl])
  exact ⟨b, o, hA, hb⟩
theorem RowAt.get {α : Type} [Inhabited α] {k : Nat} {E : Enc α} {w : World} {b o : Nat} {xs : List α} (h : RowAt k E (Old w) w (some ⟨b, o, none⟩) xs) {i : Nat} (hi : i < xs.length) :
    ∃ cs, cs.length = k ∧ E (Old w) w (el xs i) cs ∧ ∀ j v, cs[j]? = some v → ∀ x : Ext w, (w.ext x).cell? ⟨b, o + i * k + j, none⟩ = some v := by
  obtain ⟨b', o', cs, hA, hb, hl, he, hc⟩ := h i _ (el_some hi)
  obtain ⟨rfl, rfl⟩ : b = b' ∧ o = o' := by simpa using hA
  exact ⟨cs, hl, he, fun j v hj x => ((Agree.ext x).cell hb).trans (hc j v hj)⟩

/-- A block that has just been laid. -/
theorem boxed (w : World) (cs : List Value) (t : TypeId) : ∃ (w1 : World) (x1 : Ext w1), w.alloc (.cells cs.toArray t) = w1.ext x1 ∧ (∃ y : Ext w, w1 = w.ext y) ∧ w.heap.size < w1.heap.size ∧
    ∀ (j : Nat) v, cs[j]? = some v → ∀ x : Ext w1, (w1.ext x).cell? ⟨w.heap.size, j, none⟩ = some v := by
  refine ⟨w.alloc (.cells cs.toArray t), ⟨_, Below.refl _ _⟩, rfl, ex_alloc _ (ex_refl w), by simp, fun j v hj x => ?_⟩
  rw [World.ext_cell _ x (by simp)]
  have := heap_alloc_new w (.cells cs.toArray t)
  unfold World.cell?
  rw [show (⟨w.heap.size, j, none⟩ : Addr).block = w.heap.size from rfl, this]
  simpa using hj
end Go.Proofs.Ytlekjobicpnafaa.Base
