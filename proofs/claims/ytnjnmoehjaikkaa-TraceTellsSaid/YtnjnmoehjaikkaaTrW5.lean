/- The judge: an event that may come is written down. Condition: the judge and the events lie in memory. -/
import Derived.Test.YtnjnmoehjaikkaaTrW4
import Derived.RegionTactic
namespace Go.Proofs.Ytnjnmoehjaikkaa.Tr
open Go Go.RowKit Base
open Go.ChangeMaps (setBlock)
set_option linter.unusedVariables false
set_option linter.unusedSimpArgs false

theorem right_is {w : World} {b : Jb} {caps : List Int} {s : JS} (h : J w b caps s) {A : Option Addr} {l : List Ev} {lc : Nat} (hE : EvsAt w A l) (hll : l.length ≤ 140737488351232) (hcl : caps.length ≤ 4) (e : Ev) (hl : ∀ g, 0 ≤ g → g < 8 → 0 ≤ s.last g ∧ s.last g ≤ 140737488351232) {c : Bool} (hc : rightB caps s l e = c) :
    Calls Try.prog 60 #[.pointer (some ⟨b.bj, 0, none⟩), .slice A l.length lc, e.val] w fun r w' => r = .returned (.bool c) ∧ ∃ x : Ext w, w' = w.ext x := by
  subst hc; exact right_any h hE hll hcl e hl

/-- What the judge knows behind an event. -/
def JS.upd (s : JS) (n : Nat) (e : Ev) : JS where
  count k o := if e.kind = k ∧ e.obj = o then s.count e.kind e.obj + 1 else s.count k o
  last g := if e.g = g then (n : Int) + 1 else s.last g
  begun := if e.kind = 0 then s.begun + 1 else s.begun
  first o := if e.kind = 13 ∧ s.first e.obj = 0 ∧ e.obj = o then e.g + 1 else s.first o

structure Small (s : JS) (n : Nat) : Prop where
  count : ∀ k o, 0 ≤ s.count k o ∧ s.count k o ≤ n
  last : ∀ g, 0 ≤ s.last g ∧ s.last g ≤ n
  begun : 0 ≤ s.begun ∧ s.begun ≤ n
  first : ∀ o, 0 ≤ s.first o ∧ s.first o ≤ 8

theorem Small.upd {s : JS} {n : Nat} (h : Small s n) {e : Ev} (h0 : 0 ≤ e.g) (h1 : e.g < 8) : Small (s.upd n e) (n + 1) where
  count k o := by have := h.count e.kind e.obj; have := h.count k o; simp only [JS.upd]; split <;> omega
  last g := by have := h.last g; simp only [JS.upd]; split <;> omega
  begun := by have := h.begun; simp only [JS.upd]; split <;> omega
  first o := by have := h.first o; simp only [JS.upd]; split <;> omega

/-- All that was there is as it was, but for the judge, its counts, and who came to onces first. -/
structure Kept3 (w w' : World) (b : Jb) : Prop where
  os : w'.os = w.os
  tape : w'.tape = w.tape
  output : w'.output = w.output
  size : w.heap.size ≤ w'.heap.size
  block : ∀ i, i < w.heap.size → i ≠ b.bj → i ≠ b.bc → i ≠ b.bf → w'.heap[i]? = w.heap[i]?

section
variable {w : World} {b : Jb} {caps : List Int} {s : JS}

theorem Kept3.of_ext (b : Jb) {w' : World} (h : ∃ x : Ext w, w' = w.ext x) : Kept3 w w' b := by
  obtain ⟨x, rfl⟩ := h
  exact ⟨x.h.os, x.h.tape, x.h.output, x.h.size, fun i hi _ _ _ => x.h.block i hi⟩
theorem Kept3.drew {w' : World} (h : Kept3 w w' b) : Kept3 w w'.drew b := ⟨h.os, h.tape, h.output, h.size, h.block⟩
theorem Kept3.refl (w : World) (b : Jb) : Kept3 w w b := ⟨rfl, rfl, rfl, Nat.le_refl _, fun _ _ _ _ _ => rfl⟩
theorem Kept3.trans {w' w'' : World} (h : Kept3 w w' b) (k : Kept3 w' w'' b) : Kept3 w w'' b :=
  ⟨k.os.trans h.os, k.tape.trans h.tape, k.output.trans h.output, Nat.le_trans h.size k.size, fun i hi h1 h2 h3 => (k.block i (Nat.lt_of_lt_of_le hi h.size) h1 h2 h3).trans (h.block i hi h1 h2 h3)⟩
theorem Kept3.turned_c {w' w'' : World} (h : Kept3 w w' b) (k : Turned w' w'' b.bc) : Kept3 w w'' b :=
  ⟨k.os.trans h.os, k.tape.trans h.tape, k.output.trans h.output, by rw [k.size]; exact h.size, fun i hi h1 h2 h3 => (k.other h2).trans (h.block i hi h1 h2 h3)⟩
theorem Kept3.turned_f {w' w'' : World} (h : Kept3 w w' b) (k : Turned w' w'' b.bf) : Kept3 w w'' b :=
  ⟨k.os.trans h.os, k.tape.trans h.tape, k.output.trans h.output, by rw [k.size]; exact h.size, fun i hi h1 h2 h3 => (k.other h3).trans (h.block i hi h1 h2 h3)⟩
theorem Kept3.set_j {w' : World} (h : Kept3 w w' b) (o : Nat) (v : Value) : Kept3 w (w'.setCell ⟨b.bj, o, none⟩ v) b :=
  ⟨h.os, h.tape, h.output, by simp [World.setCell]; exact h.size, fun i hi h1 h2 h3 => (Below.heap_setCell _ _ _ _ (by exact h1)).trans (h.block i hi h1 h2 h3)⟩

theorem ne_map {κ : Type} {enc : κ → Value} {bc : Nat} {l : List (κ × Value)} (hm : MapAt enc w bc l) {k o : Nat} {v : Value} (hc : w.cell? ⟨k, o, none⟩ = some v) : k ≠ bc := by
  rintro rfl
  obtain ⟨bs, clock, _, hb, _⟩ := hm
  simp [World.cell?, hb] at hc
theorem ne_map' {κ : Type} {enc : κ → Value} {bc : Nat} {l : List (κ × Value)} (hm : MapAt enc w bc l) {k : Nat} {cs : Array Value} {T : TypeId} {f : Nat × Nat} (hc : w.heap[k]? = some (.cells cs T f)) : k ≠ bc := by
  rintro rfl
  obtain ⟨bs, clock, _, hb, _⟩ := hm
  rw [hb] at hc
  cases hc
theorem IntsAt.keep {w' : World} {A : Option Addr} {xs : List Int} (h : IntsAt w A xs) (hs : w.heap.size ≤ w'.heap.size) (hk : ∀ a, A = some a → a.block < w.heap.size → w'.heap[a.block]? = w.heap[a.block]?) : IntsAt w' A xs := fun i hi => by
  obtain ⟨a, ha, hb, hc⟩ := h i hi
  refine ⟨a, ha, Nat.lt_of_lt_of_le hb hs, ?_⟩
  rw [← hc]
  have : (a.add i).block = a.block := by unfold Addr.add; split <;> rfl
  exact World.cell?_of_block (w := w) (by rw [this]; exact hk a ha hb)
theorem IntsAt.keep' {w' : World} {A : Option Addr} {xs : List Int} (h : IntsAt w A xs) (hs : w.heap.size ≤ w'.heap.size) (hk : xs ≠ [] → ∀ a, A = some a → a.block < w.heap.size → w'.heap[a.block]? = w.heap[a.block]?) : IntsAt w' A xs := by
  by_cases hx : xs = []
  · subst hx; intro i hi; simp at hi
  · exact h.keep hs (hk hx)
theorem IntsAt.isCell {A : Option Addr} {xs : List Int} (h : IntsAt w A xs) (hx : xs ≠ []) {a : Addr} (ha : A = some a) : ∃ v, w.cell? a = some v := by
  have : 0 < xs.length := by cases xs with | nil => exact absurd rfl hx | cons _ _ => simp
  obtain ⟨a', ha', _, hc⟩ := h 0 this
  rw [ha] at ha'
  obtain rfl := Option.some.inj ha'
  exact ⟨_, hc⟩

theorem IntsAt.ne_map {A : Option Addr} {xs : List Int} {κ : Type} {enc : κ → Value} {bc : Nat} {l : List (κ × Value)} (h : IntsAt w A xs) (hm : MapAt enc w bc l) {w' : World} (hs : w.heap.size ≤ w'.heap.size) (hk : ∀ i, i ≠ bc → w'.heap[i]? = w.heap[i]?) : IntsAt w' A xs := by
  by_cases hx : xs = []
  · subst hx; intro i hi; simp at hi
  · refine h.keep hs fun a ha _ => hk _ ?_
    obtain ⟨v, hv⟩ := h.isCell hx ha
    rintro e
    obtain ⟨bs, clock, _, hb, _⟩ := hm
    rw [← e] at hb
    simp [World.cell?, hb] at hv

/-- The counts turned. -/
theorem J.turned_c (h : J w b caps s) {w' : World} (ht : Turned w w' b.bc) {l : List ((Int × Int) × Value)} (hm : MapAt key2 w' b.bc l) {c : Int → Int → Int} (hc : ∀ k o, (mget l (k, o)).getD (.int .i64 0) = .int .i64 (c k o)) :
    J w' b caps { s with count := c } := by
  obtain ⟨lc, hmc, _⟩ := h.count
  obtain ⟨lf, hmf, hf⟩ := h.first
  have hj := ht.other (ne_map' hmc h.hj)
  have hx := ht.other (ne_map' hmc h.hx)
  have hh := ht.other (ne_map' hmc h.hh)
  exact ⟨hj.trans h.hj, hx.trans h.hx, hh.trans h.hh, h.capsAt.ne_map hmc (by rw [ht.size]; exact Nat.le_refl _) (fun i hi => ht.other hi), ⟨l, hm, hc⟩,
    ⟨lf, hmf.of_block (ht.other (Ne.symm h.ne.1)), hf⟩, h.origins.of_block (ht.other (Ne.symm h.ne.2.1)), h.table.of_block (ht.other (Ne.symm h.ne.2.2.1)), h.ne, h.capsNe⟩

/-- Who came first turned. -/
theorem J.turned_f (h : J w b caps s) {w' : World} (ht : Turned w w' b.bf) {l : List (Int × Value)} (hm : MapAt key1 w' b.bf l) {c : Int → Int} (hc : ∀ o, (mget l o).getD (.int .i64 0) = .int .i64 (c o)) :
    J w' b caps { s with first := c } := by
  obtain ⟨lc, hmc, hcc⟩ := h.count
  obtain ⟨lf, hmf, hf⟩ := h.first
  have hj := ht.other (ne_map' hmf h.hj)
  have hx := ht.other (ne_map' hmf h.hx)
  have hh := ht.other (ne_map' hmf h.hh)
  exact ⟨hj.trans h.hj, hx.trans h.hx, hh.trans h.hh, h.capsAt.ne_map hmf (by rw [ht.size]; exact Nat.le_refl _) (fun i hi => ht.other hi), ⟨lc, hmc.of_block (ht.other h.ne.1), hcc⟩,
    ⟨l, hm, hc⟩, h.origins.of_block (ht.other (Ne.symm h.ne.2.2.2.1)), h.table.of_block (ht.other (Ne.symm h.ne.2.2.2.2)), h.ne, h.capsNe⟩

theorem heap_setCell_self {w : World} {k : Nat} {cs : Array Value} {T : TypeId} {f : Nat × Nat} (h : w.heap[k]? = some (.cells cs T f)) (o : Nat) (v : Value) : (w.setCell ⟨k, o, none⟩ v).heap[k]? = some (.cells (cs.setIfInBounds o v) T f) := by
  simp [World.setCell, Array.getElem?_modify, h]

/-- A number of the judge's turned. -/
theorem J.set_j (h : J w b caps s) (o : Nat) (v : Value) (s' : JS) (hc : s'.count = s.count) (hf : s'.first = s.first) (hv : (jcells b caps s).setIfInBounds o v = jcells b caps s') : J (w.setCell ⟨b.bj, o, none⟩ v) b caps s' := by
  obtain ⟨lc, hmc, hcc⟩ := h.count
  obtain ⟨lf, hmf, hff⟩ := h.first
  have sz : (w.setCell ⟨b.bj, o, none⟩ v).heap.size = w.heap.size := by simp [World.setCell]
  have other : ∀ i, i ≠ b.bj → (w.setCell ⟨b.bj, o, none⟩ v).heap[i]? = w.heap[i]? := fun i hi => Below.heap_setCell _ _ _ _ (by exact hi)
  have nx : b.bx ≠ b.bj := fun e => by have h1 := h.hx; rw [e, h.hj] at h1; simp [jcells] at h1
  have nh : b.bh ≠ b.bj := fun e => by have h1 := h.hh; rw [e, h.hj] at h1; simp [jcells] at h1
  refine ⟨?_, (other _ nx).trans h.hx, (other _ nh).trans h.hh, h.capsAt.keep' (Nat.le_of_eq sz.symm) (fun hne a ha _ => other _ (h.capsNe hne a ha)), ⟨lc, hmc.of_block (other _ (Ne.symm (ne_map' hmc h.hj))), by rw [hc]; exact hcc⟩,
    ⟨lf, hmf.of_block (other _ (Ne.symm (ne_map' hmf h.hj))), by rw [hf]; exact hff⟩, h.origins.of_block (other _ (Ne.symm (ne_map' h.origins h.hj))), h.table.of_block (other _ (Ne.symm (ne_map' h.table h.hj))), h.ne, h.capsNe⟩
  rw [heap_setCell_self h.hj, hv]

theorem J.set_last (h : J w b caps s) {g : Int} (h0 : 0 ≤ g) (h1 : g < 8) (n : Int) : J (w.setCell ⟨b.bj, 2 + g.toNat, none⟩ (.int .i64 n)) b caps { s with last := fun k => if g = k then n else s.last k } := by
  refine h.set_j _ _ _ rfl rfl ?_
  have : g = 0 ∨ g = 1 ∨ g = 2 ∨ g = 3 ∨ g = 4 ∨ g = 5 ∨ g = 6 ∨ g = 7 := by omega
  rcases this with rfl | rfl | rfl | rfl | rfl | rfl | rfl | rfl <;> rfl
theorem J.set_begun (h : J w b caps s) (n : Int) : J (w.setCell ⟨b.bj, 10, none⟩ (.int .i64 n)) b caps { s with begun := n } := h.set_j _ _ _ rfl rfl rfl

theorem J.drew (h : J w b caps s) : J w.drew b caps s := ⟨h.hj, h.hx, h.hh, h.capsAt, h.count, h.first, h.origins, h.table, h.ne, h.capsNe⟩
end
end Go.Proofs.Ytnjnmoehjaikkaa.Tr
