/- code's reader: sel. Condition: the reader lies in a block of its own. -/
import Derived.Test.YtlekjobicpnafaaCdRd
import Derived.Test.YtlekjobicpnafaaRepOwn
namespace Go.Proofs.Ytlekjobicpnafaa.Cd
open Go Go.RowKit Base Pg
set_option linter.unusedVariables false
set_option linter.unusedSimpArgs false

theorem Try.infoC : (Try.prog.info? 83).map (fun i => (i.zero, i.size, i.bytes)) = some (some (.agg #[.bool false, .int .i64 0]), 2, 16) := by kernel_rfl

theorem blk_grown {w w' : World} {b : Nat} {o : Obj} {row : Option Nat} (h : w.heap[b]? = some o) (hg : w.grownBy w' row) (hr : row ≠ some b) : w'.heap[b]? = some o :=
  (hg.block b (lt_of_block h) (fun e => hr e.symm)).trans h
theorem grown_trans {w w1 w2 : World} {row : Option Nat} (h : w.grownBy w1 row) (k : w1.grownBy w2 row) : w.grownBy w2 row :=
  ⟨k.os.trans h.os, k.tape.trans h.tape, k.output.trans h.output, Nat.le_trans h.size k.size, fun b hb hne => (k.block b (Nat.lt_of_lt_of_le hb h.size) hne).trans (h.block b hb hne)⟩
/-- What a later step writes, if it writes new blocks alone. -/
theorem grown_new {w w1 w2 : World} {row row2 : Option Nat} (h : w.grownBy w1 row) (k : w1.grownBy w2 row2) (hn : ∀ b, row2 = some b → w.heap.size ≤ b) : w.grownBy w2 row :=
  ⟨k.os.trans h.os, k.tape.trans h.tape, k.output.trans h.output, Nat.le_trans h.size k.size, fun b hb hne => (k.block b (Nat.lt_of_lt_of_le hb h.size) (fun e => by have := hn b e.symm; omega)).trans (h.block b hb hne)⟩
theorem blk_cell {w : World} {b : Nat} {cs : Array Value} {t : TypeId} {fr : Nat × Nat} (h : w.heap[b]? = some (.cells cs t fr)) {j : Nat} {v : Value} (hj : cs[j]? = some v) : w.cell? ⟨b, j, none⟩ = some v := by
  simp [World.cell?, h, hj]
theorem blk_free {w : World} {b : Nat} {cs : Array Value} {t : TypeId} (h : w.heap[b]? = some (.cells cs t (0, 0))) (j : Nat) : w.frozen? ⟨b, j, none⟩ = false := by simp [World.frozen?, h]
theorem blk_set {w : World} {b : Nat} {cs : Array Value} {t : TypeId} {fr : Nat × Nat} (h : w.heap[b]? = some (.cells cs t fr)) (j : Nat) (v : Value) : (w.setCell ⟨b, j, none⟩ v).heap[b]? = some (.cells (cs.setIfInBounds j v) t fr) := by
  simp [World.setCell, Array.getElem?_modify, h]
theorem blk_alloc {w : World} {b : Nat} {o : Obj} (h : w.heap[b]? = some o) (o' : Obj) : (w.alloc o').heap[b]? = some o := (Below.heap_alloc w o' b (lt_of_block h)).trans h
theorem blk_set_other {w : World} {b : Nat} {o : Obj} (h : w.heap[b]? = some o) {c j : Nat} (hne : b ≠ c) (v : Value) : (w.setCell ⟨c, j, none⟩ v).heap[b]? = some o := (Below.heap_setCell w _ v b (by exact hne)).trans h

def cseV (c : Cse) : List Value := [.bool c.send, .int .i64 c.chan]

/-- What stands when so many cases have been read. -/
structure SelInv (w wr : World) (R : Nat) (s : ByteArray) (T B base : Nat) (d : Bool) (acc : List Cse) (v : Value) (a' : Nat) : Prop where
  rd : RdAt wr R s a'
  t : wr.heap[T]? = some (.cells #[.slice none 0 0, .bool false] 63 (0, 0))
  b : wr.heap[B]? = some (.cells #[v, .bool d] 63 (0, 0))
  own : wr.ownsRow base 83 2 v acc.length (acc.flatMap cseV)
  grown : w.grownBy wr (some R)
  size : base ≤ wr.heap.size
  hT : T < base
  hB : B < base
  hRw : R < w.heap.size
  hTw : w.heap.size ≤ T
  hBw : w.heap.size ≤ B
  hTB : T ≠ B

theorem SelInv.rowB {w wr : World} {R : Nat} {s : ByteArray} {T B base : Nat} {d : Bool} {acc : List Cse} {v : Value} {a' : Nat} (h : SelInv w wr R s T B base d acc v a') : v.ownBlock ≠ some B := fun e => by
  have := (h.own.lt B e).1
  have := h.hB
  omega
theorem SelInv.next {w wr w2 : World} {R : Nat} {s : ByteArray} {T B base : Nat} {d : Bool} {acc : List Cse} {v : Value} {a' b : Nat} (h : SelInv w wr R s T B base d acc v a') (hR : RdAt w2 R s b) (hg : wr.grownBy w2 (some R)) : SelInv w w2 R s T B base d acc v b := by
  have h1 := h.hRw
  have h2 := h.hTw
  have h3 := h.hBw
  refine ⟨hR, blk_grown h.t hg (by simp; omega), blk_grown h.b hg (by simp; omega), h.own.kept hg ?_, grown_trans h.grown hg, Nat.le_trans h.size hg.size, h.hT, h.hB, h.hRw, h.hTw, h.hBw, h.hTB⟩
  cases ho : v.ownBlock with
  | none => exact .inl rfl
  | some k =>
    right; intro e
    have := h.own.lt k ho
    have := h.hT
    simp at e; omega
theorem SelInv.stored {w wr w3 : World} {R : Nat} {s : ByteArray} {T B base : Nat} {d : Bool} {acc : List Cse} {v : Value} {a' : Nat} (h : SelInv w wr R s T B base d acc v a') {o : Obj} {c : Cse} {g cap : Nat}
    (hown : w3.ownsRow base 83 2 (.slice (some ⟨g, 0, none⟩) (acc.length + 1) cap) (acc.length + 1) (acc.flatMap cseV ++ cseV c)) (hgr : (wr.alloc o).grownBy w3 v.ownBlock) (hat : v.ownBlock = some g ∨ g = wr.heap.size + 1) :
    SelInv w (w3.setCell ⟨B, 0, none⟩ (.slice (some ⟨g, 0, none⟩) (acc.length + 1) cap)) R s T B base d (acc ++ [c]) (.slice (some ⟨g, 0, none⟩) (acc.length + 1) cap) a' := by
  have h1 := h.hRw
  have h2 := h.hTw
  have h3 := h.hBw
  have h4 := h.hT
  have h5 := h.hB
  have h6 := h.size
  have hrow : ∀ k, v.ownBlock = some k → base ≤ k := fun k hk => (h.own.lt k hk).1
  have hne : ∀ x : Nat, x < base → v.ownBlock ≠ some x := fun x hx e => by have := hrow x e; omega
  have hgb : base ≤ g := by
    rcases hat with e | e
    · exact hrow g e
    · omega
  have r3 : RdAt w3 R s a' := RdAt.grown (blk_alloc h.rd o) hgr (hne R (by omega))
  refine ⟨blk_set_other r3 (by omega) _, blk_set_other (blk_grown (blk_alloc h.t o) hgr (hne T h4)) h.hTB _, ?_, ?_, ?_, ?_, h4, h5, h1, h2, h3, h.hTB⟩
  · have := blk_set (blk_grown (blk_alloc h.b o) hgr (hne B h5)) 0 (.slice (some ⟨g, 0, none⟩) (acc.length + 1) cap)
    simpa using this
  · simp only [List.flatMap_append, List.length_append, List.length_singleton]
    have := ownsRow_setCell_below hown (a := ⟨B, 0, none⟩) (by exact h5) (.slice (some ⟨g, 0, none⟩) (acc.length + 1) cap)
    simpa using this
  · have g1 : w.grownBy (wr.alloc o) (some R) := grown_new h.grown (World.grownBy_alloc wr o none) (by simp)
    have g2 := grown_new g1 hgr (fun k hk => by have := hrow k hk; omega)
    exact grown_new g2 (grown_setCell w3 _ _) (fun k hk => by simp at hk; omega)
  · have := hgr.size
    simp at this
    simp
    omega

/-- What stands when the select has been laid into its result's cells. -/
theorem SelInv.done {w wr : World} {R : Nat} {s : ByteArray} {T B base : Nat} {d : Bool} {acc : List Cse} {v : Value} {a' : Nat} (h : SelInv w wr R s T B base d acc v a') :
    (∃ A cap, Ending.returned (.agg #[v, .bool d]) = .returned (.agg #[.slice A acc.length cap, .bool d]) ∧ acc.length ≤ cap ∧ RowAt 2 CseE (Fresh w ((wr.setCell ⟨T, 0, none⟩ v).setCell ⟨T, 1, none⟩ (.bool d))) ((wr.setCell ⟨T, 0, none⟩ v).setCell ⟨T, 1, none⟩ (.bool d)) A acc) ∧
    RdAt ((wr.setCell ⟨T, 0, none⟩ v).setCell ⟨T, 1, none⟩ (.bool d)) R s a' ∧ w.grownBy ((wr.setCell ⟨T, 0, none⟩ v).setCell ⟨T, 1, none⟩ (.bool d)) (some R) ∧ True := by
  have h1 := h.hRw
  have h2 := h.hTw
  have h3 := h.hBw
  have h4 := h.hT
  have h5 := h.hB
  have ho := ownsRow_setCell_below (ownsRow_setCell_below h.own (a := ⟨T, 0, none⟩) (by exact h4) v) (a := ⟨T, 1, none⟩) (by exact h4) (.bool d)
  generalize hW : (wr.setCell ⟨T, 0, none⟩ v).setCell ⟨T, 1, none⟩ (.bool d) = W at *
  rw [List.flatMap_def] at ho
  obtain ⟨A, cap, hv, hc, hr⟩ := own_row (E := CseE) (S := Fresh w W) (by intro cs hcs; simp at hcs; obtain ⟨c, _, rfl⟩ := hcs; rfl) (fun i x hi => ⟨cseV x, by simp [hi], rfl⟩) (fun b hb hb2 => ⟨by omega, hb2⟩) ho
  refine ⟨⟨A, cap, by rw [hv], hc, hr⟩, ?_, ?_, trivial⟩
  · rw [← hW]; exact blk_set_other (blk_set_other h.rd (by omega) _) (by omega) _
  · rw [← hW]
    exact grown_new (grown_new h.grown (grown_setCell wr _ _) (fun k hk => by simp at hk; omega)) (grown_setCell _ _ _) (fun k hk => by simp at hk; omega)
end Go.Proofs.Ytlekjobicpnafaa.Cd
