/- code's reader: block: what stands between its rounds; operands. Condition: the reader lies in a block of its own. -/
import Derived.Test.YtlekjobicpnafaaCdSelW
namespace Go.Proofs.Ytlekjobicpnafaa.Cd
open Go Go.RowKit Base Pg
set_option linter.unusedVariables false
set_option linter.unusedSimpArgs false

theorem Try.infoI : (Try.prog.info? 44).map (fun i => (i.zero, i.size, i.bytes)) = some (some (.agg #[.int .i64 0, .int .i64 0, .int .i64 0]), 3, 24) := by kernel_rfl

theorem operands_0 (w : World) : Calls Try.prog 41 #[.int .i64 0] w fun r w' => r = .returned (.int .i64 0) ∧ w' = w := by
  go_enter Try.func41, Try.ntmps41
  go_wp2
  go_ret
  exact ⟨rfl, rfl⟩
theorem operands_7 (w : World) : Calls Try.prog 41 #[.int .i64 7] w fun r w' => r = .returned (.int .i64 2) ∧ w' = w := by
  go_enter Try.func41, Try.ntmps41
  go_wp2
  go_ret
  exact ⟨rfl, rfl⟩
theorem operands_1 (w : World) {op : Int} (h0 : (op == 0) = false) (h7 : (op == 7) = false) : Calls Try.prog 41 #[.int .i64 op] w fun r w' => r = .returned (.int .i64 1) ∧ w' = w := by
  go_enter Try.func41, Try.ntmps41
  go_wp2
  go_ret
  exact ⟨rfl, rfl⟩

def insV (i : Ins) : List Value := [.int .i64 i.op, .int .i64 i.a, .int .i64 i.b]

/-- What stands when so many instructions have been read. -/
structure BlkInv (w wr : World) (R : Nat) (s : ByteArray) (base : Nat) (acc : List Ins) (v : Value) (a' : Nat) : Prop where
  rd : RdAt wr R s a'
  own : wr.ownsRow base 44 3 v acc.length (acc.flatMap insV)
  grown : w.grownBy wr (some R)
  size : base ≤ wr.heap.size
  hRw : R < w.heap.size
  hwb : w.heap.size ≤ base

theorem BlkInv.rowLt {w wr : World} {R : Nat} {s : ByteArray} {base : Nat} {acc : List Ins} {v : Value} {a' : Nat} (h : BlkInv w wr R s base acc v a') {k : Nat} (hk : wr.heap.size ≤ k) : v.ownBlock ≠ some k := fun e => by
  have := (h.own.lt k e).2
  omega
theorem BlkInv.next {w wr w2 : World} {R : Nat} {s : ByteArray} {base : Nat} {acc : List Ins} {v : Value} {a' b : Nat} (h : BlkInv w wr R s base acc v a') (hR : RdAt w2 R s b) (hg : wr.grownBy w2 (some R)) : BlkInv w w2 R s base acc v b := by
  have h1 := h.hRw
  have h2 := h.hwb
  refine ⟨hR, h.own.kept hg ?_, grown_trans h.grown hg, Nat.le_trans h.size hg.size, h1, h2⟩
  cases ho : v.ownBlock with
  | none => exact .inl rfl
  | some k =>
    right; intro e
    have := h.own.lt k ho
    simp at e; omega
theorem BlkInv.alloc {w wr : World} {R : Nat} {s : ByteArray} {base : Nat} {acc : List Ins} {v : Value} {a' : Nat} (h : BlkInv w wr R s base acc v a') (o : Obj) : BlkInv w (wr.alloc o) R s base acc v a' :=
  ⟨blk_alloc h.rd o, h.own.alloc o, grown_new h.grown (World.grownBy_alloc wr o none) (by simp), by have := h.size; simp; omega, h.hRw, h.hwb⟩
theorem BlkInv.set {w wr : World} {R : Nat} {s : ByteArray} {base : Nat} {acc : List Ins} {v : Value} {a' : Nat} (h : BlkInv w wr R s base acc v a') {I j : Nat} (hI : base ≤ I) (hv : v.ownBlock ≠ some I) (u : Value) : BlkInv w (wr.setCell ⟨I, j, none⟩ u) R s base acc v a' := by
  have h1 := h.hRw
  have h2 := h.hwb
  refine ⟨blk_set_other h.rd (by omega) u, ownsRow_setCell_other h.own (by exact hv) u, grown_new h.grown (grown_setCell wr _ u) (fun k hk => by simp at hk; omega), ?_, h1, h2⟩
  have := h.size
  simp; omega
theorem BlkInv.stored {w wr w3 : World} {R : Nat} {s : ByteArray} {base : Nat} {acc : List Ins} {v : Value} {a' : Nat} (h : BlkInv w wr R s base acc v a') {o : Obj} {i : Ins} {g cap : Nat}
    (hown : w3.ownsRow base 44 3 (.slice (some ⟨g, 0, none⟩) (acc.length + 1) cap) (acc.length + 1) (acc.flatMap insV ++ insV i)) (hgr : (wr.alloc o).grownBy w3 v.ownBlock) :
    BlkInv w w3 R s base (acc ++ [i]) (.slice (some ⟨g, 0, none⟩) (acc.length + 1) cap) a' := by
  have h1 := h.hRw
  have h2 := h.hwb
  have h3 := h.size
  have hrow : ∀ k, v.ownBlock = some k → base ≤ k := fun k hk => (h.own.lt k hk).1
  refine ⟨RdAt.grown (blk_alloc h.rd o) hgr (fun e => by have := hrow R e; omega), ?_, ?_, ?_, h1, h2⟩
  · simp only [List.flatMap_append, List.length_append, List.length_singleton]
    simpa using hown
  · have g1 : w.grownBy (wr.alloc o) (some R) := grown_new h.grown (World.grownBy_alloc wr o none) (by simp)
    exact grown_new g1 hgr (fun k hk => by have := hrow k hk; omega)
  · have := hgr.size
    simp at this
    omega

theorem insR_0 {s : ByteArray} {a : Nat} {b : Nat} (h : nextR s a = .ok (0, b)) : insR s a = .ok (⟨0, 0, 0⟩, b) := by simp only [insR, h, if_true]
theorem insR_e {s : ByteArray} {a : Nat} {e : Int} (h : nextR s a = .error e) : insR s a = .error e := by simp only [insR, h]
theorem insR_e1 {s : ByteArray} {a b : Nat} {op e : Int} (h : nextR s a = .ok (op, b)) (h0 : ¬ op = 0) (h1 : nextR s b = .error e) : insR s a = .error e := by simp only [insR, h, if_neg h0, h1]
theorem insR_1 {s : ByteArray} {a b c : Nat} {op x : Int} (h : nextR s a = .ok (op, b)) (h0 : ¬ op = 0) (h7 : ¬ op = 7) (h1 : nextR s b = .ok (x, c)) : insR s a = .ok (⟨op, x, 0⟩, c) := by simp only [insR, h, if_neg h0, h1, if_neg h7]
theorem insR_e2 {s : ByteArray} {a b c : Nat} {x e : Int} (h : nextR s a = .ok (7, b)) (h1 : nextR s b = .ok (x, c)) (h2 : nextR s c = .error e) : insR s a = .error e := by
  simp only [insR, h, if_neg (show ¬ (7 : Int) = 0 by decide), h1, if_true, h2]
theorem insR_2 {s : ByteArray} {a b c d : Nat} {x y : Int} (h : nextR s a = .ok (7, b)) (h1 : nextR s b = .ok (x, c)) (h2 : nextR s c = .ok (y, d)) : insR s a = .ok (⟨7, x, y⟩, d) := by
  simp only [insR, h, if_neg (show ¬ (7 : Int) = 0 by decide), h1, if_true, h2]
end Go.Proofs.Ytlekjobicpnafaa.Cd
