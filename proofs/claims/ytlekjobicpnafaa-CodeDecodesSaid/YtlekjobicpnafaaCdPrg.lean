/- code's reader: prog: what stands between its rounds. Condition: the reader lies in a block of its own. -/
import Derived.Test.YtlekjobicpnafaaCdBlkW
import Derived.Test.YtlekjobicpnafaaRowB
import Derived.Test.YtlekjobicpnafaaStepCall
namespace Go.Proofs.Ytlekjobicpnafaa.Cd
open Go Go.RowKit Base Pg
set_option linter.unusedVariables false
set_option linter.unusedSimpArgs false

theorem Try.infoInt : (Try.prog.info? 3).map (fun i => (i.zero, i.size, i.bytes)) = some (some (.int .i64 0), 1, 8) := by kernel_rfl

/-- The reader's and the program's blocks, and what was laid ahead. -/
structure PInv (w wl wr : World) (R : Nat) (s : ByteArray) (P lo : Nat) (cs : Array Value) (a' : Nat) : Prop where
  rd : RdAt wr R s a'
  p : wr.heap[P]? = some (.cells cs 26 (0, 0))
  grown : w.grownBy wr (some R)
  size : lo ≤ wr.heap.size
  old : ∀ b, b < lo → b ≠ R → b ≠ P → wr.heap[b]? = wl.heap[b]?
  hR : R < w.heap.size
  hP : P < lo
  hwP : w.heap.size ≤ P

theorem PInv.next {w wl wr w2 : World} {R : Nat} {s : ByteArray} {P lo : Nat} {cs : Array Value} {a' b : Nat} (h : PInv w wl wr R s P lo cs a') (hR : RdAt w2 R s b) (hg : wr.grownBy w2 (some R)) : PInv w wl w2 R s P lo cs b := by
  have h1 := h.hR
  have h2 := h.hP
  have h3 := h.hwP
  have h4 := h.size
  refine ⟨hR, blk_grown h.p hg (by simp; omega), grown_trans h.grown hg, Nat.le_trans h.size hg.size, fun c hc hcR hcP => ?_, h1, h2, h3⟩
  rw [hg.block c (by omega) (by simpa using hcR)]
  exact h.old c hc hcR hcP
theorem PInv.drew {w wl wr : World} {R : Nat} {s : ByteArray} {P lo : Nat} {cs : Array Value} {a' : Nat} (h : PInv w wl wr R s P lo cs a') : PInv w wl wr.drew R s P lo cs a' :=
  ⟨h.rd, h.p, ⟨h.grown.os, h.grown.tape, h.grown.output, h.grown.size, h.grown.block⟩, h.size, h.old, h.hR, h.hP, h.hwP⟩
theorem PInv.new {w wl wr w2 : World} {R : Nat} {s : ByteArray} {P lo : Nat} {cs : Array Value} {a' : Nat} (h : PInv w wl wr R s P lo cs a') {row : Option Nat} (hg : wr.grownBy w2 row) (hr : ∀ b, row = some b → lo ≤ b) : PInv w wl w2 R s P lo cs a' := by
  have h1 := h.hR
  have h2 := h.hP
  have h3 := h.hwP
  have h4 := h.size
  refine ⟨RdAt.grown h.rd hg (fun e => by have := hr R e; omega), blk_grown h.p hg (fun e => by have := hr P e; omega), grown_new h.grown hg (fun b hb => by have := hr b hb; omega), Nat.le_trans h.size hg.size, fun c hc hcR hcP => ?_, h1, h2, h3⟩
  rw [hg.block c (by omega) (fun e => by have := hr c e.symm; omega)]
  exact h.old c hc hcR hcP
theorem PInv.set {w wl wr : World} {R : Nat} {s : ByteArray} {P lo : Nat} {cs : Array Value} {a' : Nat} (h : PInv w wl wr R s P lo cs a') (j : Nat) (u : Value) : PInv w wl (wr.setCell ⟨P, j, none⟩ u) R s P lo (cs.setIfInBounds j u) a' := by
  have h1 := h.hR
  have h2 := h.hP
  have h3 := h.hwP
  refine ⟨blk_set_other h.rd (by omega) u, blk_set h.p j u, grown_new h.grown (grown_setCell wr _ u) (fun k hk => by simp at hk; omega), by have := h.size; simpa using this, fun c hc hcR hcP => ?_, h1, h2, h3⟩
  rw [Below.heap_setCell wr _ u c (by exact hcP)]
  exact h.old c hc hcR hcP

theorem capR_ok {s : ByteArray} {a : Nat} {n : Int} {b : Nat} (h : nextR s a = .ok (n, b)) : capR s a = .ok (n - 1, b) := by simp only [capR, h]
theorem capR_err {s : ByteArray} {a : Nat} {e : Int} (h : nextR s a = .error e) : capR s a = .error e := by simp only [capR, h]


theorem Try.infoS : (Try.prog.info? 63).map (fun i => (i.zero, i.size, i.bytes)) = some (some (.agg #[.slice none 0 0, .bool false]), 2, 32) := by kernel_rfl
theorem Try.infoB : (Try.prog.info? 42).map (fun i => (i.zero, i.size, i.bytes)) = some (some (.slice none 0 0), 1, 24) := by kernel_rfl

/-- The blocks from one number on. -/
def Btw (lo : Nat) (w : World) : Nat → Prop := fun b => lo ≤ b ∧ b < w.heap.size
theorem PInv.renew {w wl wr : World} {R : Nat} {s : ByteArray} {P lo : Nat} {cs : Array Value} {a' : Nat} (h : PInv w wl wr R s P lo cs a') : PInv w wr wr R s P wr.heap.size cs a' :=
  ⟨h.rd, h.p, h.grown, Nat.le_refl _, fun _ _ _ _ => rfl, h.hR, lt_of_block h.p, h.hwP⟩
theorem PInv.agree {w wl wr : World} {R : Nat} {s : ByteArray} {P lo lo0 : Nat} {cs : Array Value} {a' : Nat} (h : PInv w wl wr R s P lo cs a') (hl : wl.heap.size ≤ lo) (hP : P < lo0) : Agree (Btw lo0 wl) (Btw lo0 wr) wl wr := fun b ⟨h1, h2⟩ =>
  ⟨⟨h1, Nat.lt_of_lt_of_le h2 (Nat.le_trans hl h.size)⟩, h.old b (Nat.lt_of_lt_of_le h2 hl) (by have := h.hR; have := h.hwP; omega) (by omega)⟩

def bindE {α β : Type} (x : Except Int (α × Nat)) (f : α → Nat → Except Int β) : Except Int β := match x with | .error e => .error e | .ok (y, a) => f y a
theorem bindE_err {α β : Type} (e : Int) (f : α → Nat → Except Int β) : bindE (.error e) f = .error e := rfl
theorem bindE_ok {α β : Type} (y : α) (a : Nat) (f : α → Nat → Except Int β) : bindE (.ok (y, a)) f = f y a := rfl
/-- What is read of a program, from each place on. -/
def dec4 (s : ByteArray) (p : Prg) (a : Nat) : Except Int Prg := if a < s.size then .error 10 else if rightF p = true then .ok p else .error 1
def dec3 (s : ByteArray) (caps : List Int) (m o v : Int) (sels : List Sel) (a : Nat) : Except Int Prg :=
  bindE (manyR s 1 6 a) fun n a1 => bindE (loopR (blkR s) n.toNat [] a1) fun bl a2 => dec4 s ⟨caps, m, o, v, sels, bl⟩ a2
def dec2 (s : ByteArray) (caps : List Int) (m o v : Int) (a : Nat) : Except Int Prg :=
  bindE (manyR s 1 4 a) fun n a1 => bindE (loopR (selR s) n.toNat [] a1) fun sels a2 => dec3 s caps m o v sels a2
def dec1 (s : ByteArray) (caps : List Int) (a : Nat) : Except Int Prg :=
  bindE (nextR s a) fun m a1 => bindE (nextR s a1) fun o a2 => bindE (nextR s a2) fun v a3 => dec2 s caps m o v a3
theorem decF_eq (s : ByteArray) : decF s = bindE (manyR s 1 4 0) fun n a1 => bindE (loopR (capR s) n.toNat [] a1) fun caps a2 => dec1 s caps a2 := by
  unfold decF prgR tabR dec1 dec2 dec3 dec4 bindE
  rcases manyR s 1 4 0 with e | ⟨n, a1⟩
  · rfl
  dsimp only
  rcases loopR (capR s) n.toNat [] a1 with e | ⟨caps, a2⟩
  · rfl
  dsimp only
  rcases nextR s a2 with e | ⟨m, a3⟩
  · rfl
  dsimp only
  rcases nextR s a3 with e | ⟨o, a4⟩
  · rfl
  dsimp only
  rcases nextR s a4 with e | ⟨v, a5⟩
  · rfl
  dsimp only
  rcases manyR s 1 4 a5 with e | ⟨k, a6⟩
  · rfl
  dsimp only
  rcases loopR (selR s) k.toNat [] a6 with e | ⟨sels, a7⟩
  · rfl
  dsimp only
  rcases manyR s 1 6 a7 with e | ⟨q, a8⟩
  · rfl
  dsimp only
  rcases loopR (blkR s) q.toNat [] a8 with e | ⟨bl, a9⟩ <;> rfl

def Inside {α : Type} (s : ByteArray) (p : Rd α) : Prop := ∀ a x b, a ≤ s.size → p a = .ok (x, b) → b ≤ s.size
theorem nextR_in (s : ByteArray) : Inside s (nextR s) := fun a x b ha h => (nextR_ok h ha).2.2.2.2
theorem loopR_in {α : Type} {s : ByteArray} {p : Rd α} (hp : Inside s p) : ∀ (n : Nat) (acc : List α) (a : Nat) (l : List α) (b : Nat), a ≤ s.size → loopR p n acc a = .ok (l, b) → b ≤ s.size ∧ l.length = acc.length + n
  | 0, acc, a, l, b, ha, h => by simp [loopR] at h; obtain ⟨rfl, rfl⟩ := h; exact ⟨ha, rfl⟩
  | n + 1, acc, a, l, b, ha, h => by
    unfold loopR at h
    cases hx : p a with
    | error e => rw [hx] at h; cases h
    | ok y =>
      obtain ⟨x, a'⟩ := y
      rw [hx] at h
      obtain ⟨h1, h2⟩ := loopR_in hp n _ a' l b (hp a x a' ha hx) h
      exact ⟨h1, by simp at h2; omega⟩
theorem cseR_in (s : ByteArray) : Inside s (cseR s) := fun a x b ha h => by
  unfold cseR at h
  cases hx : nextR s a with
  | error e => rw [hx] at h; cases h
  | ok y => obtain ⟨n, a'⟩ := y; rw [hx] at h; simp at h; obtain ⟨_, rfl⟩ := h; exact nextR_in s a n _ ha hx
theorem insR_in (s : ByteArray) : Inside s (insR s) := fun a x b ha h => by
  unfold insR at h
  cases hx : nextR s a with
  | error e => rw [hx] at h; cases h
  | ok y =>
    obtain ⟨n, a1⟩ := y
    have h1 := nextR_in s a n a1 ha hx
    rw [hx] at h
    simp only at h
    split at h
    · simp at h; obtain ⟨_, rfl⟩ := h; exact h1
    · cases hy : nextR s a1 with
      | error e => rw [hy] at h; cases h
      | ok z =>
        obtain ⟨m, a2⟩ := z
        have h2 := nextR_in s a1 m a2 h1 hy
        rw [hy] at h
        simp only at h
        split at h
        · cases hz : nextR s a2 with
          | error e => rw [hz] at h; cases h
          | ok u => obtain ⟨q, a3⟩ := u; rw [hz] at h; simp at h; obtain ⟨_, rfl⟩ := h; exact nextR_in s a2 q _ h2 hz
        · simp at h; obtain ⟨_, rfl⟩ := h; exact h2
theorem selR_in (s : ByteArray) {a : Nat} {x : Sel} {b : Nat} (ha : a ≤ s.size) (h : selR s a = .ok (x, b)) : b ≤ s.size ∧ x.cases.length ≤ 4 := by
  unfold selR at h
  cases hm : manyR s 2 4 a with
  | error e => rw [hm] at h; cases h
  | ok y =>
    obtain ⟨n, a1⟩ := y
    obtain ⟨h0, h1, h2⟩ := manyR_ok hm ha
    rw [hm] at h
    simp only at h
    cases hl : loopR (cseR s) (n / 2).toNat [] a1 with
    | error e => rw [hl] at h; cases h
    | ok z =>
      obtain ⟨l, a2⟩ := z
      rw [hl] at h
      simp only [Except.ok.injEq, Prod.mk.injEq] at h
      obtain ⟨rfl, rfl⟩ := h
      obtain ⟨h3, h4⟩ := loopR_in (cseR_in s) _ _ _ _ _ h2 hl
      exact ⟨h3, by simp at h4; simp only; omega⟩
theorem blkR_in (s : ByteArray) {a : Nat} {x : List Ins} {b : Nat} (ha : a ≤ s.size) (h : blkR s a = .ok (x, b)) : b ≤ s.size ∧ x.length ≤ 24 := by
  unfold blkR at h
  cases hm : manyR s 1 24 a with
  | error e => rw [hm] at h; cases h
  | ok y =>
    obtain ⟨n, a1⟩ := y
    obtain ⟨h0, h1, h2⟩ := manyR_ok hm ha
    rw [hm] at h
    simp only at h
    obtain ⟨h3, h4⟩ := loopR_in (insR_in s) _ _ _ _ _ h2 h
    exact ⟨h3, by simp at h4; omega⟩

/-- What comes of reading a program. -/
def PrgPost (w : World) (R : Nat) (res : Except Int Prg) (r : Ending) (w' : World) : Prop := match res with
  | .ok p => (∃ L, r = .returned (p.val L) ∧ PrgAt (Fresh w w') w' L p) ∧ w.grownBy w' (some R)
  | .error e => r = .panicked (failV e) ∧ w.grownBy w' (some R)
theorem prgPost_err {w : World} {R : Nat} {e : Int} {w' : World} (h : w.grownBy w' (some R)) : PrgPost w R (.error e) (.panicked (failV e)) w' := ⟨rfl, h⟩

/-- A select that was read, one of a row's. -/
theorem selE_new {w1 w2 : World} {o : Obj} {lo : Nat} {v : Value} {A : Option Addr} {cap : Nat} {x : Sel} (hlo : lo ≤ w1.heap.size) (hv : ∀ b, v.ownBlock = some b → b < w1.heap.size) (hc : x.cases.length ≤ cap) (hl : x.cases.length ≤ 4) (hr : RowAt 2 CseE (Fresh w1 w2) w2 A x.cases) :
    SelE (Inn lo (w2.alloc o) v) (w2.alloc o) x [.slice A x.cases.length cap, .bool x.dflt] :=
  ⟨A, cap, rfl, hc, by omega, hr.mono CseE.mono (fun b ⟨h1, h2⟩ => ⟨⟨by omega, by simp; omega, fun e => by have := hv b e; omega⟩, Below.heap_alloc w2 o b h2⟩)⟩
theorem blkE_new {w1 w2 : World} {o : Obj} {lo : Nat} {v : Value} {A : Option Addr} {cap : Nat} {x : List Ins} (hlo : lo ≤ w1.heap.size) (hv : ∀ b, v.ownBlock = some b → b < w1.heap.size) (hc : x.length ≤ cap) (hl : x.length ≤ 24) (hr : RowAt 3 InsE (Fresh w1 w2) w2 A x) :
    BlkE (Inn lo (w2.alloc o) v) (w2.alloc o) x [.slice A x.length cap] :=
  ⟨A, cap, rfl, hc, by omega, hr.mono InsE.mono (fun b ⟨h1, h2⟩ => ⟨⟨by omega, by simp; omega, fun e => by have := hv b e; omega⟩, Below.heap_alloc w2 o b h2⟩)⟩

theorem grown_below {w w' : World} (h : Below w.heap.size w w') (row : Option Nat) : w.grownBy w' row := ⟨h.os, h.tape, h.output, h.size, fun b hb _ => h.block b hb⟩
theorem below_drewN {w w' : World} {n : Nat} (h : Below (w.drewN n).heap.size (w.drewN n) w') : Below w.heap.size w w' := ⟨h.os, h.tape, h.output, h.size, h.block⟩
theorem agree_set {S : Nat → Prop} {w wr Y : World} {P : Nat} (hS : ¬ S P) (h : ∀ b, S b → w.heap.size ≤ b ∧ b < Y.heap.size ∧ Y.heap[b]? = wr.heap[b]?) (j : Nat) (u : Value) : ∀ b, S b → w.heap.size ≤ b ∧ b < (Y.setCell ⟨P, j, none⟩ u).heap.size ∧ (Y.setCell ⟨P, j, none⟩ u).heap[b]? = wr.heap[b]? := fun b hb =>
  ⟨(h b hb).1, by simpa using (h b hb).2.1, (Below.heap_setCell Y _ u b (fun e => hS (by simp at e; rw [← e]; exact hb))).trans (h b hb).2.2⟩
/-- The program has been laid into its result's cells. -/
theorem prog_done {w wr Y : World} {R P lo : Nat} (hP : P < lo) (hwP : w.heap.size ≤ P) (hg : w.grownBy wr (some R)) (hY : Below wr.heap.size wr Y) (u0 u1 u2 u3 u4 u5 : Value) {p : Prg} {L : PL}
    (rC : RowAt 1 IntE (Btw lo wr) wr L.cA p.caps) (rS : RowAt 2 SelE (Btw lo wr) wr L.sA p.sels) (rB : RowAt 1 BlkE (Btw lo wr) wr L.bA p.blocks) (hPP : PrgAt (Old wr) wr L p) :
    PrgAt (Fresh w ((((((Y.setCell ⟨P, 0, none⟩ u0).setCell ⟨P, 1, none⟩ u1).setCell ⟨P, 2, none⟩ u2).setCell ⟨P, 3, none⟩ u3).setCell ⟨P, 4, none⟩ u4).setCell ⟨P, 5, none⟩ u5)) ((((((Y.setCell ⟨P, 0, none⟩ u0).setCell ⟨P, 1, none⟩ u1).setCell ⟨P, 2, none⟩ u2).setCell ⟨P, 3, none⟩ u3).setCell ⟨P, 4, none⟩ u4).setCell ⟨P, 5, none⟩ u5) L p ∧
    w.grownBy ((((((Y.setCell ⟨P, 0, none⟩ u0).setCell ⟨P, 1, none⟩ u1).setCell ⟨P, 2, none⟩ u2).setCell ⟨P, 3, none⟩ u3).setCell ⟨P, 4, none⟩ u4).setCell ⟨P, 5, none⟩ u5) (some R) := by
  have hS : ¬ Btw lo wr P := fun h => by have := h.1; omega
  have h0 : ∀ b, Btw lo wr b → w.heap.size ≤ b ∧ b < Y.heap.size ∧ Y.heap[b]? = wr.heap[b]? := fun b h => ⟨by have := h.1; omega, Nat.lt_of_lt_of_le h.2 hY.size, hY.block b h.2⟩
  have h6 := agree_set hS (agree_set hS (agree_set hS (agree_set hS (agree_set hS (agree_set hS h0 0 u0) 1 u1) 2 u2) 3 u3) 4 u4) 5 u5
  have gn : ∀ (W : World) (j : Nat) (u : Value), w.grownBy W (some R) → w.grownBy (W.setCell ⟨P, j, none⟩ u) (some R) := fun W j u h => grown_new h (grown_setCell W _ u) (fun k hk => by simp at hk; omega)
  have g6 := gn _ 5 u5 (gn _ 4 u4 (gn _ 3 u3 (gn _ 2 u2 (gn _ 1 u1 (gn _ 0 u0 (grown_new hg (grown_below hY none) (by simp)))))))
  refine ⟨?_, g6⟩
  generalize (((((Y.setCell ⟨P, 0, none⟩ u0).setCell ⟨P, 1, none⟩ u1).setCell ⟨P, 2, none⟩ u2).setCell ⟨P, 3, none⟩ u3).setCell ⟨P, 4, none⟩ u4).setCell ⟨P, 5, none⟩ u5 = W at *
  have hag : Agree (Btw lo wr) (Fresh w W) wr W := fun b h => ⟨⟨(h6 b h).1, (h6 b h).2.1⟩, (h6 b h).2.2⟩
  exact ⟨rC.mono IntE.mono hag, rS.mono SelE.mono hag, rB.mono BlkE.mono hag, hPP.cc, hPP.sc, hPP.bc, hPP.cm, hPP.sm, hPP.bm⟩
end Go.Proofs.Ytlekjobicpnafaa.Cd
