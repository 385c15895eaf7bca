/- The document's reader: what stands while a program is read. No condition. -/
import Derived.Test.YtlekjobicpnafaaCdRBlk
namespace Go.Proofs.Ytlekjobicpnafaa.Cd
open Go Go.RowKit Base Pg
set_option linter.unusedVariables false
set_option linter.unusedSimpArgs false

/-- How far the text is read lies at X, the program at P, some other blocks are as they were laid; what was laid from lo0 to lo is as in wl. -/
structure TInv (w wl wr : World) (s : ByteArray) (X P lo0 lo : Nat) (os : List (Nat × Obj)) (z : RX) (cs : Array Value) : Prop where
  x : wr.heap[X]? = some (.cells #[.string s, .int .i64 z.pos, .int .i64 z.n, .int .i64 z.e] 53 (0, 0))
  p : wr.heap[P]? = some (.cells cs 26 (0, 0))
  os : ∀ q ∈ os, wr.heap[q.1]? = some q.2 ∧ q.1 ≠ X ∧ q.1 ≠ P ∧ q.1 < lo
  ex : ∃ y : Ext w, wr = w.ext y
  old : ∀ b, lo0 ≤ b → b < lo → wr.heap[b]? = wl.heap[b]?
  size : lo ≤ wr.heap.size
  hX : X < lo0
  hP : P < lo0
  hXP : X ≠ P
  hwX : w.heap.size ≤ X
  hwP : w.heap.size ≤ P
  hlo : lo0 ≤ lo
section
variable {w wl wr W : World} {s : ByteArray} {X P lo0 lo : Nat} {os : List (Nat × Obj)} {z : RX} {cs : Array Value}
theorem TInv.keep (h : TInv w wl wr s X P lo0 lo os z cs) (hall : ∀ (b : Nat) (o : Obj), wr.heap[b]? = some o → W.heap[b]? = some o) (hs : wr.heap.size ≤ W.heap.size) (hex : ∃ y : Ext w, W = w.ext y) : TInv w wl W s X P lo0 lo os z cs :=
  ⟨hall _ _ h.x, hall _ _ h.p, fun q hq => ⟨hall _ _ (h.os q hq).1, (h.os q hq).2⟩, hex, fun b h1 h2 => by
    have hb := Array.getElem?_eq_getElem (Nat.lt_of_lt_of_le h2 h.size)
    rw [← h.old b h1 h2, hb]; exact hall _ _ hb, Nat.le_trans h.size hs, h.hX, h.hP, h.hXP, h.hwX, h.hwP, h.hlo⟩
theorem TInv.ext (h : TInv w wl wr s X P lo0 lo os z cs) (y : Ext wr) : TInv w wl (wr.ext y) s X P lo0 lo os z cs := h.keep (fun b o hb => blk_ext hb y) (World.ext_size wr y) (ex_ext y h.ex)
theorem TInv.alloc (h : TInv w wl wr s X P lo0 lo os z cs) (o : Obj) : TInv w wl (wr.alloc o) s X P lo0 lo os z cs := h.keep (fun b o' hb => blk_alloc hb o) (by simp) (ex_alloc o h.ex)
theorem TInv.set (h : TInv w wl wr s X P lo0 lo os z cs) {c : Nat} (hc : lo ≤ c) (j : Nat) (u : Value) : TInv w wl (wr.setCell ⟨c, j, none⟩ u) s X P lo0 lo os z cs := by
  have h1 := h.hX
  have h2 := h.hP
  have h3 := h.hlo
  have h4 := h.hwX
  refine ⟨blk_set_other h.x (by omega) u, blk_set_other h.p (by omega) u, fun q hq => ?_, ex_set h.ex (by omega) j u, fun b g1 g2 => ?_, by simpa using h.size, h1, h2, h.hXP, h4, h.hwP, h3⟩
  · obtain ⟨q1, q2, q3, q4⟩ := h.os q hq
    exact ⟨blk_set_other q1 (by omega) u, q2, q3, q4⟩
  · rw [Below.heap_setCell wr _ u b (by simp; omega)]; exact h.old b g1 g2
theorem TInv.setP (h : TInv w wl wr s X P lo0 lo os z cs) (j : Nat) (u : Value) : TInv w wl (wr.setCell ⟨P, j, none⟩ u) s X P lo0 lo os z (cs.setIfInBounds j u) := by
  have h1 := h.hX
  have h2 := h.hP
  have h3 := h.hlo
  refine ⟨blk_set_other h.x h.hXP u, blk_set h.p j u, fun q hq => ?_, ex_set h.ex h.hwP j u, fun b g1 g2 => ?_, by simpa using h.size, h1, h2, h.hXP, h.hwX, h.hwP, h3⟩
  · obtain ⟨q1, q2, q3, q4⟩ := h.os q hq
    exact ⟨blk_set_other q1 q3 u, q2, q3, q4⟩
  · rw [Below.heap_setCell wr _ u b (by simp; omega)]; exact h.old b g1 g2
theorem TInv.setX1 (h : TInv w wl wr s X P lo0 lo os z cs) (j : Nat) (u : Value) : (∀ q ∈ os, (wr.setCell ⟨X, j, none⟩ u).heap[q.1]? = some q.2 ∧ q.1 ≠ X ∧ q.1 ≠ P ∧ q.1 < lo) ∧ (wr.setCell ⟨X, j, none⟩ u).heap[P]? = some (.cells cs 26 (0, 0)) ∧
    (∀ b, lo0 ≤ b → b < lo → (wr.setCell ⟨X, j, none⟩ u).heap[b]? = wl.heap[b]?) ∧ (∃ y : Ext w, wr.setCell ⟨X, j, none⟩ u = w.ext y) := by
  have h1 := h.hX
  refine ⟨fun q hq => ?_, blk_set_other h.p (Ne.symm h.hXP) u, fun b g1 g2 => ?_, ex_set h.ex h.hwX j u⟩
  · obtain ⟨q1, q2, q3, q4⟩ := h.os q hq
    exact ⟨blk_set_other q1 q2 u, q2, q3, q4⟩
  · rw [Below.heap_setCell wr _ u b (by simp; omega)]; exact h.old b g1 g2
theorem TInv.setE (h : TInv w wl wr s X P lo0 lo os z cs) (e : Int) : TInv w wl (wr.setCell ⟨X, 3, none⟩ (.int .i64 e)) s X P lo0 lo os ⟨z.pos, z.n, e⟩ cs := by
  obtain ⟨a1, a2, a3, a4⟩ := h.setX1 3 (.int .i64 e)
  exact ⟨blk_set h.x 3 _, a2, a1, a4, a3, by simpa using h.size, h.hX, h.hP, h.hXP, h.hwX, h.hwP, h.hlo⟩
theorem TInv.setX (h : TInv w wl wr s X P lo0 lo os z cs) (p : Nat) (n e : Int) :
    TInv w wl ((((wr.setCell ⟨X, 0, none⟩ (.string s)).setCell ⟨X, 1, none⟩ (.int .i64 p)).setCell ⟨X, 2, none⟩ (.int .i64 n)).setCell ⟨X, 3, none⟩ (.int .i64 e)) s X P lo0 lo os ⟨p, n, e⟩ cs := by
  obtain ⟨W, hW, a1, a2, a3⟩ := set4 (w := w) h.ex h.hwX h.x (.string s) (.int .i64 p) (.int .i64 n) (.int .i64 e)
  have hs : W.heap.size = wr.heap.size := by rw [← hW]; simp
  rw [hW]
  have h1 := h.hX
  have hz := h.size
  refine ⟨a2, a3 _ _ (Ne.symm h.hXP) h.p, fun q hq => ?_, a1, fun b g1 g2 => ?_, by omega, h.hX, h.hP, h.hXP, h.hwX, h.hwP, h.hlo⟩
  · obtain ⟨q1, q2, q3, q4⟩ := h.os q hq
    exact ⟨a3 _ _ q2 q1, q2, q3, q4⟩
  · have hb := Array.getElem?_eq_getElem (Nat.lt_of_lt_of_le g2 h.size)
    rw [← h.old b g1 g2, hb]; exact a3 _ _ (by omega) hb
theorem TInv.grown (h : TInv w wl wr s X P lo0 lo os z cs) {row : Option Nat} (hg : wr.grownBy W row) (hr : ∀ b, row = some b → lo ≤ b) : TInv w wl W s X P lo0 lo os z cs := by
  have h1 := h.hX
  have h2 := h.hP
  have h3 := h.hlo
  have h4 := h.hwX
  have hne : ∀ b, b < lo → row ≠ some b := fun b hb e => by have := hr b e; omega
  refine ⟨blk_grown h.x hg (hne _ (by omega)), blk_grown h.p hg (hne _ (by omega)), fun q hq => ?_, grown_ex h.ex hg (fun b hb => by have := hr b hb; omega), fun b g1 g2 => ?_, Nat.le_trans h.size hg.size, h1, h2, h.hXP, h4, h.hwP, h3⟩
  · obtain ⟨q1, q2, q3, q4⟩ := h.os q hq
    exact ⟨blk_grown q1 hg (hne _ q4), q2, q3, q4⟩
  · rw [hg.block b (Nat.lt_of_lt_of_le g2 h.size) (fun e => hne b g2 e.symm)]; exact h.old b g1 g2
theorem TInv.renew (h : TInv w wl wr s X P lo0 lo os z cs) : TInv w wr wr s X P lo0 wr.heap.size os z cs :=
  ⟨h.x, h.p, fun q hq => ⟨(h.os q hq).1, (h.os q hq).2.1, (h.os q hq).2.2.1, lt_of_block (h.os q hq).1⟩, h.ex, fun _ _ _ => rfl, Nat.le_refl _, h.hX, h.hP, h.hXP, h.hwX, h.hwP, Nat.le_trans h.hlo h.size⟩
theorem TInv.agree (h : TInv w wl wr s X P lo0 lo os z cs) (hl : wl.heap.size ≤ lo) : Agree (Btw lo0 wl) (Btw lo0 wr) wl wr := fun b ⟨h1, h2⟩ =>
  ⟨⟨h1, Nat.lt_of_lt_of_le h2 (Nat.le_trans hl h.size)⟩, h.old b h1 (Nat.lt_of_lt_of_le h2 hl)⟩

section
variable {α : Type} {k e : Nat} {E : Enc α} {acc : List α} {css : List (List Value)} {v : Value}
theorem rowB_all (hE : E.Mono) (h : RowB k e E lo wr acc css v) (hall : ∀ (b : Nat) (o : Obj), wr.heap[b]? = some o → lo ≤ b → W.heap[b]? = some o) (hs : wr.heap.size ≤ W.heap.size) : RowB k e E lo W acc css v :=
  h.kept hE hs (fun b h1 h2 => by
    have hb := Array.getElem?_eq_getElem h2
    rw [hb]; exact hall _ _ hb h1)
theorem rowB_x (hE : E.Mono) (h : RowB k e E lo wr acc css v) (hX : X < lo) (p : Nat) (n x : Int) : RowB k e E lo ((((wr.setCell ⟨X, 0, none⟩ (.string s)).setCell ⟨X, 1, none⟩ (.int .i64 p)).setCell ⟨X, 2, none⟩ (.int .i64 n)).setCell ⟨X, 3, none⟩ (.int .i64 x)) acc css v :=
  (((h.set hE hX _).set hE hX _).set hE hX _).set hE hX _
end

/-- A select has been read: it and how far the text is read then lie in two blocks more; how far, at X too. -/
theorem TInv.round {α : Type} {k t : Nat} {E : Enc α} {acc : List α} {css : List (List Value)} {v : Value} (hE : E.Mono) (h : TInv w wl wr s X P lo0 lo os z cs) (hr : RowB k t E lo wr acc css v) (y : Ext wr) (u0 u1 : Value) (p : Nat) (n e : Int) :
    ∃ (E3 E5 E6 : World) (O1 : Nat), ((wr.ext y).alloc (.cells #[.slice none 0 0, .bool false] 63)).alloc (.cells #[.string ⟨#[]⟩, .int .i64 0, .int .i64 0, .int .i64 0] 53) = E3 ∧ (wr.ext y).heap.size = O1 ∧
      E3.heap[O1]? = some (.cells #[.slice none 0 0, .bool false] 63 (0, 0)) ∧ E3.heap[O1 + 1]? = some (.cells #[.string ⟨#[]⟩, .int .i64 0, .int .i64 0, .int .i64 0] 53 (0, 0)) ∧
      ((((((E3.setCell ⟨O1, 0, none⟩ u0).setCell ⟨O1, 1, none⟩ u1).setCell ⟨O1 + 1, 0, none⟩ (.string s)).setCell ⟨O1 + 1, 1, none⟩ (.int .i64 p)).setCell ⟨O1 + 1, 2, none⟩ (.int .i64 n)).setCell ⟨O1 + 1, 3, none⟩ (.int .i64 e)) = E5 ∧
      E5.heap[O1 + 1]? = some (.cells #[.string s, .int .i64 p, .int .i64 n, .int .i64 e] 53 (0, 0)) ∧ E5.heap[X]? = some (.cells #[.string s, .int .i64 z.pos, .int .i64 z.n, .int .i64 z.e] 53 (0, 0)) ∧
      ((((E5.setCell ⟨X, 0, none⟩ (.string s)).setCell ⟨X, 1, none⟩ (.int .i64 p)).setCell ⟨X, 2, none⟩ (.int .i64 n)).setCell ⟨X, 3, none⟩ (.int .i64 e)) = E6 ∧
      E6.heap[O1]? = some (.cells #[u0, u1] 63 (0, 0)) ∧ TInv w wl E6 s X P lo0 lo os ⟨p, n, e⟩ cs ∧ RowB k t E lo E6 acc css v ∧ ∀ (b : Nat) (o : Obj), (wr.ext y).heap[b]? = some o → lo ≤ b → E6.heap[b]? = some o := by
  have h1 := h.hX
  have h3 := h.hlo
  have hz := h.size
  have hle := World.ext_size wr y
  obtain ⟨E3, hE3, hx3, a1, a2, hsz⟩ := two_laid (w := wr.ext y) (.cells #[.slice none 0 0, .bool false] 63) (.cells #[.string ⟨#[]⟩, .int .i64 0, .int .i64 0, .int .i64 0] 53)
  have hX3 : ∃ y : Ext w, E3 = w.ext y := ex_trans (ex_ext y h.ex) hx3
  have k3 : ∀ (b : Nat) (o : Obj), (wr.ext y).heap[b]? = some o → E3.heap[b]? = some o ∧ b < (wr.ext y).heap.size := fun b o ho => by
    obtain ⟨q, hq⟩ := hx3
    exact ⟨by rw [hq]; exact blk_ext ho q, lt_of_block ho⟩
  generalize hO : (wr.ext y).heap.size = O1 at *
  have hw1 := h.hwX
  obtain ⟨E4, hE4, hx4, b1, b2⟩ : ∃ E4, (E3.setCell ⟨O1, 0, none⟩ u0).setCell ⟨O1, 1, none⟩ u1 = E4 ∧ (∃ y : Ext w, E4 = w.ext y) ∧ E4.heap[O1]? = some (.cells #[u0, u1] 63 (0, 0)) ∧ ∀ (c : Nat) (o : Obj), c ≠ O1 → E3.heap[c]? = some o → E4.heap[c]? = some o :=
    ⟨_, rfl, ex_set (ex_set hX3 (by omega) 0 u0) (by omega) 1 u1, blk_set (blk_set a1 0 u0) 1 u1, fun c o hc ho => blk_set_other (blk_set_other ho hc u0) hc u1⟩
  obtain ⟨E5, hE5, hx5, c1, c2⟩ := set4 hx4 (by omega) (b2 _ _ (by omega) a2) (.string s) (.int .i64 p) (.int .i64 n) (.int .i64 e)
  have k5 : ∀ (b : Nat) (o : Obj), (wr.ext y).heap[b]? = some o → E5.heap[b]? = some o := fun b o ho => by
    have h3 := k3 b o ho
    exact c2 _ _ (by omega) (b2 _ _ (by omega) h3.1)
  have z4 : E4.heap.size = E3.heap.size := by rw [← hE4]; simp
  have z5 : E5.heap.size = E4.heap.size := by rw [← hE5]; simp
  have I5 := (h.ext y).keep k5 (by omega) hx5
  have R5 := rowB_all hE (rowB_ext hE hr y) (fun b o ho _ => k5 b o ho) (by omega)
  have hE6 : ∃ E6, ((((E5.setCell ⟨X, 0, none⟩ (.string s)).setCell ⟨X, 1, none⟩ (.int .i64 p)).setCell ⟨X, 2, none⟩ (.int .i64 n)).setCell ⟨X, 3, none⟩ (.int .i64 e)) = E6 := ⟨_, rfl⟩
  obtain ⟨E6, hE6⟩ := hE6
  have I6 := I5.setX p n e
  have R6 := rowB_x (s := s) hE R5 (X := X) (by omega) p n e
  obtain ⟨E6', hE6', _, _, d2⟩ := set4 hx5 h.hwX I5.x (.string s) (.int .i64 p) (.int .i64 n) (.int .i64 e)
  rw [hE6] at I6 R6 hE6'
  subst hE6'
  exact ⟨E3, E5, E6, O1, hE3, rfl, a1, a2, by rw [hE4]; exact hE5, c1, I5.x, hE6, d2 _ _ (by omega) (c2 _ _ (by omega) b1), I6, R6, fun b o ho hb => d2 _ _ (by omega) (k5 b o ho)⟩
end
end Go.Proofs.Ytlekjobicpnafaa.Cd
