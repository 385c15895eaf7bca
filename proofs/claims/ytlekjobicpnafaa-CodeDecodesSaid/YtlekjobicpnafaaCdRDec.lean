/- The document's Decode: the program of a text, or why it is none. No condition. -/
import Derived.Test.YtlekjobicpnafaaCdRTabW
import Derived.Test.YtlekjobicpnafaaCdDecodeW
namespace Go.Proofs.Ytlekjobicpnafaa.Cd
open Go Go.RowKit Base Pg
set_option linter.unusedVariables false
set_option linter.unusedSimpArgs false

/-- All blocks that there are. -/
def allOf (W : World) : List (Nat × Obj) := (List.range W.heap.size).filterMap fun b => (W.heap[b]?).map fun o => (b, o)
theorem mem_allOf {W : World} {b : Nat} {o : Obj} (h : W.heap[b]? = some o) : (b, o) ∈ allOf W := by
  unfold allOf
  rw [List.mem_filterMap]
  exact ⟨b, List.mem_range.2 (lt_of_block h), by rw [h]; rfl⟩
theorem of_allOf {W : World} {q : Nat × Obj} (h : q ∈ allOf W) : W.heap[q.1]? = some q.2 := by
  unfold allOf at h
  rw [List.mem_filterMap] at h
  obtain ⟨b, _, hb⟩ := h
  cases hw : W.heap[b]? with
  | none => rw [hw] at hb; cases hb
  | some o => rw [hw] at hb; simp at hb; rw [← hb]; exact hw

theorem dec_begin {w W : World} {s : ByteArray} (hW : ∃ y : Ext w, W = w.ext y) (u0 u1 u2 u3 u4 u5 : Value) (p : Nat) (n e : Int) : ∃ (E3 E5 : World) (B : Nat),
    (W.alloc (.cells #[.slice none 0 0, .int .i64 0, .int .i64 0, .int .i64 0, .slice none 0 0, .slice none 0 0] 26)).alloc (.cells #[.string ⟨#[]⟩, .int .i64 0, .int .i64 0, .int .i64 0] 53) = E3 ∧ W.heap.size = B ∧ E3.heap[B]? = some (.cells #[.slice none 0 0, .int .i64 0, .int .i64 0, .int .i64 0, .slice none 0 0, .slice none 0 0] 26 (0, 0)) ∧ E3.heap[B + 1]? = some (.cells #[.string ⟨#[]⟩, .int .i64 0, .int .i64 0, .int .i64 0] 53 (0, 0)) ∧
    ((((((((((E3.setCell ⟨B, 0, none⟩ u0).setCell ⟨B, 1, none⟩ u1).setCell ⟨B, 2, none⟩ u2).setCell ⟨B, 3, none⟩ u3).setCell ⟨B, 4, none⟩ u4).setCell ⟨B, 5, none⟩ u5).setCell ⟨B + 1, 0, none⟩ (.string s)).setCell ⟨B + 1, 1, none⟩ (.int .i64 p)).setCell ⟨B + 1, 2, none⟩ (.int .i64 n)).setCell ⟨B + 1, 3, none⟩ (.int .i64 e)) = E5 ∧ TInv w E5 E5 s (B + 1) B (B + 2) (B + 2) (allOf W) ⟨p, n, e⟩ #[u0, u1, u2, u3, u4, u5] ∧ w.heap.size ≤ B := by
  obtain ⟨E3, hE3, hx3, a1, a2, hsz⟩ := two_laid (w := W) (.cells #[.slice none 0 0, .int .i64 0, .int .i64 0, .int .i64 0, .slice none 0 0, .slice none 0 0] 26) (.cells #[.string ⟨#[]⟩, .int .i64 0, .int .i64 0, .int .i64 0] 53)
  have hx3' : ∃ y : Ext w, E3 = w.ext y := ex_trans hW hx3
  have hwB : w.heap.size ≤ W.heap.size := by obtain ⟨y, rfl⟩ := hW; exact World.ext_size w y
  have k3 : ∀ (b : Nat) (o : Obj), W.heap[b]? = some o → E3.heap[b]? = some o ∧ b < W.heap.size := fun b o ho => by
    obtain ⟨q, hq⟩ := hx3
    exact ⟨by rw [hq]; exact blk_ext ho q, lt_of_block ho⟩
  have hall : ∀ q ∈ allOf W, E3.heap[q.1]? = some q.2 ∧ q.1 < W.heap.size := fun q hq => k3 _ _ (of_allOf hq)
  clear hx3
  generalize W.heap.size = B at *
  obtain ⟨E4, hE4⟩ : ∃ E4, ((((((E3.setCell ⟨B, 0, none⟩ u0).setCell ⟨B, 1, none⟩ u1).setCell ⟨B, 2, none⟩ u2).setCell ⟨B, 3, none⟩ u3).setCell ⟨B, 4, none⟩ u4).setCell ⟨B, 5, none⟩ u5) = E4 := ⟨_, rfl⟩
  have hx4 : ∃ y : Ext w, E4 = w.ext y := by
    rw [← hE4]
    exact ex_set (ex_set (ex_set (ex_set (ex_set (ex_set hx3' hwB 0 u0) hwB 1 u1) hwB 2 u2) hwB 3 u3) hwB 4 u4) hwB 5 u5
  have b1 : E4.heap[B]? = some (.cells #[u0, u1, u2, u3, u4, u5] 26 (0, 0)) := by
    rw [← hE4]
    exact blk_set (blk_set (blk_set (blk_set (blk_set (blk_set a1 0 u0) 1 u1) 2 u2) 3 u3) 4 u4) 5 u5
  have b2 : ∀ (c : Nat) (o : Obj), c ≠ B → E3.heap[c]? = some o → E4.heap[c]? = some o := fun c o hc ho => by
    rw [← hE4]
    exact blk_set_other (blk_set_other (blk_set_other (blk_set_other (blk_set_other (blk_set_other ho hc u0) hc u1) hc u2) hc u3) hc u4) hc u5
  have z4 : E4.heap.size = E3.heap.size := by rw [← hE4]; simp
  obtain ⟨E5, hE5, hx5, c1, c2⟩ := set4 hx4 (by omega) (b2 _ _ (by omega) a2) (.string s) (.int .i64 p) (.int .i64 n) (.int .i64 e)
  have z5 : E5.heap.size = E4.heap.size := by rw [← hE5]; simp
  refine ⟨E3, E5, B, hE3, rfl, a1, a2, by rw [hE4]; exact hE5, ⟨c1, c2 _ _ (by omega) b1, fun q hq => ?_, hx5, fun _ _ _ => rfl, by omega, by omega, by omega, by omega, by omega, hwB, Nat.le_refl _⟩, hwB⟩
  obtain ⟨h1, h2⟩ := hall q hq
  exact ⟨c2 _ _ (by omega) (b2 _ _ (by omega) h1), by omega, by omega, by omega⟩

section
variable {w wl wr W : World} {s : ByteArray} {X P lo0 lo : Nat} {os : List (Nat × Obj)} {z : RX} {cs : Array Value}
/-- A block has been read: how far the text is read then lies in a block more, and at X. -/
theorem TInv.round1 {α : Type} {k t : Nat} {E : Enc α} {acc : List α} {css : List (List Value)} {v : Value} (hE : E.Mono) (h : TInv w wl wr s X P lo0 lo os z cs) (hr : RowB k t E lo wr acc css v) (y : Ext wr) (p : Nat) (n e : Int) :
    ∃ (E3 E5 E6 : World) (O1 : Nat), (wr.ext y).alloc (.cells #[.string ⟨#[]⟩, .int .i64 0, .int .i64 0, .int .i64 0] 53) = E3 ∧ (wr.ext y).heap.size = O1 ∧ E3.heap[O1]? = some (.cells #[.string ⟨#[]⟩, .int .i64 0, .int .i64 0, .int .i64 0] 53 (0, 0)) ∧
      ((((E3.setCell ⟨O1, 0, none⟩ (.string s)).setCell ⟨O1, 1, none⟩ (.int .i64 p)).setCell ⟨O1, 2, none⟩ (.int .i64 n)).setCell ⟨O1, 3, none⟩ (.int .i64 e)) = E5 ∧
      E5.heap[O1]? = some (.cells #[.string s, .int .i64 p, .int .i64 n, .int .i64 e] 53 (0, 0)) ∧ E5.heap[X]? = some (.cells #[.string s, .int .i64 z.pos, .int .i64 z.n, .int .i64 z.e] 53 (0, 0)) ∧
      ((((E5.setCell ⟨X, 0, none⟩ (.string s)).setCell ⟨X, 1, none⟩ (.int .i64 p)).setCell ⟨X, 2, none⟩ (.int .i64 n)).setCell ⟨X, 3, none⟩ (.int .i64 e)) = E6 ∧
      TInv w wl E6 s X P lo0 lo os ⟨p, n, e⟩ cs ∧ RowB k t E lo E6 acc css v ∧ ∀ (b : Nat) (o : Obj), (wr.ext y).heap[b]? = some o → lo ≤ b → E6.heap[b]? = some o := by
  have h1 := h.hX
  have h3 := h.hlo
  have hz := h.size
  have hle := World.ext_size wr y
  have hw1 := h.hwX
  obtain ⟨E3, hE3⟩ : ∃ E3, (wr.ext y).alloc (.cells #[.string ⟨#[]⟩, .int .i64 0, .int .i64 0, .int .i64 0] 53) = E3 := ⟨_, rfl⟩
  have a1 : E3.heap[(wr.ext y).heap.size]? = some (.cells #[.string ⟨#[]⟩, .int .i64 0, .int .i64 0, .int .i64 0] 53 (0, 0)) := by rw [← hE3]; exact heap_alloc_new _ _
  have hX3 : ∃ y : Ext w, E3 = w.ext y := by rw [← hE3]; exact ex_alloc _ (ex_ext y h.ex)
  have k3 : ∀ (b : Nat) (o : Obj), (wr.ext y).heap[b]? = some o → E3.heap[b]? = some o ∧ b < (wr.ext y).heap.size := fun b o ho => ⟨by rw [← hE3]; exact blk_alloc ho _, lt_of_block ho⟩
  have hsz : E3.heap.size = (wr.ext y).heap.size + 1 := by rw [← hE3]; simp
  generalize hO : (wr.ext y).heap.size = O1 at *
  obtain ⟨E5, hE5, hx5, c1, c2⟩ := set4 hX3 (by omega) a1 (.string s) (.int .i64 p) (.int .i64 n) (.int .i64 e)
  have k5 : ∀ (b : Nat) (o : Obj), (wr.ext y).heap[b]? = some o → E5.heap[b]? = some o := fun b o ho => by
    have h3 := k3 b o ho
    exact c2 _ _ (by omega) h3.1
  have z5 : E5.heap.size = E3.heap.size := by rw [← hE5]; simp
  have I5 := (h.ext y).keep k5 (by omega) hx5
  have R5 := rowB_all hE (rowB_ext hE hr y) (fun b o ho _ => k5 b o ho) (by omega)
  obtain ⟨E6, hE6⟩ : ∃ E6, ((((E5.setCell ⟨X, 0, none⟩ (.string s)).setCell ⟨X, 1, none⟩ (.int .i64 p)).setCell ⟨X, 2, none⟩ (.int .i64 n)).setCell ⟨X, 3, none⟩ (.int .i64 e)) = E6 := ⟨_, rfl⟩
  have I6 := I5.setX p n e
  have R6 := rowB_x (s := s) hE R5 (X := X) (by omega) p n e
  obtain ⟨E6', hE6', _, _, d2⟩ := set4 hx5 h.hwX I5.x (.string s) (.int .i64 p) (.int .i64 n) (.int .i64 e)
  rw [hE6] at I6 R6 hE6'
  subst hE6'
  exact ⟨E3, E5, E6, O1, hE3, rfl, a1, hE5, c1, I5.x, hE6, I6, R6, fun b o ho hb => d2 _ _ (by omega) (k5 b o ho)⟩
end
end Go.Proofs.Ytlekjobicpnafaa.Cd
