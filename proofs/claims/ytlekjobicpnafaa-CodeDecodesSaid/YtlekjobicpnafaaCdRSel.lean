/- The document's reader: sel. No condition. -/
import Derived.Test.YtlekjobicpnafaaCdOne
import Derived.Test.YtlekjobicpnafaaRowB
namespace Go.Proofs.Ytlekjobicpnafaa.Cd
open Go Go.RowKit Base Pg
set_option linter.unusedVariables false
set_option linter.unusedSimpArgs false

/-- What was laid from lo on stays. -/
def Keeps (lo : Nat) (wr W : World) : Prop := ∀ b, lo ≤ b → b < wr.heap.size → b < W.heap.size ∧ W.heap[b]? = wr.heap[b]?
theorem Keeps.refl (lo : Nat) (w : World) : Keeps lo w w := fun b _ h => ⟨h, rfl⟩
theorem Keeps.set {lo : Nat} {wr W : World} (h : Keeps lo wr W) {c : Nat} (hc : c < lo) (j : Nat) (u : Value) : Keeps lo wr (W.setCell ⟨c, j, none⟩ u) := fun b h1 h2 =>
  ⟨by simpa using (h b h1 h2).1, (Below.heap_setCell W _ u b (by simp; omega)).trans (h b h1 h2).2⟩
theorem Keeps.drew {lo : Nat} {wr W : World} (h : Keeps lo wr W) : Keeps lo wr W.drew := h
theorem Keeps.ext {lo : Nat} {wr W : World} (h : Keeps lo wr W) (y : Ext W) : Keeps lo wr (W.ext y) := fun b h1 h2 =>
  ⟨World.ext_lt W y (h b h1 h2).1, (World.ext_heap W y (h b h1 h2).1).trans (h b h1 h2).2⟩
theorem Keeps.alloc {lo : Nat} {wr W : World} (h : Keeps lo wr W) (o : Obj) : Keeps lo wr (W.alloc o) := fun b h1 h2 =>
  ⟨by have := (h b h1 h2).1; simp; omega, (Below.heap_alloc W o b (h b h1 h2).1).trans (h b h1 h2).2⟩
theorem row_end {α : Type} {k : Nat} {E : Enc α} (hE : E.Mono) {w wr W : World} {lo : Nat} {A : Option Addr} {xs : List α} (h : RowAt k E (Btw lo wr) wr A xs) (hw : w.heap.size ≤ lo) (hk : Keeps lo wr W) : RowAt k E (Fresh w W) W A xs :=
  h.mono hE (fun b ⟨h1, h2⟩ => ⟨⟨Nat.le_trans hw h1, (hk b h1 h2).1⟩, (hk b h1 h2).2⟩)
theorem grown_ex {w wr w3 : World} (h : ∃ y : Ext w, wr = w.ext y) {row : Option Nat} (hg : wr.grownBy w3 row) (hr : ∀ b, row = some b → w.heap.size ≤ b) : ∃ y : Ext w, w3 = w.ext y := by
  obtain ⟨y, rfl⟩ := h
  have := grown_new (grown_below y.h none) hg hr
  exact Below.ex ⟨this.os, this.tape, this.output, this.size, fun b hb => this.block b hb (by simp)⟩
theorem rowB_ext {α : Type} {k e : Nat} {E : Enc α} {lo : Nat} {w : World} {acc : List α} {css : List (List Value)} {v : Value} (hE : E.Mono) (h : RowB k e E lo w acc css v) (y : Ext w) : RowB k e E lo (w.ext y) acc css v :=
  h.kept hE (World.ext_size w y) (fun b _ hb => World.ext_heap w y hb)

/-- What stands when so many cases have been read. -/
structure SX (w wr : World) (s : ByteArray) (O lo : Nat) (d : Bool) (z : RX) (acc : List Cse) (css : List (List Value)) (v : Value) : Prop where
  x : wr.heap[w.heap.size]? = some (.cells #[.string s, .int .i64 z.pos, .int .i64 z.n, .int .i64 z.e] 53 (0, 0))
  r1 : wr.heap[w.heap.size + 1]? = some (.cells #[.slice none 0 0, .bool false] 63 (0, 0))
  r2 : wr.heap[w.heap.size + 2]? = some (.cells #[.string ⟨#[]⟩, .int .i64 0, .int .i64 0, .int .i64 0] 53 (0, 0))
  o : wr.heap[O]? = some (.cells #[v, .bool d] 63 (0, 0))
  row : RowB 2 83 CseE lo wr acc css v
  ex : ∃ y : Ext w, wr = w.ext y
  ho : w.heap.size + 2 < O
  hlo : O < lo
theorem SX.next {w wr : World} {s : ByteArray} {O lo : Nat} {d : Bool} {z : RX} {acc : List Cse} {css : List (List Value)} {v : Value} (h : SX w wr s O lo d z acc css v) (y : Ext wr) (p : Nat) (n e : Int) :
    SX w (((((wr.ext y).setCell ⟨w.heap.size, 0, none⟩ (.string s)).setCell ⟨w.heap.size, 1, none⟩ (.int .i64 p)).setCell ⟨w.heap.size, 2, none⟩ (.int .i64 n)).setCell ⟨w.heap.size, 3, none⟩ (.int .i64 e)) s O lo d ⟨p, n, e⟩ acc css v := by
  have h1 := h.ho
  have h2 := h.hlo
  obtain ⟨W, hW, a1, a2, a3⟩ := set4 (w := w) (ex_ext y h.ex) (Nat.le_refl _) (blk_ext h.x y) (.string s) (.int .i64 p) (.int .i64 n) (.int .i64 e)
  have hrow := ((((rowB_ext CseE.mono h.row y).set CseE.mono (b := w.heap.size) (j := 0) (by omega) (.string s)).set CseE.mono (b := w.heap.size) (j := 1) (by omega) (.int .i64 p)).set CseE.mono (b := w.heap.size) (j := 2) (by omega) (.int .i64 n)).set CseE.mono (b := w.heap.size) (j := 3) (by omega) (.int .i64 e)
  rw [hW] at hrow ⊢
  exact ⟨a2, a3 _ _ (by omega) (blk_ext h.r1 y), a3 _ _ (by omega) (blk_ext h.r2 y), a3 _ _ (by omega) (blk_ext h.o y), hrow, a1, h1, h2⟩
theorem SX.stored {w wr w3 : World} {s : ByteArray} {O lo : Nat} {d : Bool} {z : RX} {acc : List Cse} {css : List (List Value)} {v : Value} (h : SX w wr s O lo d z acc css v) {ob : Obj} {c : Cse} {g cap : Nat}
    (hown : w3.ownsRow lo 83 2 (.slice (some ⟨g, 0, none⟩) (acc.length + 1) cap) (acc.length + 1) (css.flatten ++ [.bool c.send, .int .i64 c.chan])) (hgr : (wr.alloc ob).grownBy w3 v.ownBlock) (hat : v.ownBlock = some g ∨ g = wr.heap.size + 1) :
    SX w (w3.setCell ⟨O, 0, none⟩ (.slice (some ⟨g, 0, none⟩) (acc.length + 1) cap)) s O lo d z (acc ++ [c]) (css ++ [[.bool c.send, .int .i64 c.chan]]) (.slice (some ⟨g, 0, none⟩) (acc.length + 1) cap) := by
  have h1 := h.ho
  have h2 := h.hlo
  have hlt : ∀ b, v.ownBlock = some b → lo ≤ b := fun b hb => (h.row.own.lt b hb).1
  have hne : ∀ b, b < lo → v.ownBlock ≠ some b := fun b hb e => by have := hlt b e; omega
  have hrow := ((h.row.alloc CseE.mono ob).snoc CseE.mono (x := c) (cs := [.bool c.send, .int .i64 c.chan]) rfl rfl hown hgr (by rcases hat with h | h; exact .inl h; exact .inr (by simp; omega))).set CseE.mono (b := O) (j := 0) h2 (.slice (some ⟨g, 0, none⟩) (acc.length + 1) cap)
  have hb : ∀ {b : Nat} {o : Obj}, b < lo → wr.heap[b]? = some o → w3.heap[b]? = some o := fun hl ho => blk_grown (blk_alloc ho ob) hgr (hne _ hl)
  refine ⟨blk_set_other (hb (by omega) h.x) (by omega) _, blk_set_other (hb (by omega) h.r1) (by omega) _, blk_set_other (hb (by omega) h.r2) (by omega) _, ?_, hrow, ?_, h1, h2⟩
  · have := blk_set (hb h2 h.o) 0 (.slice (some ⟨g, 0, none⟩) (acc.length + 1) cap)
    simpa using this
  · exact ex_set (grown_ex (ex_alloc ob h.ex) hgr (fun b hb => by have := hlt b hb; omega)) (by omega) _ _

theorem sel_begin {w V0 : World} {s : ByteArray} {O : Nat} {p : Nat} {n e : Int} (hlO : w.heap.size + 2 < O) (hx : ∃ y : Ext w, V0 = w.ext y) (hsz : V0.heap.size = O + 1) (a0 : V0.heap[w.heap.size]? = some (.cells #[.string s, .int .i64 p, .int .i64 n, .int .i64 e] 53 (0, 0)))
    (a1 : V0.heap[w.heap.size + 1]? = some (.cells #[.slice none 0 0, .bool false] 63 (0, 0))) (a2 : V0.heap[w.heap.size + 2]? = some (.cells #[.string ⟨#[]⟩, .int .i64 0, .int .i64 0, .int .i64 0] 53 (0, 0))) (o0 : V0.heap[O]? = some (.cells #[.slice none 0 0, .bool false] 63 (0, 0))) (d : Bool) :
    SX w ((V0.setCell ⟨O, 0, none⟩ (.slice none 0 0)).setCell ⟨O, 1, none⟩ (.bool d)) s O (O + 1) d ⟨p, n, e⟩ [] [] (.slice none 0 0) ∧ True := by
  refine ⟨⟨blk_set_other (blk_set_other a0 (by omega) _) (by omega) _, blk_set_other (blk_set_other a1 (by omega) _) (by omega) _, blk_set_other (blk_set_other a2 (by omega) _) (by omega) _, ?_, RowB.nil (by simp; omega), ex_set (ex_set hx (by omega) _ _) (by omega) _ _, hlO, by omega⟩, trivial⟩
  have := blk_set (blk_set o0 0 (.slice none 0 0)) 1 (.bool d)
  simpa using this

set_option maxHeartbeats 4000000 in
theorem rsel_any (w : World) {s : ByteArray} (hs : s.size ≤ 140737488351232) {x : RX} (hx : Good s x) {l : List Cse} {d : Bool} {z' : RX} (hres : selX s x = (⟨l, d⟩, z')) :
    Calls Try.prog 37 #[.agg #[.string s, .int .i64 x.pos, .int .i64 x.n, .int .i64 x.e]] w fun r w' => ∃ A cap, r = .returned (.tuple #[.agg #[.slice A l.length cap, .bool d], .agg #[.string s, .int .i64 z'.pos, .int .i64 z'.n, .int .i64 z'.e]]) ∧ l.length ≤ cap ∧ RowAt 2 CseE (Fresh w w') w' A l ∧ ∃ y : Ext w, w' = w.ext y := by
  have hC := fun W => rmany_any W hs hx (k := 2) (most := 4) (.inr rfl) (by decide) (by decide)
  have hg := manyX_good (k := 2) (most := 4) hx
  unfold selX at hres
  generalize manyX s 2 4 x = m at *
  obtain ⟨p, n, e⟩ := m
  simp only at hC hres
  have hn0 : 0 ≤ n := hg.n0
  have hn1 : n ≤ 2147483647 := hg.n1
  obtain ⟨N, hN⟩ := Int.eq_ofNat_of_zero_le (show 0 ≤ n / 2 by omega)
  have hNb : (N : Int) ≤ 1073741823 := by omega
  rw [hN] at hres
  simp only [Int.toNat_natCast, Prod.mk.injEq, Sel.mk.injEq] at hres
  obtain ⟨⟨hl, hd⟩, hz⟩ := hres
  have HL : Hid (loopX (cseX s) N [] ⟨p, n, e⟩ = (l, z')) := Lib.hid (by rw [← hl, ← hz])
  clear hl hz
  obtain ⟨i0, hi, hz0, hz1, hz2⟩ := info_parts Try.infoC
  obtain ⟨W0, hW0, hx0, b0, b1, b2, hsz0⟩ := three_blocks (w := w) (.cells #[.string s, .int .i64 x.pos, .int .i64 x.n, .int .i64 x.e] 53) (.cells #[.slice none 0 0, .bool false] 63) (.cells #[.string ⟨#[]⟩, .int .i64 0, .int .i64 0, .int .i64 0] 53)
  have l0 := blk_cell b0 (j := 0) rfl
  have l1 := blk_cell b0 (j := 1) rfl
  have l2 := blk_cell b0 (j := 2) rfl
  have l3 := blk_cell b0 (j := 3) rfl
  have H0 := Lib.hid b0
  have H1 := Lib.hid b1
  have H2 := Lib.hid b2
  clear b0 b1 b2 hsz0
  go_enter Try.func37, Try.ntmps37
  go_wp2_with (go_at_call 21; (with_reducible refine (hC _).mono ?_); rintro _ _ ⟨rfl, y1, rfl⟩; have qc0 := blk_ext H0.out y1; have qc1 := blk_ext H1.out y1; have qc2 := blk_ext H2.out y1; obtain ⟨W1, ee1, hx1, c0, hWo⟩ := set4 (w := w) (ex_ext y1 hx0) (Nat.le_refl _) qc0 (.string s) (.int .i64 p) (.int .i64 n) (.int .i64 e); have c1 := hWo _ _ (by omega) qc1; have c2 := hWo _ _ (by omega) qc2; have t0 := blk_cell qc0 (j := 0) rfl; have tf0 := blk_free qc0 0; have t1 := blk_cell qc0 (j := 1) rfl; have tf1 := blk_free qc0 1; have t2 := blk_cell qc0 (j := 2) rfl; have tf2 := blk_free qc0 2; have t3 := blk_cell qc0 (j := 3) rfl; have tf3 := blk_free qc0 3; clear qc1 qc2 hWo; have u0 := blk_cell c0 (j := 0) rfl; have uf0 := blk_free c0 0; have u1 := blk_cell c0 (j := 1) rfl; have uf1 := blk_free c0 1; have u2 := blk_cell c0 (j := 2) rfl; have uf2 := blk_free c0 2; have u3 := blk_cell c0 (j := 3) rfl; have uf3 := blk_free c0 3; have sz1 : w.heap.size + 2 < W1.heap.size := lt_of_block c2; obtain ⟨V0, O, ev0, hO, hlO, hxv0, o0, hold, hsz⟩ := lay hx1 #[.slice none 0 0, .bool false] 63 sz1; have s0 := blk_cell o0 (j := 0) rfl; have sf0 := blk_free o0 0; have s1 := blk_cell o0 (j := 1) rfl; have sf1 := blk_free o0 1; have a0 := hold _ _ c0; have a1 := hold _ _ c1; have a2 := hold _ _ c2; clear hold; obtain ⟨I0, hI0⟩ := sel_begin hlO hxv0 hsz a0 a1 a2 o0 d; obtain ⟨V1, hV1⟩ : ∃ V, (V0.setCell ⟨O, 0, none⟩ (.slice none 0 0)).setCell ⟨O, 1, none⟩ (.bool d) = V := ⟨_, rfl⟩; rw [hV1] at I0; clear a0 a1 a2 hI0; have v0 := blk_cell I0.x (j := 0) rfl; have vf0 := blk_free I0.x 0; have v1 := blk_cell I0.x (j := 1) rfl; have vf1 := blk_free I0.x 1; have v2 := blk_cell I0.x (j := 2) rfl; have vf2 := blk_free I0.x 2; have v3 := blk_cell I0.x (j := 3) rfl; have vf3 := blk_free I0.x 3)
  clear H0 H1 H2 hW0 hx0 hx1 c0 c1 c2 hxv0 o0 hsz hd
  have HG : Good s ⟨p, n, e⟩ := hg
  clear hg
  obtain ⟨lo, hlo⟩ : ∃ lo, O + 1 = lo := ⟨_, rfl⟩
  rw [hlo] at I0
  have hlo' : w.heap.size ≤ lo := by omega
  clear hlo
  simp only [hN]
  clear hN
  go_loopw [6] (fun i wr => ∃ (acc : List Cse) (css : List (List Value)) (v : Value) (z : RX), acc.length ≤ N ∧ i = .int .i64 acc.length ∧ loopX (cseX s) (N - acc.length) acc z = (l, z') ∧ Good s z ∧ SX w wr s O lo d z acc css v) (fun i _ => N - (intOf i).toNat)
  case atStart => exact ⟨[], [], _, _, Nat.zero_le _, rfl, HL.out, HG, I0⟩
  case round =>
    clear HL I0 HG
    obtain ⟨acc, css, v, z, hj, rfl, hI, hG, I⟩ := hrel
    have HI := Lib.hid hI
    clear hI
    obtain ⟨pz, nz, ez⟩ := z
    by_cases hlt : acc.length < N ∧ ez = 0
    · obtain ⟨hlt, rfl⟩ := hlt
      have hX := fun W => rnext_any W hs hG
      have hG2 := nextX_good hG
      have HJ : Hid (loopX (cseX s) (N - (acc.length + 1)) (acc ++ [⟨(nextX s ⟨pz, nz, 0⟩).n % 2 == 1, (nextX s ⟨pz, nz, 0⟩).n / 2⟩]) (nextX s ⟨pz, nz, 0⟩) = (l, z')) := by
        have := HI.out
        rw [show N - acc.length = (N - (acc.length + 1)) + 1 by omega, loopX_ok rfl] at this
        exact this
      clear HI
      generalize nextX s ⟨pz, nz, 0⟩ = z2 at *
      obtain ⟨p', n', e'⟩ := z2
      simp only at hX HJ
      have n0 : 0 ≤ n' := hG2.n0
      have n1 : n' ≤ 2147483647 := hG2.n1
      obtain ⟨q, hq⟩ : ∃ q : Bool, (n' % 2 == 1) = q := ⟨_, rfl⟩
      rw [hq] at HJ
      have xx0 := blk_cell I.x (j := 0) rfl
      have xxf0 := blk_free I.x 0
      have xx1 := blk_cell I.x (j := 1) rfl
      have xxf1 := blk_free I.x 1
      have xx2 := blk_cell I.x (j := 2) rfl
      have xxf2 := blk_free I.x 2
      have xx3 := blk_cell I.x (j := 3) rfl
      have xxf3 := blk_free I.x 3
      go_wp2_with (first | (go_at_call 36; (with_reducible refine (hX _).mono ?_); rintro _ _ ⟨rfl, y, rfl⟩; have qx := blk_ext I.x y; have t0 := blk_cell qx (j := 0) rfl; have tf0 := blk_free qx 0; have t1 := blk_cell qx (j := 1) rfl; have tf1 := blk_free qx 1; have t2 := blk_cell qx (j := 2) rfl; have tf2 := blk_free qx 2; have t3 := blk_cell qx (j := 3) rfl; have tf3 := blk_free qx 3; have I2 := I.next y p' n' e'; obtain ⟨V, hV⟩ : ∃ V, ((((wr.ext y).setCell ⟨w.heap.size, 0, none⟩ (.string s)).setCell ⟨w.heap.size, 1, none⟩ (.int .i64 p')).setCell ⟨w.heap.size, 2, none⟩ (.int .i64 n')).setCell ⟨w.heap.size, 3, none⟩ (.int .i64 e') = V := ⟨_, rfl⟩; rw [hV] at I2; have g0 := blk_cell I2.x (j := 0) rfl; have gf0 := blk_free I2.x 0; have g1 := blk_cell I2.x (j := 1) rfl; have gf1 := blk_free I2.x 1; have g2 := blk_cell I2.x (j := 2) rfl; have gf2 := blk_free I2.x 2; have g3 := blk_cell I2.x (j := 3) rfl; have gf3 := blk_free I2.x 3; have h0 := blk_cell I2.o (j := 0) rfl; have hf0 := blk_free I2.o 0; have h1 := blk_cell I2.o (j := 1) rfl; have hf1 := blk_free I2.o 1; clear qx) | (at_builtin; refine wpList_append_lies _ rfl (.tmp 30) (.tmp 39) 61 rfl lo 83 i0 _ 2 16 Try.underlying61 hi hz0 hz1 hz2 rfl (by omega) v acc.length _ rfl (I2.row.own.alloc _) ⟨V.heap.size, 0, none⟩ 1 1 [.bool q, .int .i64 (n' / 2)] rfl rfl (World.news_of_block (heap_alloc_new V _)) (by simp [Value.oneCell']) (by omega) (by unfold maxLen; omega) (by omega) (by have := I2.row.size; simp; omega) (V.heap.size + 1) (by simp) ?_; intro g cap w3 hown3 hgr3 hat3 hlt3; have hne3 : v.ownBlock ≠ some O := (fun e => by have := (I2.row.own.lt O e).1; have := I2.hlo; omega); have hb3 := blk_grown (blk_alloc I2.o _) hgr3 hne3; have hcell3 := blk_cell hb3 (j := 0) rfl; have hfree3 := blk_free hb3 0))
      have I3 := I2.stored (c := ⟨q, n' / 2⟩) hown3 hgr3 hat3
      clear hX hcell3 hfree3 I I2 hown3 hgr3
      go_roundw
      case rel => exact ⟨acc ++ [⟨q, n' / 2⟩], _, _, _, by simp; omega, by simp, by simpa using HJ.out, hG2, I3⟩
      case measure => simp [intOf]; omega
    · have hE : acc = l ∧ (⟨pz, nz, ez⟩ : RX) = z' := by
        have := HI.out
        by_cases he : ez = 0
        · rw [show N - acc.length = 0 by omega, loopX] at this
          exact ⟨congrArg Prod.fst this, congrArg Prod.snd this⟩
        · rw [loopX_no (by exact he)] at this
          exact ⟨congrArg Prod.fst this, congrArg Prod.snd this⟩
      obtain ⟨rfl, rfl⟩ := hE
      clear HI
      obtain ⟨A, cap, hv, hcap, hrow⟩ := I.row.row (S := Btw lo wr) CseE.mono (fun b h1 h2 => ⟨h1, h2⟩)
      subst hv
      have hO := I.ho
      have hOl := I.hlo
      have hex := I.ex
      have xx0 := blk_cell I.x (j := 0) rfl
      have xxf0 := blk_free I.x 0
      have xx1 := blk_cell I.x (j := 1) rfl
      have xxf1 := blk_free I.x 1
      have xx2 := blk_cell I.x (j := 2) rfl
      have xxf2 := blk_free I.x 2
      have xx3 := blk_cell I.x (j := 3) rfl
      have xxf3 := blk_free I.x 3
      have oo0 := blk_cell I.o (j := 0) rfl
      have oof0 := blk_free I.o 0
      have oo1 := blk_cell I.o (j := 1) rfl
      have oof1 := blk_free I.o 1
      have ra0 := blk_cell I.r1 (j := 0) rfl
      have raf0 := blk_free I.r1 0
      have ra1 := blk_cell I.r1 (j := 1) rfl
      have raf1 := blk_free I.r1 1
      have rb0 := blk_cell I.r2 (j := 0) rfl
      have rbf0 := blk_free I.r2 0
      have rb1 := blk_cell I.r2 (j := 1) rfl
      have rbf1 := blk_free I.r2 1
      have rb2 := blk_cell I.r2 (j := 2) rfl
      have rbf2 := blk_free I.r2 2
      have rb3 := blk_cell I.r2 (j := 3) rfl
      have rbf3 := blk_free I.r2 3
      clear I
      by_cases hk : acc.length < N
      · have he : ¬ ez = 0 := fun h => hlt ⟨hk, h⟩
        have hb1 : (ez == 0) = false := by simpa using he
        clear hlt
        go_wp2
        go_region
        all_goals
          go_wp2
          refine bodyPost_ret (v := .tuple #[.agg #[.slice A acc.length cap, .bool d], .agg #[.string s, .int .i64 pz, .int .i64 nz, .int .i64 ez]]) ?_ rfl ⟨A, cap, rfl, hcap, row_end CseE.mono hrow hlo' (by (repeat (first | with_reducible exact Keeps.refl _ _ | with_reducible refine Keeps.set ?_ (by omega) _ _ | with_reducible refine Keeps.drew ?_))), (by (repeat (first | with_reducible exact hex | with_reducible refine ex_set ?_ (by omega) _ _ | with_reducible refine ex_drew ?_)))⟩
          simp [results, Try.results37, go_sem, *]
      · have hk' : ¬ ((acc.length : Int) < N) := by omega
        clear hlt
        go_wp2
        go_region
        all_goals
          go_wp2
          refine bodyPost_ret (v := .tuple #[.agg #[.slice A acc.length cap, .bool d], .agg #[.string s, .int .i64 pz, .int .i64 nz, .int .i64 ez]]) ?_ rfl ⟨A, cap, rfl, hcap, row_end CseE.mono hrow hlo' (by (repeat (first | with_reducible exact Keeps.refl _ _ | with_reducible refine Keeps.set ?_ (by omega) _ _ | with_reducible refine Keeps.drew ?_))), (by (repeat (first | with_reducible exact hex | with_reducible refine ex_set ?_ (by omega) _ _ | with_reducible refine ex_drew ?_)))⟩
          simp [results, Try.results37, go_sem, *]
end Go.Proofs.Ytlekjobicpnafaa.Cd
