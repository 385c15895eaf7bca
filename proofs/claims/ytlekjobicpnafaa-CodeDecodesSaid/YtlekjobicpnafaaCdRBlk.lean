/- The document's reader: block. No condition. -/
import Derived.Test.YtlekjobicpnafaaCdRSel
namespace Go.Proofs.Ytlekjobicpnafaa.Cd
open Go Go.RowKit Base Pg
set_option linter.unusedVariables false
set_option linter.unusedSimpArgs false

theorem two_laid {w : World} (o1 o2 : Obj) : ∃ W, (w.alloc o1).alloc o2 = W ∧ (∃ y : Ext w, W = w.ext y) ∧ W.heap[w.heap.size]? = some o1 ∧ W.heap[w.heap.size + 1]? = some o2 ∧ W.heap.size = w.heap.size + 2 := by
  refine ⟨_, rfl, ex_alloc _ (ex_alloc _ (ex_refl w)), blk_alloc (heap_alloc_new w _) _, ?_, by simp⟩
  have := heap_alloc_new (w.alloc o1) o2
  rwa [alloc_size] at this

/-- What stands when so many instructions have been read. -/
structure BX (w wr : World) (s : ByteArray) (lo : Nat) (z : RX) (acc : List Ins) (css : List (List Value)) (v : Value) : Prop where
  x : wr.heap[w.heap.size]? = some (.cells #[.string s, .int .i64 z.pos, .int .i64 z.n, .int .i64 z.e] 53 (0, 0))
  r1 : wr.heap[w.heap.size + 1]? = some (.cells #[.string ⟨#[]⟩, .int .i64 0, .int .i64 0, .int .i64 0] 53 (0, 0))
  row : RowB 3 44 InsE lo wr acc css v
  ex : ∃ y : Ext w, wr = w.ext y
  hlo : w.heap.size + 1 < lo
theorem BX.round {w wr : World} {s : ByteArray} {lo : Nat} {z : RX} {acc : List Ins} {css : List (List Value)} {v : Value} (h : BX w wr s lo z acc css v) (y : Ext wr) (op a b : Int) (p : Nat) (n e : Int) :
    ∃ (E3 E5 E6 : World) (O1 : Nat), ((wr.ext y).alloc (.cells #[.int .i64 0, .int .i64 0, .int .i64 0] 44)).alloc (.cells #[.string ⟨#[]⟩, .int .i64 0, .int .i64 0, .int .i64 0] 53) = E3 ∧ (wr.ext y).heap.size = O1 ∧
      E3.heap[O1]? = some (.cells #[.int .i64 0, .int .i64 0, .int .i64 0] 44 (0, 0)) ∧ E3.heap[O1 + 1]? = some (.cells #[.string ⟨#[]⟩, .int .i64 0, .int .i64 0, .int .i64 0] 53 (0, 0)) ∧
      (((((((E3.setCell ⟨O1, 0, none⟩ (.int .i64 op)).setCell ⟨O1, 1, none⟩ (.int .i64 a)).setCell ⟨O1, 2, none⟩ (.int .i64 b)).setCell ⟨O1 + 1, 0, none⟩ (.string s)).setCell ⟨O1 + 1, 1, none⟩ (.int .i64 p)).setCell ⟨O1 + 1, 2, none⟩ (.int .i64 n)).setCell ⟨O1 + 1, 3, none⟩ (.int .i64 e)) = E5 ∧
      E5.heap[O1 + 1]? = some (.cells #[.string s, .int .i64 p, .int .i64 n, .int .i64 e] 53 (0, 0)) ∧ E5.heap[w.heap.size]? = some (.cells #[.string s, .int .i64 z.pos, .int .i64 z.n, .int .i64 z.e] 53 (0, 0)) ∧
      ((((E5.setCell ⟨w.heap.size, 0, none⟩ (.string s)).setCell ⟨w.heap.size, 1, none⟩ (.int .i64 p)).setCell ⟨w.heap.size, 2, none⟩ (.int .i64 n)).setCell ⟨w.heap.size, 3, none⟩ (.int .i64 e)) = E6 ∧
      E6.heap[O1]? = some (.cells #[.int .i64 op, .int .i64 a, .int .i64 b] 44 (0, 0)) ∧ BX w E6 s lo ⟨p, n, e⟩ acc css v := by
  have h2 := h.hlo
  have hlow := h.row.size
  have hle := World.ext_size wr y
  obtain ⟨E3, hE3, hx3, a1, a2, hsz⟩ := two_laid (w := wr.ext y) (.cells #[.int .i64 0, .int .i64 0, .int .i64 0] 44) (.cells #[.string ⟨#[]⟩, .int .i64 0, .int .i64 0, .int .i64 0] 53)
  have hx3' : ∃ y : Ext w, E3 = w.ext y := ex_trans (ex_ext y h.ex) hx3
  have r3 : RowB 3 44 InsE lo E3 acc css v := by
    obtain ⟨q, hq⟩ := hx3
    rw [hq]; exact rowB_ext InsE.mono (rowB_ext InsE.mono h.row y) q
  have k3 : ∀ (b : Nat) (o : Obj), wr.heap[b]? = some o → E3.heap[b]? = some o := fun b o ho => by
    obtain ⟨q, hq⟩ := hx3
    rw [hq]; exact blk_ext (blk_ext ho y) q
  generalize (wr.ext y).heap.size = O1 at *
  have hO : lo ≤ O1 := Nat.le_trans hlow hle
  obtain ⟨E4, hE4, hx4, b1, b2⟩ := set3 hx3' (by omega) a1 (.int .i64 op) (.int .i64 a) (.int .i64 b)
  obtain ⟨E5, hE5, hx5, c1, c2⟩ := set4 hx4 (by omega) (b2 _ _ (by omega) a2) (.string s) (.int .i64 p) (.int .i64 n) (.int .i64 e)
  have xB := c2 _ _ (by omega) (b2 _ _ (by omega) (k3 _ _ h.x))
  have rB := c2 _ _ (by omega) (b2 _ _ (by omega) (k3 _ _ h.r1))
  have iB := c2 _ _ (by omega) b1
  obtain ⟨E6, hE6, hx6, d1, d2⟩ := set4 hx5 (Nat.le_refl _) xB (.string s) (.int .i64 p) (.int .i64 n) (.int .i64 e)
  have hag : ∀ c, lo ≤ c → c < wr.heap.size → E6.heap[c]? = wr.heap[c]? := fun c h1 h2 => by
    have hs := Array.getElem?_eq_getElem h2
    rw [hs]
    exact d2 _ _ (by omega) (c2 _ _ (by omega) (b2 _ _ (by omega) (k3 _ _ hs)))
  have hs6 : wr.heap.size ≤ E6.heap.size := by
    have z4 : E4.heap.size = E3.heap.size := by rw [← hE4]; simp
    have z5 : E5.heap.size = E4.heap.size := by rw [← hE5]; simp
    have z6 : E6.heap.size = E5.heap.size := by rw [← hE6]; simp
    omega
  refine ⟨E3, E5, E6, O1, hE3, rfl, a1, a2, by rw [hE4]; exact hE5, c1, xB, hE6, d2 _ _ (by omega) iB, ⟨d1, d2 _ _ (by omega) rB, h.row.kept InsE.mono hs6 hag, hx6, h2⟩⟩
theorem BX.stored {w wr w3 : World} {s : ByteArray} {lo : Nat} {z : RX} {acc : List Ins} {css : List (List Value)} {v : Value} (h : BX w wr s lo z acc css v) {ob : Obj} {c : Ins} {g cap : Nat}
    (hown : w3.ownsRow lo 44 3 (.slice (some ⟨g, 0, none⟩) (acc.length + 1) cap) (acc.length + 1) (css.flatten ++ [.int .i64 c.op, .int .i64 c.a, .int .i64 c.b])) (hgr : (wr.alloc ob).grownBy w3 v.ownBlock) (hat : v.ownBlock = some g ∨ g = wr.heap.size + 1) :
    BX w w3 s lo z (acc ++ [c]) (css ++ [[.int .i64 c.op, .int .i64 c.a, .int .i64 c.b]]) (.slice (some ⟨g, 0, none⟩) (acc.length + 1) cap) := by
  have h2 := h.hlo
  have hlt : ∀ b, v.ownBlock = some b → lo ≤ b := fun b hb => (h.row.own.lt b hb).1
  have hne : ∀ b, b < lo → v.ownBlock ≠ some b := fun b hb e => by have := hlt b e; omega
  have hrow := (h.row.alloc InsE.mono ob).snoc InsE.mono (x := c) (cs := [.int .i64 c.op, .int .i64 c.a, .int .i64 c.b]) rfl rfl hown hgr (by rcases hat with h | h; exact .inl h; exact .inr (by simp; omega))
  have hb : ∀ {b : Nat} {o : Obj}, b < lo → wr.heap[b]? = some o → w3.heap[b]? = some o := fun hl ho => blk_grown (blk_alloc ho ob) hgr (hne _ hl)
  exact ⟨hb (by omega) h.x, hb (by omega) h.r1, hrow, grown_ex (ex_alloc ob h.ex) hgr (fun b hb => by have := hlt b hb; omega), h2⟩

set_option maxHeartbeats 2000000 in
theorem rblock_any (w : World) {s : ByteArray} (hs : s.size ≤ 140737488351232) {x : RX} (hx : Good s x) {l : List Ins} {z' : RX} (hres : blkX s x = (l, z')) :
    Calls Try.prog 22 #[.agg #[.string s, .int .i64 x.pos, .int .i64 x.n, .int .i64 x.e]] w fun r w' => ∃ A cap, r = .returned (.tuple #[.slice A l.length cap, .agg #[.string s, .int .i64 z'.pos, .int .i64 z'.n, .int .i64 z'.e]]) ∧ l.length ≤ cap ∧ RowAt 3 InsE (Fresh w w') w' A l ∧ ∃ y : Ext w, w' = w.ext y := by
  have hC := fun W => rmany_any W hs hx (k := 1) (most := 24) (.inl rfl) (by decide) (by decide)
  have hg := manyX_good (k := 1) (most := 24) hx
  unfold blkX at hres
  generalize manyX s 1 24 x = m at *
  obtain ⟨p, n, e⟩ := m
  simp only at hC hres
  have hn0 : 0 ≤ n := hg.n0
  have hn1 : n ≤ 2147483647 := hg.n1
  obtain ⟨N, hN⟩ := Int.eq_ofNat_of_zero_le hn0
  subst hN
  simp only [Int.toNat_natCast] at hres
  have HL := Lib.hid hres
  clear hres
  obtain ⟨i0, hi, hz0, hz1, hz2⟩ := info_parts Try.infoI
  obtain ⟨W0, hW0, hx0, b0, b1, hsz0⟩ := two_laid (w := w) (.cells #[.string s, .int .i64 x.pos, .int .i64 x.n, .int .i64 x.e] 53) (.cells #[.string ⟨#[]⟩, .int .i64 0, .int .i64 0, .int .i64 0] 53)
  have l0 := blk_cell b0 (j := 0) rfl
  have l1 := blk_cell b0 (j := 1) rfl
  have l2 := blk_cell b0 (j := 2) rfl
  have l3 := blk_cell b0 (j := 3) rfl
  have H0 := Lib.hid b0
  have H1 := Lib.hid b1
  clear b0 b1 hsz0
  go_enter Try.func22, Try.ntmps22
  go_wp2_with (go_at_call 21; (with_reducible refine (hC _).mono ?_); rintro _ _ ⟨rfl, y1, rfl⟩; have qc0 := blk_ext H0.out y1; have qc1 := blk_ext H1.out y1; obtain ⟨W1, ee1, hx1, c0, hWo⟩ := set4 (w := w) (ex_ext y1 hx0) (Nat.le_refl _) qc0 (.string s) (.int .i64 p) (.int .i64 N) (.int .i64 e); have c1 := hWo _ _ (by omega) qc1; have t0 := blk_cell qc0 (j := 0) rfl; have tf0 := blk_free qc0 0; have t1 := blk_cell qc0 (j := 1) rfl; have tf1 := blk_free qc0 1; have t2 := blk_cell qc0 (j := 2) rfl; have tf2 := blk_free qc0 2; have t3 := blk_cell qc0 (j := 3) rfl; have tf3 := blk_free qc0 3; clear qc1 hWo; have u0 := blk_cell c0 (j := 0) rfl; have uf0 := blk_free c0 0; have u1 := blk_cell c0 (j := 1) rfl; have uf1 := blk_free c0 1; have u2 := blk_cell c0 (j := 2) rfl; have uf2 := blk_free c0 2; have u3 := blk_cell c0 (j := 3) rfl; have uf3 := blk_free c0 3; have sz1 : w.heap.size + 1 < W1.heap.size := lt_of_block c1)
  have I0 : BX w (W1.alloc (.cells #[] 44)) s W1.heap.size ⟨p, N, e⟩ [] [] (.slice (some ⟨W1.heap.size, 0, none⟩) 0 0) :=
    ⟨blk_alloc c0 _, blk_alloc c1 _, ⟨World.ownsRow_made W1 #[] 0 (Nat.le_refl _) (Nat.zero_le _) rfl, by simp, rfl, fun i x hi => by simp at hi, by simp⟩, ex_alloc _ hx1, sz1⟩
  obtain ⟨V, hV⟩ : ∃ V, W1.alloc (.cells #[] 44) = V := ⟨_, rfl⟩
  rw [hV] at I0 ⊢
  obtain ⟨lo, hlo⟩ : ∃ lo, W1.heap.size = lo := ⟨_, rfl⟩
  rw [hlo] at I0
  simp only [hlo]
  have hlo' : w.heap.size ≤ lo := by omega
  have HG : Good s ⟨p, N, e⟩ := hg
  clear H0 H1 hW0 hx0 hx1 c0 c1 hg hV hlo l0 l1 l2 l3 t0 t1 t2 t3 tf0 tf1 tf2 tf3 u0 u1 u2 u3 uf0 uf1 uf2 uf3 ee1 qc0 sz1 hC
  go_loopw [5, 6] (fun v i wr => ∃ (acc : List Ins) (css : List (List Value)) (z : RX), acc.length ≤ N ∧ i = .int .i64 acc.length ∧ loopX (insX s) (N - acc.length) acc z = (l, z') ∧ Good s z ∧ BX w wr s lo z acc css v) (fun _ i _ => N - (intOf i).toNat)
  case atStart => exact ⟨[], [], _, Nat.zero_le _, rfl, HL.out, HG, I0⟩
  case round =>
    clear HL I0 HG
    obtain ⟨acc, css, z, hj, rfl, hI, hG, I⟩ := hrel
    have HI := Lib.hid hI
    clear hI
    obtain ⟨pz, nz, ez⟩ := z
    by_cases hlt : acc.length < N ∧ ez = 0
    · obtain ⟨hlt, rfl⟩ := hlt
      have hX := fun W => rone_any W hs hG
      have hG2 := insX_good _ hG
      have HJ : Hid (loopX (insX s) (N - (acc.length + 1)) (acc ++ [(insX s ⟨pz, nz, 0⟩).1]) (insX s ⟨pz, nz, 0⟩).2 = (l, z')) := by
        have := HI.out
        rw [show N - acc.length = (N - (acc.length + 1)) + 1 by omega, loopX_ok rfl] at this
        exact this
      clear HI
      generalize insX s ⟨pz, nz, 0⟩ = z2 at *
      obtain ⟨⟨op, ia, ib⟩, ⟨p', n', e'⟩⟩ := z2
      simp only at hX HJ hG2
      obtain ⟨A0, cap0, hv⟩ := own_shape I.row.own
      subst hv
      obtain ⟨v, hv⟩ : ∃ v, Value.slice A0 acc.length cap0 = v := ⟨_, rfl⟩
      rw [hv] at I ⊢
      have HV := Lib.hid hv
      clear hv
      have xx0 := blk_cell I.x (j := 0) rfl
      have xxf0 := blk_free I.x 0
      have xx1 := blk_cell I.x (j := 1) rfl
      have xxf1 := blk_free I.x 1
      have xx2 := blk_cell I.x (j := 2) rfl
      have xxf2 := blk_free I.x 2
      have xx3 := blk_cell I.x (j := 3) rfl
      have xxf3 := blk_free I.x 3
      go_wp2_with (first | (go_at_call 38; (with_reducible refine (hX _).mono ?_); rintro _ _ ⟨rfl, y, rfl⟩; obtain ⟨E3, E5, E6, O1, hE3, hO1, i3, x3, hE5, x5, b5, hE6, i6, I6⟩ := I.round y op ia ib p' n' e'; have ii0 := blk_cell i3 (j := 0) rfl; have iif0 := blk_free i3 0; have ii1 := blk_cell i3 (j := 1) rfl; have iif1 := blk_free i3 1; have ii2 := blk_cell i3 (j := 2) rfl; have iif2 := blk_free i3 2; have ix0 := blk_cell x3 (j := 0) rfl; have ixf0 := blk_free x3 0; have ix1 := blk_cell x3 (j := 1) rfl; have ixf1 := blk_free x3 1; have ix2 := blk_cell x3 (j := 2) rfl; have ixf2 := blk_free x3 2; have ix3 := blk_cell x3 (j := 3) rfl; have ixf3 := blk_free x3 3; have xa0 := blk_cell x5 (j := 0) rfl; have xaf0 := blk_free x5 0; have xa1 := blk_cell x5 (j := 1) rfl; have xaf1 := blk_free x5 1; have xa2 := blk_cell x5 (j := 2) rfl; have xaf2 := blk_free x5 2; have xa3 := blk_cell x5 (j := 3) rfl; have xaf3 := blk_free x5 3; have xb0 := blk_cell b5 (j := 0) rfl; have xbf0 := blk_free b5 0; have xb1 := blk_cell b5 (j := 1) rfl; have xbf1 := blk_free b5 1; have xb2 := blk_cell b5 (j := 2) rfl; have xbf2 := blk_free b5 2; have xb3 := blk_cell b5 (j := 3) rfl; have xbf3 := blk_free b5 3; have xc0 := blk_cell i6 (j := 0) rfl; have xcf0 := blk_free i6 0; have xc1 := blk_cell i6 (j := 1) rfl; have xcf1 := blk_free i6 1; have xc2 := blk_cell i6 (j := 2) rfl; have xcf2 := blk_free i6 2; have xd0 := blk_cell I6.x (j := 0) rfl; have xdf0 := blk_free I6.x 0; have xd1 := blk_cell I6.x (j := 1) rfl; have xdf1 := blk_free I6.x 1; have xd2 := blk_cell I6.x (j := 2) rfl; have xdf2 := blk_free I6.x 2; have xd3 := blk_cell I6.x (j := 3) rfl; have xdf3 := blk_free I6.x 3; have hK := Lib.hid I6; clear i3 x3 x5 b5 i6) | (at_builtin; refine wpList_append_lies _ rfl (.tmp 30) (.tmp 32) 42 rfl lo 44 i0 _ 3 24 Try.underlying42 hi hz0 hz1 hz2 rfl (by omega) v acc.length _ rfl (I6.row.own.alloc _) ⟨E6.heap.size, 0, none⟩ 1 1 [.int .i64 op, .int .i64 ia, .int .i64 ib] rfl rfl (World.news_of_block (heap_alloc_new E6 _)) (by simp [Value.oneCell']) (by omega) (by unfold maxLen; omega) (by omega) (by have := I6.row.size; simp; omega) (E6.heap.size + 1) (by simp) ?_; intro g cap w3 hown3 hgr3 hat3 hlt3))
      have I3 := hK.out.stored (c := ⟨op, ia, ib⟩) hown3 hgr3 hat3
      clear hX I I6 hK hown3 hgr3
      go_roundw
      case rel => exact ⟨acc ++ [⟨op, ia, ib⟩], _, _, by simp; omega, by simp, by simpa using HJ.out, hG2, I3⟩
      case measure => simp [intOf]; omega
    · have hE : acc = l ∧ (⟨pz, nz, ez⟩ : RX) = z' := by
        have := HI.out
        by_cases he : ez = 0
        · rw [show N - acc.length = 0 by omega, loopX] at this
          exact ⟨congrArg Prod.fst this, congrArg Prod.snd this⟩
        · rw [loopX_no (by exact he)] at this
          exact ⟨congrArg Prod.fst this, congrArg Prod.snd this⟩
      obtain ⟨rfl, rfl⟩ := hE
      clear HI
      obtain ⟨A, cap, hv, hcap, hrow⟩ := I.row.row (S := Btw lo wr) InsE.mono (fun b h1 h2 => ⟨h1, h2⟩)
      subst hv
      have hOl := I.hlo
      have hex := I.ex
      have xx0 := blk_cell I.x (j := 0) rfl
      have xxf0 := blk_free I.x 0
      have xx1 := blk_cell I.x (j := 1) rfl
      have xxf1 := blk_free I.x 1
      have xx2 := blk_cell I.x (j := 2) rfl
      have xxf2 := blk_free I.x 2
      have xx3 := blk_cell I.x (j := 3) rfl
      have xxf3 := blk_free I.x 3
      have rb0 := blk_cell I.r1 (j := 0) rfl
      have rbf0 := blk_free I.r1 0
      have rb1 := blk_cell I.r1 (j := 1) rfl
      have rbf1 := blk_free I.r1 1
      have rb2 := blk_cell I.r1 (j := 2) rfl
      have rbf2 := blk_free I.r1 2
      have rb3 := blk_cell I.r1 (j := 3) rfl
      have rbf3 := blk_free I.r1 3
      clear I
      by_cases hk : acc.length < N
      · have he : ¬ ez = 0 := fun h => hlt ⟨hk, h⟩
        have hb1 : (ez == 0) = false := by simpa using he
        clear hlt
        go_wp2
        go_region
        all_goals
          go_wp2
          refine bodyPost_ret (v := .tuple #[.slice A acc.length cap, .agg #[.string s, .int .i64 pz, .int .i64 nz, .int .i64 ez]]) ?_ rfl ⟨A, cap, rfl, hcap, row_end InsE.mono hrow hlo' (by (repeat (first | with_reducible exact Keeps.refl _ _ | with_reducible refine Keeps.set ?_ (by omega) _ _ | with_reducible refine Keeps.drew ?_))), (by (repeat (first | with_reducible exact hex | with_reducible refine ex_set ?_ (by omega) _ _ | with_reducible refine ex_drew ?_)))⟩
          simp [results, Try.results22, go_sem, *]
      · have hk' : ¬ ((acc.length : Int) < N) := by omega
        clear hlt
        go_wp2
        go_region
        all_goals
          go_wp2
          refine bodyPost_ret (v := .tuple #[.slice A acc.length cap, .agg #[.string s, .int .i64 pz, .int .i64 nz, .int .i64 ez]]) ?_ rfl ⟨A, cap, rfl, hcap, row_end InsE.mono hrow hlo' (by (repeat (first | with_reducible exact Keeps.refl _ _ | with_reducible refine Keeps.set ?_ (by omega) _ _ | with_reducible refine Keeps.drew ?_))), (by (repeat (first | with_reducible exact hex | with_reducible refine ex_set ?_ (by omega) _ _ | with_reducible refine ex_drew ?_)))⟩
          simp [results, Try.results22, go_sem, *]
end Go.Proofs.Ytlekjobicpnafaa.Cd
