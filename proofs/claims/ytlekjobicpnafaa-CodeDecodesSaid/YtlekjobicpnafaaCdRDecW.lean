/- The document's Decode, walked. No condition. -/
import Derived.Test.YtlekjobicpnafaaCdRDec
namespace Go.Proofs.Ytlekjobicpnafaa.Cd
open Go Go.RowKit Base Pg
set_option linter.unusedVariables false
set_option linter.unusedSimpArgs false

theorem prgAt_of {S : Nat → Prop} {wr : World} {p : Prg} {L : PL} (rC : RowAt 1 IntE S wr L.cA p.caps) (rS : RowAt 2 SelE S wr L.sA p.sels) (rB : RowAt 1 BlkE S wr L.bA p.blocks) (c1 : p.caps.length ≤ L.cc) (c2 : p.sels.length ≤ L.sc) (c3 : p.blocks.length ≤ L.bc)
    (m1 : p.caps.length ≤ 4) (m2 : p.sels.length ≤ 4) (m3 : p.blocks.length ≤ 6) : PrgAt S wr L p :=
  ⟨rC, rS, rB, c1, c2, c3, by omega, by omega, by omega⟩
theorem prgAt_end {w wr W : World} {p : Prg} {L : PL} (h : PrgAt (Btw (w.heap.size + 1) wr) wr L p) (hk : Keeps (w.heap.size + 1) wr W) : PrgAt (Fresh w W) W L p :=
  h.mono (fun b ⟨h1, h2⟩ => ⟨⟨by omega, (hk b h1 h2).1⟩, (hk b h1 h2).2⟩)

set_option maxRecDepth 100000 in
set_option maxHeartbeats 4000000 in
theorem rdecode_parts (w : World) {s : ByteArray} (hs : s.size ≤ 140737488351232) {caps : List Int} {z0 z1 z2 z3 z4 z' : RX} {sels : List Sel} {bl : List (List Ins)} (hcaps : capsX s ⟨0, 0, 0⟩ = (caps, z0)) (h1 : nextX s z0 = z1) (h2 : nextX s z1 = z2) (h3 : nextX s z2 = z3) (hsels : selsX s z3 = (sels, z4)) (hbl : blksX s z4 = (bl, z'))
    {res : Except Int Prg} (hres : (if endE s ⟨caps, z1.n, z2.n, z3.n, sels, bl⟩ z' = 0 then .ok ⟨caps, z1.n, z2.n, z3.n, sels, bl⟩ else .error (endE s ⟨caps, z1.n, z2.n, z3.n, sels, bl⟩ z')) = res) :
    Calls Try.prog 9 #[.string s] w (DecPost w res) := by
  have g0 : Good s ⟨0, 0, 0⟩ := ⟨Nat.zero_le _, by simp, by simp, by simp, by simp⟩
  have gz0 : Good s z0 := by have := capsX_good _ g0; rw [hcaps] at this; exact this
  have gz3 : Good s z3 := by rw [← h3]; exact nextX_good (by rw [← h2]; exact nextX_good (by rw [← h1]; exact nextX_good gz0))
  have gz4 : Good s z4 := by have := selsX_good _ gz3; rw [hsels] at this; exact this
  have hC : ∀ W, Calls Try.prog 20 #[.agg #[.string s, .int .i64 0, .int .i64 0, .int .i64 0]] W fun r w' => ∃ cA sA cc sc, r = .returned (.tuple #[.agg #[.slice cA caps.length cc, .int .i64 z1.n, .int .i64 z2.n, .int .i64 z3.n, .slice sA sels.length sc, .slice none 0 0], .agg #[.string s, .int .i64 z4.pos, .int .i64 z4.n, .int .i64 z4.e]]) ∧
      caps.length ≤ cc ∧ sels.length ≤ sc ∧ RowAt 1 IntE (Fresh W w') w' cA caps ∧ RowAt 2 SelE (Fresh W w') w' sA sels ∧ ∃ y : Ext W, w' = W.ext y := fun W => rtab_any W hs g0 hcaps h1 h2 h3 hsels
  have hC4 := fun W => rmany_any W hs gz4 (k := 1) (most := 6) (.inl rfl) (by decide) (by decide)
  have hg4 := manyX_good (k := 1) (most := 6) gz4
  have hlc := capsX_len _ g0
  have hls := selsX_len z3 gz3
  have hlb := blksX_len z4 gz4
  rw [hcaps] at hlc
  rw [hsels] at hls
  rw [hbl] at hlb
  simp only at hlc hls hlb
  unfold blksX at hbl
  generalize manyX s 1 6 z4 = m4 at *
  obtain ⟨p4, n4, e4⟩ := m4
  simp only at hC4 hbl
  have hn0 : 0 ≤ n4 := hg4.n0
  have hn1 : n4 ≤ 2147483647 := hg4.n1
  obtain ⟨N, hN⟩ := Int.eq_ofNat_of_zero_le hn0
  subst hN
  simp only [Int.toNat_natCast] at hbl
  have HL := Lib.hid hbl
  have HR := Lib.hid hres
  clear hcaps hsels hbl h1 h2 h3 hres gz3 gz0
  obtain ⟨iB, hi, hz0, hz1, hz2⟩ := info_parts Try.infoB
  obtain ⟨z1p, z1n, z1e⟩ := z1
  obtain ⟨z2p, z2n, z2e⟩ := z2
  obtain ⟨z3p, z3n, z3e⟩ := z3
  obtain ⟨z4p, z4n, z4e⟩ := z4
  simp only at hC hC4 HR ⊢
  have hP2 := heap_alloc_new w (.cells #[.slice none 0 0, .int .i64 0, .int .i64 0, .int .i64 0, .slice none 0 0, .slice none 0 0] 26)
  have HP := Lib.hid hP2
  clear hP2
  go_enter Try.func9, Try.ntmps9
  go_wp2_with (first | (go_at_call 20; (with_reducible refine (hC _).mono ?_); rintro _ _ ⟨cA, sA, cc, sc, rfl, hcc, hsc, hrC, hrS, y, rfl⟩; have hx1 := ex_ext y (ex_alloc (.cells #[.slice none 0 0, .int .i64 0, .int .i64 0, .int .i64 0, .slice none 0 0, .slice none 0 0] 26) (ex_refl w)); have P2 := blk_ext HP.out y; have hP2l := lt_of_block P2; obtain ⟨Wt, hWt⟩ : ∃ W, (w.alloc (.cells #[.slice none 0 0, .int .i64 0, .int .i64 0, .int .i64 0, .slice none 0 0, .slice none 0 0] 26)).ext y = W := ⟨_, rfl⟩; rw [hWt] at hx1 P2 hrC hrS hP2l; obtain ⟨E3, E5, B, hE3, hB, p3, x3, hE5, I0, hwB⟩ := dec_begin (s := s) hx1 (.slice cA caps.length cc) (.int .i64 z1n) (.int .i64 z2n) (.int .i64 z3n) (.slice sA sels.length sc) (.slice none 0 0) z4p z4n z4e; have pa0 := blk_cell p3 (j := 0) rfl; have paf0 := blk_free p3 0; have pa1 := blk_cell p3 (j := 1) rfl; have paf1 := blk_free p3 1; have pa2 := blk_cell p3 (j := 2) rfl; have paf2 := blk_free p3 2; have pa3 := blk_cell p3 (j := 3) rfl; have paf3 := blk_free p3 3; have pa4 := blk_cell p3 (j := 4) rfl; have paf4 := blk_free p3 4; have pa5 := blk_cell p3 (j := 5) rfl; have paf5 := blk_free p3 5; have xa0 := blk_cell x3 (j := 0) rfl; have xaf0 := blk_free x3 0; have xa1 := blk_cell x3 (j := 1) rfl; have xaf1 := blk_free x3 1; have xa2 := blk_cell x3 (j := 2) rfl; have xaf2 := blk_free x3 2; have xa3 := blk_cell x3 (j := 3) rfl; have xaf3 := blk_free x3 3; have xb0 := blk_cell I0.x (j := 0) rfl; have xbf0 := blk_free I0.x 0; have xb1 := blk_cell I0.x (j := 1) rfl; have xbf1 := blk_free I0.x 1; have xb2 := blk_cell I0.x (j := 2) rfl; have xbf2 := blk_free I0.x 2; have xb3 := blk_cell I0.x (j := 3) rfl; have xbf3 := blk_free I0.x 3; clear p3 x3) | (go_at_call 21; (with_reducible refine (hC4 _).mono ?_); rintro _ _ ⟨rfl, y2, rfl⟩; have q1 := I0.ext y2; have xc0 := blk_cell q1.x (j := 0) rfl; have xcf0 := blk_free q1.x 0; have xc1 := blk_cell q1.x (j := 1) rfl; have xcf1 := blk_free q1.x 1; have xc2 := blk_cell q1.x (j := 2) rfl; have xcf2 := blk_free q1.x 2; have xc3 := blk_cell q1.x (j := 3) rfl; have xcf3 := blk_free q1.x 3; have I1 := q1.setX p4 N e4; obtain ⟨V1, eV1⟩ : ∃ V, (((((E5.ext y2).setCell ⟨B + 1, 0, none⟩ (.string s)).setCell ⟨B + 1, 1, none⟩ (.int .i64 p4)).setCell ⟨B + 1, 2, none⟩ (.int .i64 N)).setCell ⟨B + 1, 3, none⟩ (.int .i64 e4)) = V := ⟨_, rfl⟩; rw [eV1] at I1; have xd0 := blk_cell I1.x (j := 0) rfl; have xdf0 := blk_free I1.x 0; have xd1 := blk_cell I1.x (j := 1) rfl; have xdf1 := blk_free I1.x 1; have xd2 := blk_cell I1.x (j := 2) rfl; have xdf2 := blk_free I1.x 2; have xd3 := blk_cell I1.x (j := 3) rfl; have xdf3 := blk_free I1.x 3))
  have hPl : w.heap.size < B := by rw [hB] at hP2l; exact hP2l
  have p2os := mem_allOf P2
  have hrC' : ∀ (W : World), (∀ q ∈ allOf Wt, W.heap[q.1]? = some q.2) → B ≤ W.heap.size → RowAt 1 IntE (Btw (w.heap.size + 1) W) W cA caps := fun W hW hs => hrC.mono IntE.mono (fun b hb => by
    have h1 := Array.getElem?_eq_getElem hb.2
    have h2 := hb.1
    have h3 := hb.2
    simp at h2
    exact ⟨⟨by omega, by omega⟩, by rw [h1]; exact hW _ (mem_allOf h1)⟩)
  have hrS' : ∀ (W : World), (∀ q ∈ allOf Wt, W.heap[q.1]? = some q.2) → B ≤ W.heap.size → RowAt 2 SelE (Btw (w.heap.size + 1) W) W sA sels := fun W hW hs => hrS.mono SelE.mono (fun b hb => by
    have h1 := Array.getElem?_eq_getElem hb.2
    have h2 := hb.1
    have h3 := hb.2
    simp at h2
    exact ⟨⟨by omega, by omega⟩, by rw [h1]; exact hW _ (mem_allOf h1)⟩)
  have O0 : RowB 1 42 BlkE V1.heap.size V1 [] [] (.slice none 0 0) := RowB.nil (Nat.le_refl _)
  replace I1 := I1.renew
  have hlo1 : B + 2 ≤ V1.heap.size := I1.hlo
  obtain ⟨lo, hlo⟩ : ∃ n, V1.heap.size = n := ⟨_, rfl⟩
  rw [hlo] at I1 O0 hlo1
  have HG := Lib.hid hg4
  clear hlo hC hC4 hg4 HP hrC hrS hWt hB hE3 hE5 eV1 q1 I0 hx1 P2 hP2l gz4 g0 pa0 paf0 pa1 paf1 pa2 paf2 pa3 paf3 pa4 paf4 pa5 paf5 xa0 xaf0 xa1 xaf1 xa2 xaf2 xa3 xaf3 xb0 xbf0 xb1 xbf1 xb2 xbf2 xb3 xbf3 xc0 xcf0 xc1 xcf1 xc2 xcf2 xc3 xcf3 xd0 xdf0 xd1 xdf1 xd2 xdf2 xd3 xdf3
  generalize allOf Wt = os at *
  go_loopw [7] (fun i wr => ∃ (acc : List (List Ins)) (css : List (List Value)) (v : Value) (z : RX), acc.length ≤ N ∧ i = .int .i64 acc.length ∧ loopX (blkX s) (N - acc.length) acc z = (bl, z') ∧ Good s z ∧ TInv w V1 wr s (B + 1) B (B + 2) lo os z #[.slice cA caps.length cc, .int .i64 z1n, .int .i64 z2n, .int .i64 z3n, .slice sA sels.length sc, v] ∧ RowB 1 42 BlkE lo wr acc css v) (fun i _ => N - (intOf i).toNat)
  case atStart => exact ⟨[], [], _, _, Nat.zero_le _, rfl, HL.out, HG.out, I1, O0⟩
  case round =>
    clear HL I1 HG O0
    obtain ⟨acc, css, v, z, hj, rfl, hI, hG, I, O⟩ := hrel
    have HI := Lib.hid hI
    clear hI
    obtain ⟨pz, nz, ez⟩ := z
    by_cases hlt : acc.length < N ∧ ez = 0
    · obtain ⟨hlt, rfl⟩ := hlt
      have hG2 := blkX_good _ hG
      have hl4 := blkX_len _ hG
      have HJ : Hid (loopX (blkX s) (N - (acc.length + 1)) (acc ++ [(blkX s ⟨pz, nz, 0⟩).1]) (blkX s ⟨pz, nz, 0⟩).2 = (bl, z')) := by
        have := HI.out
        rw [show N - acc.length = (N - (acc.length + 1)) + 1 by omega, loopX_ok rfl] at this
        exact this
      clear HI
      have hX := fun W => rblock_any W hs hG (l := (blkX s ⟨pz, nz, 0⟩).1) (z' := (blkX s ⟨pz, nz, 0⟩).2) rfl
      generalize blkX s ⟨pz, nz, 0⟩ = zz at *
      obtain ⟨q, ⟨p', n', e'⟩⟩ := zz
      simp only at hX HJ hG2 hl4
      have hvl : ∀ b, v.ownBlock = some b → b < wr.heap.size := fun b hb => (O.own.lt b hb).2
      have hlow := O.size
      have xx0 := blk_cell I.x (j := 0) rfl
      have xxf0 := blk_free I.x 0
      have xx1 := blk_cell I.x (j := 1) rfl
      have xxf1 := blk_free I.x 1
      have xx2 := blk_cell I.x (j := 2) rfl
      have xxf2 := blk_free I.x 2
      have xx3 := blk_cell I.x (j := 3) rfl
      have xxf3 := blk_free I.x 3
      go_wp2_with (first | (go_at_call 22; (with_reducible refine (hX _).mono ?_); rintro _ _ ⟨Ax, cx, rfl, hcx, hrx, y, rfl⟩; obtain ⟨E3, E5, E6, O1, hE3, hO1, x3, hE5, x5, b5, hE6, I6, R6, k6⟩ := I.round1 BlkE.mono O y p' n' e'; have ix0 := blk_cell x3 (j := 0) rfl; have ixf0 := blk_free x3 0; have ix1 := blk_cell x3 (j := 1) rfl; have ixf1 := blk_free x3 1; have ix2 := blk_cell x3 (j := 2) rfl; have ixf2 := blk_free x3 2; have ix3 := blk_cell x3 (j := 3) rfl; have ixf3 := blk_free x3 3; have xa0 := blk_cell x5 (j := 0) rfl; have xaf0 := blk_free x5 0; have xa1 := blk_cell x5 (j := 1) rfl; have xaf1 := blk_free x5 1; have xa2 := blk_cell x5 (j := 2) rfl; have xaf2 := blk_free x5 2; have xa3 := blk_cell x5 (j := 3) rfl; have xaf3 := blk_free x5 3; have xb0 := blk_cell b5 (j := 0) rfl; have xbf0 := blk_free b5 0; have xb1 := blk_cell b5 (j := 1) rfl; have xbf1 := blk_free b5 1; have xb2 := blk_cell b5 (j := 2) rfl; have xbf2 := blk_free b5 2; have xb3 := blk_cell b5 (j := 3) rfl; have xbf3 := blk_free b5 3; have xp5 := blk_cell I6.p (j := 5) rfl; have xpf5 := blk_free I6.p 5; clear x3 x5 b5) | (at_builtin; refine wpList_append_lies _ rfl (.tmp 37) (.tmp 39) 24 rfl lo 42 iB _ 1 24 Try.underlying24 hi hz0 hz1 hz2 rfl (by omega) v acc.length _ rfl (R6.own.alloc _) ⟨E6.heap.size, 0, none⟩ 1 1 [.slice Ax q.length cx] rfl rfl (World.news_of_block (heap_alloc_new E6 _)) (by simp [Value.oneCell']) (by omega) (by unfold maxLen; omega) (by omega) (by have := R6.size; simp; omega) (E6.heap.size + 1) (by simp) ?_; intro g cap w3 hown3 hgr3 hat3 hlt3; have hne3 : v.ownBlock ≠ some B := (fun e => by have := (R6.own.lt _ e).1; omega); have hb3 := blk_grown (blk_alloc I6.p _) hgr3 hne3; have hcell3 := blk_cell hb3 (j := 5) rfl; have hfree3 := blk_free hb3 5))
      have I7 := I6.grown (World.grownBy_alloc E6 (.cells #[.slice Ax q.length cx] 42) none) (by simp)
      have I8 := (I7.grown hgr3 (fun b hb => (R6.own.lt b hb).1)).setP 5 (.slice (some ⟨g, 0, none⟩) (acc.length + 1) cap)
      have O7 := (R6.alloc BlkE.mono (.cells #[.slice Ax q.length cx] 42)).snoc BlkE.mono (x := q) (cs := [.slice Ax q.length cx]) rfl (blkE_new (w1 := wr) (w2 := E6) (x := q) hlow hvl hcx hl4 (hrx.mono InsE.mono (fun b hb => ⟨⟨hb.1, lt_of_block (k6 b _ (Array.getElem?_eq_getElem hb.2) (by have := hb.1; omega))⟩, by rw [k6 b _ (Array.getElem?_eq_getElem hb.2) (by have := hb.1; omega)]; exact (Array.getElem?_eq_getElem hb.2).symm⟩))) hown3 hgr3 (by rcases hat3 with h | h; exact .inl h; exact .inr (by simp; omega))
      have O8 := O7.set BlkE.mono (j := 0 + 5) I6.hPlo (.slice (some ⟨g, 0, none⟩) (acc.length + 1) cap)
      clear hX I I6 I7 O R6 O7 hown3 hgr3 k6
      go_roundw
      case rel => exact ⟨acc ++ [q], _, _, _, by simp; omega, by simp, by simpa using HJ.out, hG2, I8, O8⟩
      case measure => simp [intOf]; omega
    · have hE : acc = bl ∧ (⟨pz, nz, ez⟩ : RX) = z' := by
        have := HI.out
        by_cases he : ez = 0
        · rw [show N - acc.length = 0 by omega, loopX] at this
          exact ⟨congrArg Prod.fst this, congrArg Prod.snd this⟩
        · rw [loopX_no (by exact he)] at this
          exact ⟨congrArg Prod.fst this, congrArg Prod.snd this⟩
      obtain ⟨rfl, rfl⟩ := hE
      clear HI
      obtain ⟨bA, bc, hv, hbc, rowB⟩ := O.row (S := Btw (w.heap.size + 1) wr) BlkE.mono (fun b h1 h2 => ⟨by omega, h2⟩)
      subst hv
      clear O
      have p2 := (I.os _ p2os).1
      simp only at p2
      have hex := I.ex
      have HP2 := Lib.hid p2
      have hsz : B ≤ wr.heap.size := by have := I.size; omega
      have rC := hrC' wr (fun q hq => (I.os q hq).1) hsz
      have rS := hrS' wr (fun q hq => (I.os q hq).1) hsz
      have hPP := prgAt_of (wr := wr) (p := ⟨caps, z1n, z2n, z3n, sels, acc⟩) (L := ⟨cA, sA, bA, cc, sc, bc⟩) rC rS rowB hcc hsc hbc hlc hls hlb
      clear rC rS rowB hrC' hrS'
      have xx0 := blk_cell I.x (j := 0) rfl
      have xxf0 := blk_free I.x 0
      have xx1 := blk_cell I.x (j := 1) rfl
      have xxf1 := blk_free I.x 1
      have xx2 := blk_cell I.x (j := 2) rfl
      have xxf2 := blk_free I.x 2
      have xx3 := blk_cell I.x (j := 3) rfl
      have xxf3 := blk_free I.x 3
      have pp0 := blk_cell I.p (j := 0) rfl
      have ppf0 := blk_free I.p 0
      have pp1 := blk_cell I.p (j := 1) rfl
      have ppf1 := blk_free I.p 1
      have pp2 := blk_cell I.p (j := 2) rfl
      have ppf2 := blk_free I.p 2
      have pp3 := blk_cell I.p (j := 3) rfl
      have ppf3 := blk_free I.p 3
      have pp4 := blk_cell I.p (j := 4) rfl
      have ppf4 := blk_free I.p 4
      have pp5 := blk_cell I.p (j := 5) rfl
      have ppf5 := blk_free I.p 5
      have ra0 := blk_cell p2 (j := 0) rfl
      have raf0 := blk_free p2 0
      have ra1 := blk_cell p2 (j := 1) rfl
      have raf1 := blk_free p2 1
      have ra2 := blk_cell p2 (j := 2) rfl
      have raf2 := blk_free p2 2
      have ra3 := blk_cell p2 (j := 3) rfl
      have raf3 := blk_free p2 3
      have ra4 := blk_cell p2 (j := 4) rfl
      have raf4 := blk_free p2 4
      have ra5 := blk_cell p2 (j := 5) rfl
      have raf5 := blk_free p2 5
      by_cases he : ez = 0
      · subst he
        have hk' : ¬ acc.length < N := fun h => hlt ⟨h, rfl⟩
        have hk : ¬ ((acc.length : Int) < N) := by omega
        by_cases hp : pz < s.size
        · have hres : res = .error 10 := by
            rw [← HR.out]
            simp [endE, hp]
          subst hres
          have hPH := Lib.hid hPP
          clear HR hPP hk' hlt
          have hI := Lib.hid I
          clear I
          go_wp2
          go_region
          all_goals
            go_wp2
            refine bodyPost_ret (v := .tuple #[.agg #[.slice none 0 0, .int .i64 0, .int .i64 0, .int .i64 0, .slice none 0 0, .slice none 0 0], .int .i64 10]) ?_ rfl ⟨(by (repeat (first | with_reducible exact hex | with_reducible refine ex_set ?_ (by omega) _ _ | with_reducible refine ex_drew ?_))), rfl⟩
            simp [results, Try.results9, go_sem, *]
        · have hsd : B + 1 ≠ w.heap.size := by omega
          cases hv : rightF ⟨caps, z1n, z2n, z3n, sels, acc⟩ with
          | false =>
            have hres : res = .error 1 := by
              rw [← HR.out]
              simp [endE, hp, hv]
            subst hres
            have hRt : Calls Try.prog 16 #[.agg #[.slice cA caps.length cc, .int .i64 z1n, .int .i64 z2n, .int .i64 z3n, .slice sA sels.length sc, .slice bA acc.length bc]] wr fun r w' => r = .returned (.bool false) ∧ ∃ y : Ext wr, w' = wr.ext y :=
              rright_any (w := wr) ⟨wr, Below.refl _ _⟩ (p := ⟨caps, z1n, z2n, z3n, sels, acc⟩) (L := ⟨cA, sA, bA, cc, sc, bc⟩) (PrgAt.mono (S := Btw (w.heap.size + 1) wr) (w := wr) (S' := Old wr) (w' := wr) (fun b h => ⟨h.2, rfl⟩) hPP) hv
            have hPH := Lib.hid hPP
            clear HR hPP hk' hlt hv
            have hI := Lib.hid I
            clear I
            go_wp2_with (go_at_call 16; (with_reducible refine hRt.mono ?_); rintro _ _ ⟨rfl, y, rfl⟩; have I9 := hI.out.ext y; have r9 := blk_ext HP2.out y; have yx0 := blk_cell I9.x (j := 0) rfl; have yxf0 := blk_free I9.x 0; have yx1 := blk_cell I9.x (j := 1) rfl; have yxf1 := blk_free I9.x 1; have yx2 := blk_cell I9.x (j := 2) rfl; have yxf2 := blk_free I9.x 2; have yx3 := blk_cell I9.x (j := 3) rfl; have yxf3 := blk_free I9.x 3; have yp0 := blk_cell I9.p (j := 0) rfl; have ypf0 := blk_free I9.p 0; have yp1 := blk_cell I9.p (j := 1) rfl; have ypf1 := blk_free I9.p 1; have yp2 := blk_cell I9.p (j := 2) rfl; have ypf2 := blk_free I9.p 2; have yp3 := blk_cell I9.p (j := 3) rfl; have ypf3 := blk_free I9.p 3; have yp4 := blk_cell I9.p (j := 4) rfl; have ypf4 := blk_free I9.p 4; have yp5 := blk_cell I9.p (j := 5) rfl; have ypf5 := blk_free I9.p 5; have yr0 := blk_cell r9 (j := 0) rfl; have yrf0 := blk_free r9 0; have yr1 := blk_cell r9 (j := 1) rfl; have yrf1 := blk_free r9 1; have yr2 := blk_cell r9 (j := 2) rfl; have yrf2 := blk_free r9 2; have yr3 := blk_cell r9 (j := 3) rfl; have yrf3 := blk_free r9 3; have yr4 := blk_cell r9 (j := 4) rfl; have yrf4 := blk_free r9 4; have yr5 := blk_cell r9 (j := 5) rfl; have yrf5 := blk_free r9 5; clear I9 r9)
            go_region
            all_goals
              go_wp2
              refine bodyPost_ret (v := .tuple #[.agg #[.slice none 0 0, .int .i64 0, .int .i64 0, .int .i64 0, .slice none 0 0, .slice none 0 0], .int .i64 1]) ?_ rfl ⟨(by (repeat (first | with_reducible exact hex | with_reducible refine ex_set ?_ (by omega) _ _ | with_reducible refine ex_drew ?_ | with_reducible refine ex_ext _ ?_))), rfl⟩
              simp [results, Try.results9, go_sem, *]
          | true =>
            have hres : res = .ok ⟨caps, z1n, z2n, z3n, sels, acc⟩ := by
              rw [← HR.out]
              simp [endE, hp, hv]
            subst hres
            have hRt : Calls Try.prog 16 #[.agg #[.slice cA caps.length cc, .int .i64 z1n, .int .i64 z2n, .int .i64 z3n, .slice sA sels.length sc, .slice bA acc.length bc]] wr fun r w' => r = .returned (.bool true) ∧ ∃ y : Ext wr, w' = wr.ext y :=
              rright_any (w := wr) ⟨wr, Below.refl _ _⟩ (p := ⟨caps, z1n, z2n, z3n, sels, acc⟩) (L := ⟨cA, sA, bA, cc, sc, bc⟩) (PrgAt.mono (S := Btw (w.heap.size + 1) wr) (w := wr) (S' := Old wr) (w' := wr) (fun b h => ⟨h.2, rfl⟩) hPP) hv
            have hPH := Lib.hid hPP
            clear HR hPP hk' hlt hv
            have hI := Lib.hid I
            clear I
            go_wp2_with (go_at_call 16; (with_reducible refine hRt.mono ?_); rintro _ _ ⟨rfl, y, rfl⟩; have I9 := hI.out.ext y; have r9 := blk_ext HP2.out y; have yx0 := blk_cell I9.x (j := 0) rfl; have yxf0 := blk_free I9.x 0; have yx1 := blk_cell I9.x (j := 1) rfl; have yxf1 := blk_free I9.x 1; have yx2 := blk_cell I9.x (j := 2) rfl; have yxf2 := blk_free I9.x 2; have yx3 := blk_cell I9.x (j := 3) rfl; have yxf3 := blk_free I9.x 3; have yp0 := blk_cell I9.p (j := 0) rfl; have ypf0 := blk_free I9.p 0; have yp1 := blk_cell I9.p (j := 1) rfl; have ypf1 := blk_free I9.p 1; have yp2 := blk_cell I9.p (j := 2) rfl; have ypf2 := blk_free I9.p 2; have yp3 := blk_cell I9.p (j := 3) rfl; have ypf3 := blk_free I9.p 3; have yp4 := blk_cell I9.p (j := 4) rfl; have ypf4 := blk_free I9.p 4; have yp5 := blk_cell I9.p (j := 5) rfl; have ypf5 := blk_free I9.p 5; have yr0 := blk_cell r9 (j := 0) rfl; have yrf0 := blk_free r9 0; have yr1 := blk_cell r9 (j := 1) rfl; have yrf1 := blk_free r9 1; have yr2 := blk_cell r9 (j := 2) rfl; have yrf2 := blk_free r9 2; have yr3 := blk_cell r9 (j := 3) rfl; have yrf3 := blk_free r9 3; have yr4 := blk_cell r9 (j := 4) rfl; have yrf4 := blk_free r9 4; have yr5 := blk_cell r9 (j := 5) rfl; have yrf5 := blk_free r9 5; clear I9 r9)
            refine bodyPost_ret (v := .tuple #[.agg #[.slice cA caps.length cc, .int .i64 z1n, .int .i64 z2n, .int .i64 z3n, .slice sA sels.length sc, .slice bA acc.length bc], .int .i64 0]) ?_ rfl ⟨(by (repeat (first | with_reducible exact hex | with_reducible refine ex_set ?_ (by omega) _ _ | with_reducible refine ex_drew ?_ | with_reducible refine ex_ext _ ?_))), ⟨cA, sA, bA, cc, sc, bc⟩, rfl, prgAt_end hPH.out (by (repeat (first | with_reducible exact Keeps.refl _ _ | with_reducible refine Keeps.set ?_ (by omega) _ _ | with_reducible refine Keeps.drew ?_ | with_reducible refine Keeps.ext ?_ _)))⟩
            simp [results, Try.results9, go_sem, *]
      · have hres : res = .error ez := by
          rw [← HR.out, end_no (by exact he), if_neg (by exact he)]
        subst hres
        have hb1 : (ez == 0) = false := by simpa using he
        have hb2 : (ez != 0) = true := by simpa using he
        have hI := Lib.hid I
        have hPH := Lib.hid hPP
        clear HR he I hPP
        by_cases hk : acc.length < N
        · clear hlt
          go_wp2
          go_region
          all_goals
            go_wp2
            refine bodyPost_ret (v := .tuple #[.agg #[.slice none 0 0, .int .i64 0, .int .i64 0, .int .i64 0, .slice none 0 0, .slice none 0 0], .int .i64 ez]) ?_ rfl ⟨(by (repeat (first | with_reducible exact hex | with_reducible refine ex_set ?_ (by omega) _ _ | with_reducible refine ex_drew ?_))), rfl⟩
            simp [results, Try.results9, go_sem, *]
        · have hk' : ¬ ((acc.length : Int) < N) := by omega
          clear hlt
          go_wp2
          go_region
          all_goals
            go_wp2
            refine bodyPost_ret (v := .tuple #[.agg #[.slice none 0 0, .int .i64 0, .int .i64 0, .int .i64 0, .slice none 0 0, .slice none 0 0], .int .i64 ez]) ?_ rfl ⟨(by (repeat (first | with_reducible exact hex | with_reducible refine ex_set ?_ (by omega) _ _ | with_reducible refine ex_drew ?_))), rfl⟩
            simp [results, Try.results9, go_sem, *]

/-- plaitref07.Decode. -/
theorem rdecode_any (w : World) {s : ByteArray} (hs : s.size ≤ 140737488351232) {res : Except Int Prg} (hres : decF s = res) : Calls Try.prog 9 #[.string s] w (DecPost w res) := by
  rw [← decX_eq] at hres
  refine rdecode_parts w hs rfl rfl rfl rfl rfl rfl ?_
  rw [← hres]
  rfl
end Go.Proofs.Ytlekjobicpnafaa.Cd
