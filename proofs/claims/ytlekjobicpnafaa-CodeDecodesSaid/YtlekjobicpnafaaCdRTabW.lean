/- The document's reader: tables. No condition. -/
import Derived.Test.YtlekjobicpnafaaCdRTab
namespace Go.Proofs.Ytlekjobicpnafaa.Cd
open Go Go.RowKit Base Pg
set_option linter.unusedVariables false
set_option linter.unusedSimpArgs false

theorem tab_begin {w W0 : World} {s : ByteArray} {x : RX} (hx0 : ∃ y : Ext w, W0 = w.ext y) (b0 : W0.heap[w.heap.size]? = some (.cells #[.string s, .int .i64 x.pos, .int .i64 x.n, .int .i64 x.e] 53 (0, 0))) (b1 : W0.heap[w.heap.size + 1]? = some (.cells #[.slice none 0 0, .int .i64 0, .int .i64 0, .int .i64 0, .slice none 0 0, .slice none 0 0] 26 (0, 0)))
    (b2 : W0.heap[w.heap.size + 2]? = some (.cells #[.string ⟨#[]⟩, .int .i64 0, .int .i64 0, .int .i64 0] 53 (0, 0))) (hsz : W0.heap.size = w.heap.size + 3) :
    TInv w (W0.alloc (.cells #[.slice none 0 0, .int .i64 0, .int .i64 0, .int .i64 0, .slice none 0 0, .slice none 0 0] 26)) (W0.alloc (.cells #[.slice none 0 0, .int .i64 0, .int .i64 0, .int .i64 0, .slice none 0 0, .slice none 0 0] 26)) s w.heap.size (w.heap.size + 3) (w.heap.size + 4) (w.heap.size + 4) [(w.heap.size + 1, .cells #[.slice none 0 0, .int .i64 0, .int .i64 0, .int .i64 0, .slice none 0 0, .slice none 0 0] 26 (0, 0)), (w.heap.size + 2, .cells #[.string ⟨#[]⟩, .int .i64 0, .int .i64 0, .int .i64 0] 53 (0, 0))] x #[.slice none 0 0, .int .i64 0, .int .i64 0, .int .i64 0, .slice none 0 0, .slice none 0 0] := by
  have hp := heap_alloc_new W0 (.cells #[.slice none 0 0, .int .i64 0, .int .i64 0, .int .i64 0, .slice none 0 0, .slice none 0 0] 26)
  rw [hsz] at hp
  refine ⟨blk_alloc b0 _, hp, fun q hq => ?_, ex_alloc _ hx0, fun _ _ _ => rfl, by simp [hsz], by omega, by omega, by omega, Nat.le_refl _, by omega, Nat.le_refl _⟩
  simp only [List.mem_cons, List.mem_nil_iff, or_false] at hq
  rcases hq with rfl | rfl
  · exact ⟨blk_alloc b1 _, by simp only; omega, by simp only; omega, by simp only; omega⟩
  · exact ⟨blk_alloc b2 _, by simp only; omega, by simp only; omega, by simp only; omega⟩

theorem TInv.hXlo {w wl wr : World} {s : ByteArray} {X P lo0 lo : Nat} {os : List (Nat × Obj)} {z : RX} {cs : Array Value} (h : TInv w wl wr s X P lo0 lo os z cs) : X < lo := Nat.lt_of_lt_of_le h.hX h.hlo
theorem TInv.hPlo {w wl wr : World} {s : ByteArray} {X P lo0 lo : Nat} {os : List (Nat × Obj)} {z : RX} {cs : Array Value} (h : TInv w wl wr s X P lo0 lo os z cs) : P < lo := Nat.lt_of_lt_of_le h.hP h.hlo

set_option maxRecDepth 100000 in
set_option maxHeartbeats 4000000 in
theorem rtab_any (w : World) {s : ByteArray} (hs : s.size ≤ 140737488351232) {x : RX} (hx : Good s x) {caps : List Int} {z0 z1 z2 z3 z' : RX} {sels : List Sel} (hcaps : capsX s x = (caps, z0)) (h1 : nextX s z0 = z1) (h2 : nextX s z1 = z2) (h3 : nextX s z2 = z3) (hsels : selsX s z3 = (sels, z')) :
    Calls Try.prog 20 #[.agg #[.string s, .int .i64 x.pos, .int .i64 x.n, .int .i64 x.e]] w fun r w' => ∃ cA sA cc sc, r = .returned (.tuple #[.agg #[.slice cA caps.length cc, .int .i64 z1.n, .int .i64 z2.n, .int .i64 z3.n, .slice sA sels.length sc, .slice none 0 0], .agg #[.string s, .int .i64 z'.pos, .int .i64 z'.n, .int .i64 z'.e]]) ∧
      caps.length ≤ cc ∧ sels.length ≤ sc ∧ RowAt 1 IntE (Fresh w w') w' cA caps ∧ RowAt 2 SelE (Fresh w w') w' sA sels ∧ ∃ y : Ext w, w' = w.ext y := by
  have hC := fun W => rmany_any W hs hx (k := 1) (most := 4) (.inl rfl) (by decide) (by decide)
  have hg := manyX_good (k := 1) (most := 4) hx
  have gz0 : Good s z0 := by have := capsX_good x hx; rw [hcaps] at this; exact this
  have gz1 : Good s z1 := by rw [← h1]; exact nextX_good gz0
  have gz2 : Good s z2 := by rw [← h2]; exact nextX_good gz1
  have gz3 : Good s z3 := by rw [← h3]; exact nextX_good gz2
  have hC1 := fun W => rnext_any W hs gz0
  rw [h1] at hC1
  have hC2 := fun W => rnext_any W hs gz1
  rw [h2] at hC2
  have hC3 := fun W => rnext_any W hs gz2
  rw [h3] at hC3
  have hC4 := fun W => rmany_any W hs gz3 (k := 1) (most := 4) (.inl rfl) (by decide) (by decide)
  have hg4 := manyX_good (k := 1) (most := 4) gz3
  have hlc := capsX_len x hx
  have hls := selsX_len z3 gz3
  rw [hcaps] at hlc
  rw [hsels] at hls
  simp only at hlc hls
  unfold capsX at hcaps
  unfold selsX at hsels
  generalize manyX s 1 4 x = m at *
  generalize manyX s 1 4 z3 = m4 at *
  obtain ⟨p, n, e⟩ := m
  obtain ⟨p4, n4, e4⟩ := m4
  simp only at hC hcaps hC4 hsels
  have hn0 : 0 ≤ n := hg.n0
  have hn1 : n ≤ 2147483647 := hg.n1
  have hn40 : 0 ≤ n4 := hg4.n0
  have hn41 : n4 ≤ 2147483647 := hg4.n1
  obtain ⟨N, hN⟩ := Int.eq_ofNat_of_zero_le hn0
  obtain ⟨M, hM⟩ := Int.eq_ofNat_of_zero_le hn40
  subst hN hM
  simp only [Int.toNat_natCast] at hcaps hsels
  have HL := Lib.hid hcaps
  have HM := Lib.hid hsels
  clear hcaps hsels h1 h2 h3
  obtain ⟨iI, hi, hz0, hz1, hz2⟩ := info_parts Try.infoInt
  obtain ⟨iS, hi1, hy0, hy1, hy2⟩ := info_parts Try.infoS
  obtain ⟨W0, hW0, hx0, b0, b1, b2, hsz0⟩ := three_blocks (w := w) (.cells #[.string s, .int .i64 x.pos, .int .i64 x.n, .int .i64 x.e] 53) (.cells #[.slice none 0 0, .int .i64 0, .int .i64 0, .int .i64 0, .slice none 0 0, .slice none 0 0] 26) (.cells #[.string ⟨#[]⟩, .int .i64 0, .int .i64 0, .int .i64 0] 53)
  have J0 := tab_begin hx0 b0 b1 b2 hsz0
  have l0 := blk_cell J0.x (j := 0) rfl
  have lf0 := blk_free J0.x 0
  have l1 := blk_cell J0.x (j := 1) rfl
  have lf1 := blk_free J0.x 1
  have l2 := blk_cell J0.x (j := 2) rfl
  have lf2 := blk_free J0.x 2
  have l3 := blk_cell J0.x (j := 3) rfl
  have lf3 := blk_free J0.x 3
  clear b0 b1 b2
  obtain ⟨z0p, z0n, z0e⟩ := z0
  obtain ⟨z1p, z1n, z1e⟩ := z1
  obtain ⟨z2p, z2n, z2e⟩ := z2
  obtain ⟨z3p, z3n, z3e⟩ := z3
  simp only at hC1 hC2 hC3 hC4 ⊢
  go_enter Try.func20, Try.ntmps20
  go_wp2_with (go_at_call 21; (with_reducible refine (hC _).mono ?_); rintro _ _ ⟨rfl, yJ1, rfl⟩; have qJ1 := J0.ext yJ1; have tJ10 := blk_cell qJ1.x (j := 0) rfl; have tJ1f0 := blk_free qJ1.x 0; have tJ11 := blk_cell qJ1.x (j := 1) rfl; have tJ1f1 := blk_free qJ1.x 1; have tJ12 := blk_cell qJ1.x (j := 2) rfl; have tJ1f2 := blk_free qJ1.x 2; have tJ13 := blk_cell qJ1.x (j := 3) rfl; have tJ1f3 := blk_free qJ1.x 3; have J1 := qJ1.setX p N e; obtain ⟨V1, eV1⟩ : ∃ V, ((((((W0.alloc (.cells #[.slice none 0 0, .int .i64 0, .int .i64 0, .int .i64 0, .slice none 0 0, .slice none 0 0] 26)).ext yJ1).setCell ⟨w.heap.size, 0, none⟩ (.string s)).setCell ⟨w.heap.size, 1, none⟩ (.int .i64 p)).setCell ⟨w.heap.size, 2, none⟩ (.int .i64 N)).setCell ⟨w.heap.size, 3, none⟩ (.int .i64 e)) = V := ⟨_, rfl⟩; rw [eV1] at J1; have gJ10 := blk_cell J1.x (j := 0) rfl; have gJ1f0 := blk_free J1.x 0; have gJ11 := blk_cell J1.x (j := 1) rfl; have gJ1f1 := blk_free J1.x 1; have gJ12 := blk_cell J1.x (j := 2) rfl; have gJ1f2 := blk_free J1.x 2; have gJ13 := blk_cell J1.x (j := 3) rfl; have gJ1f3 := blk_free J1.x 3)
  have O0 : RowB 1 3 IntE V1.heap.size V1 [] [] (.slice none 0 0) := RowB.nil (Nat.le_refl _)
  replace J1 := J1.renew
  have hlo1 : w.heap.size + 4 ≤ V1.heap.size := J1.hlo
  obtain ⟨lo, hlo⟩ : ∃ n, V1.heap.size = n := ⟨_, rfl⟩
  rw [hlo] at J1 O0 hlo1
  have hle1 : V1.heap.size ≤ lo := Nat.le_of_eq hlo
  have HG : Good s ⟨p, N, e⟩ := hg
  clear hlo hW0 hx0 hsz0 J0 qJ1 eV1 hC hg l0 l1 l2 l3 lf0 lf1 lf2 lf3 tJ10 tJ11 tJ12 tJ13 tJ1f0 tJ1f1 tJ1f2 tJ1f3 gJ10 gJ11 gJ12 gJ13 gJ1f0 gJ1f1 gJ1f2 gJ1f3
  go_loopw [6] (fun i wr => ∃ (acc : List Int) (css : List (List Value)) (v : Value) (z : RX), acc.length ≤ N ∧ i = .int .i64 acc.length ∧ loopX (capX s) (N - acc.length) acc z = (caps, ⟨z0p, z0n, z0e⟩) ∧ Good s z ∧ TInv w V1 wr s w.heap.size (w.heap.size + 3) (w.heap.size + 4) lo [(w.heap.size + 1, .cells #[.slice none 0 0, .int .i64 0, .int .i64 0, .int .i64 0, .slice none 0 0, .slice none 0 0] 26 (0, 0)), (w.heap.size + 2, .cells #[.string ⟨#[]⟩, .int .i64 0, .int .i64 0, .int .i64 0] 53 (0, 0))] z #[v, .int .i64 0, .int .i64 0, .int .i64 0, .slice none 0 0, .slice none 0 0] ∧ RowB 1 3 IntE lo wr acc css v) (fun i _ => N - (intOf i).toNat)
  case atStart => exact ⟨[], [], _, _, Nat.zero_le _, rfl, HL.out, HG, J1, O0⟩
  case round =>
    clear HL J1 HG O0
    obtain ⟨acc, css, v, z, hj, rfl, hI, hG, I, O⟩ := hrel
    have HI := Lib.hid hI
    clear hI
    obtain ⟨pz, nz, ez⟩ := z
    by_cases hlt : acc.length < N ∧ ez = 0
    · obtain ⟨hlt, rfl⟩ := hlt
      have hX := fun W => rnext_any W hs hG
      have hG2 := nextX_good hG
      have HJ : Hid (loopX (capX s) (N - (acc.length + 1)) (acc ++ [(nextX s ⟨pz, nz, 0⟩).n - 1]) (nextX s ⟨pz, nz, 0⟩) = (caps, ⟨z0p, z0n, z0e⟩)) := by
        have := HI.out
        rw [show N - acc.length = (N - (acc.length + 1)) + 1 by omega, loopX_ok rfl] at this
        exact this
      clear HI
      generalize nextX s ⟨pz, nz, 0⟩ = zz at *
      obtain ⟨p', n', e'⟩ := zz
      simp only at hX HJ hG2
      have n0 : 0 ≤ n' := hG2.n0
      have n1 : n' ≤ 2147483647 := hG2.n1
      have xx0 := blk_cell I.x (j := 0) rfl
      have xxf0 := blk_free I.x 0
      have xx1 := blk_cell I.x (j := 1) rfl
      have xxf1 := blk_free I.x 1
      have xx2 := blk_cell I.x (j := 2) rfl
      have xxf2 := blk_free I.x 2
      have xx3 := blk_cell I.x (j := 3) rfl
      have xxf3 := blk_free I.x 3
      go_wp2_with (first | (go_at_call 36; (with_reducible refine (hX _).mono ?_); rintro _ _ ⟨rfl, yI2, rfl⟩; have qI2 := I.ext yI2; have tI20 := blk_cell qI2.x (j := 0) rfl; have tI2f0 := blk_free qI2.x 0; have tI21 := blk_cell qI2.x (j := 1) rfl; have tI2f1 := blk_free qI2.x 1; have tI22 := blk_cell qI2.x (j := 2) rfl; have tI2f2 := blk_free qI2.x 2; have tI23 := blk_cell qI2.x (j := 3) rfl; have tI2f3 := blk_free qI2.x 3; have I2 := qI2.setX p' n' e'; obtain ⟨V2, eV2⟩ : ∃ V, (((((wr.ext yI2).setCell ⟨w.heap.size, 0, none⟩ (.string s)).setCell ⟨w.heap.size, 1, none⟩ (.int .i64 p')).setCell ⟨w.heap.size, 2, none⟩ (.int .i64 n')).setCell ⟨w.heap.size, 3, none⟩ (.int .i64 e')) = V := ⟨_, rfl⟩; rw [eV2] at I2; have O2 := rowB_x (s := s) IntE.mono (rowB_ext IntE.mono O yI2) I.hXlo p' n' e'; rw [eV2] at O2; have gI20 := blk_cell I2.x (j := 0) rfl; have gI2f0 := blk_free I2.x 0; have gI21 := blk_cell I2.x (j := 1) rfl; have gI2f1 := blk_free I2.x 1; have gI22 := blk_cell I2.x (j := 2) rfl; have gI2f2 := blk_free I2.x 2; have gI23 := blk_cell I2.x (j := 3) rfl; have gI2f3 := blk_free I2.x 3; have pI20 := blk_cell I2.p (j := 0) rfl; have pI2f0 := blk_free I2.p 0) | (at_builtin; refine wpList_append_lies _ rfl (.tmp 28) (.tmp 32) 22 rfl lo 3 iI _ 1 8 Try.underlying22 hi hz0 hz1 hz2 rfl (by omega) v acc.length _ rfl (O2.own.alloc _) ⟨V2.heap.size, 0, none⟩ 1 1 [.int .i64 (n' - 1)] rfl rfl (World.news_of_block (heap_alloc_new V2 _)) (by simp [Value.oneCell']) (by omega) (by unfold maxLen; omega) (by omega) (by have := O2.size; simp; omega) (V2.heap.size + 1) (by simp) ?_; intro g cap w3 hown3 hgr3 hat3 hlt3; have hne3 : v.ownBlock ≠ some (w.heap.size + 3) := (fun e => by have := (O2.own.lt _ e).1; omega); have hb3 := blk_grown (blk_alloc I2.p _) hgr3 hne3; have hcell3 := blk_cell hb3 (j := 0) rfl; have hfree3 := blk_free hb3 0))
      have I3 := I2.grown (World.grownBy_alloc V2 (.cells #[.int .i64 (n' - 1)] 3) none) (by simp)
      have I4 := (I3.grown hgr3 (fun b hb => (O2.own.lt b hb).1)).setP 0 (.slice (some ⟨g, 0, none⟩) (acc.length + 1) cap)
      have O3 := (O2.alloc IntE.mono (.cells #[.int .i64 (n' - 1)] 3)).snoc IntE.mono (x := n' - 1) (cs := [.int .i64 (n' - 1)]) rfl rfl hown3 hgr3 (by rcases hat3 with h | h; exact .inl h; exact .inr (by simp; omega))
      have O4 := O3.set IntE.mono (j := 0) I2.hPlo (.slice (some ⟨g, 0, none⟩) (acc.length + 1) cap)
      clear hX I I2 I3 O O2 O3 hown3 hgr3
      go_roundw
      case rel => exact ⟨acc ++ [n' - 1], _, _, _, by simp; omega, by simp, by simpa using HJ.out, hG2, I4, O4⟩
      case measure => simp [intOf]; omega
    · have hE : acc = caps ∧ (⟨pz, nz, ez⟩ : RX) = ⟨z0p, z0n, z0e⟩ := by
        have := HI.out
        by_cases he : ez = 0
        · rw [show N - acc.length = 0 by omega, loopX] at this
          exact ⟨congrArg Prod.fst this, congrArg Prod.snd this⟩
        · rw [loopX_no (by exact he)] at this
          exact ⟨congrArg Prod.fst this, congrArg Prod.snd this⟩
      have hE' : caps = acc ∧ z0p = pz ∧ z0n = nz ∧ z0e = ez := by
        obtain ⟨h1, h2⟩ := hE
        simp only [RX.mk.injEq] at h2
        exact ⟨h1.symm, h2.1.symm, h2.2.1.symm, h2.2.2.symm⟩
      clear hE
      obtain ⟨rfl, rfl, rfl, rfl⟩ := hE'
      clear HI
      obtain ⟨cA, cc, hv, hcc, rowC⟩ := O.row (S := Btw (w.heap.size + 4) wr) IntE.mono (fun b h1 h2 => ⟨by omega, h2⟩)
      subst hv
      clear O
      have xx0 := blk_cell I.x (j := 0) rfl
      have xxf0 := blk_free I.x 0
      have xx1 := blk_cell I.x (j := 1) rfl
      have xxf1 := blk_free I.x 1
      have xx2 := blk_cell I.x (j := 2) rfl
      have xxf2 := blk_free I.x 2
      have xx3 := blk_cell I.x (j := 3) rfl
      have xxf3 := blk_free I.x 3
      replace I := I.renew
      by_cases hk : caps.length < N
      · have he : ¬ z0e = 0 := fun h => hlt ⟨hk, h⟩
        have hb1 : (z0e == 0) = false := by simpa using he
        clear hlt he
        go_wp2_with (first
          | (go_at_call 36; (with_reducible refine (hC1 _).mono ?_); rintro _ _ ⟨rfl, yK1, rfl⟩; have qK1 := I.ext yK1; have tK10 := blk_cell qK1.x (j := 0) rfl; have tK1f0 := blk_free qK1.x 0; have tK11 := blk_cell qK1.x (j := 1) rfl; have tK1f1 := blk_free qK1.x 1; have tK12 := blk_cell qK1.x (j := 2) rfl; have tK1f2 := blk_free qK1.x 2; have tK13 := blk_cell qK1.x (j := 3) rfl; have tK1f3 := blk_free qK1.x 3; have K1 := qK1.setX z1p z1n z1e; obtain ⟨Va, eVa⟩ : ∃ V, (((((wr.ext yK1).setCell ⟨w.heap.size, 0, none⟩ (.string s)).setCell ⟨w.heap.size, 1, none⟩ (.int .i64 z1p)).setCell ⟨w.heap.size, 2, none⟩ (.int .i64 z1n)).setCell ⟨w.heap.size, 3, none⟩ (.int .i64 z1e)) = V := ⟨_, rfl⟩; rw [eVa] at K1; have gK10 := blk_cell K1.x (j := 0) rfl; have gK1f0 := blk_free K1.x 0; have gK11 := blk_cell K1.x (j := 1) rfl; have gK1f1 := blk_free K1.x 1; have gK12 := blk_cell K1.x (j := 2) rfl; have gK1f2 := blk_free K1.x 2; have gK13 := blk_cell K1.x (j := 3) rfl; have gK1f3 := blk_free K1.x 3; have pK11 := blk_cell K1.p (j := 1) rfl; have pK1f1 := blk_free K1.p 1; have L1 := K1.setP 1 (.int .i64 z1n); obtain ⟨Vb, eVb⟩ : ∃ V, Va.setCell ⟨w.heap.size + 3, 1, none⟩ (.int .i64 z1n) = V := ⟨_, rfl⟩; rw [eVb] at L1; have hL10 := blk_cell L1.x (j := 0) rfl; have hL1f0 := blk_free L1.x 0; have hL11 := blk_cell L1.x (j := 1) rfl; have hL1f1 := blk_free L1.x 1; have hL12 := blk_cell L1.x (j := 2) rfl; have hL1f2 := blk_free L1.x 2; have hL13 := blk_cell L1.x (j := 3) rfl; have hL1f3 := blk_free L1.x 3)
          | (go_at_call 36; (with_reducible refine (hC2 _).mono ?_); rintro _ _ ⟨rfl, yK2, rfl⟩; have qK2 := L1.ext yK2; have tK20 := blk_cell qK2.x (j := 0) rfl; have tK2f0 := blk_free qK2.x 0; have tK21 := blk_cell qK2.x (j := 1) rfl; have tK2f1 := blk_free qK2.x 1; have tK22 := blk_cell qK2.x (j := 2) rfl; have tK2f2 := blk_free qK2.x 2; have tK23 := blk_cell qK2.x (j := 3) rfl; have tK2f3 := blk_free qK2.x 3; have K2 := qK2.setX z2p z2n z2e; obtain ⟨Vc, eVc⟩ : ∃ V, (((((Vb.ext yK2).setCell ⟨w.heap.size, 0, none⟩ (.string s)).setCell ⟨w.heap.size, 1, none⟩ (.int .i64 z2p)).setCell ⟨w.heap.size, 2, none⟩ (.int .i64 z2n)).setCell ⟨w.heap.size, 3, none⟩ (.int .i64 z2e)) = V := ⟨_, rfl⟩; rw [eVc] at K2; have gK20 := blk_cell K2.x (j := 0) rfl; have gK2f0 := blk_free K2.x 0; have gK21 := blk_cell K2.x (j := 1) rfl; have gK2f1 := blk_free K2.x 1; have gK22 := blk_cell K2.x (j := 2) rfl; have gK2f2 := blk_free K2.x 2; have gK23 := blk_cell K2.x (j := 3) rfl; have gK2f3 := blk_free K2.x 3; have pK22 := blk_cell K2.p (j := 2) rfl; have pK2f2 := blk_free K2.p 2; have L2 := K2.setP 2 (.int .i64 z2n); obtain ⟨Vd, eVd⟩ : ∃ V, Vc.setCell ⟨w.heap.size + 3, 2, none⟩ (.int .i64 z2n) = V := ⟨_, rfl⟩; rw [eVd] at L2; have hL20 := blk_cell L2.x (j := 0) rfl; have hL2f0 := blk_free L2.x 0; have hL21 := blk_cell L2.x (j := 1) rfl; have hL2f1 := blk_free L2.x 1; have hL22 := blk_cell L2.x (j := 2) rfl; have hL2f2 := blk_free L2.x 2; have hL23 := blk_cell L2.x (j := 3) rfl; have hL2f3 := blk_free L2.x 3)
          | (go_at_call 36; (with_reducible refine (hC3 _).mono ?_); rintro _ _ ⟨rfl, yK3, rfl⟩; have qK3 := L2.ext yK3; have tK30 := blk_cell qK3.x (j := 0) rfl; have tK3f0 := blk_free qK3.x 0; have tK31 := blk_cell qK3.x (j := 1) rfl; have tK3f1 := blk_free qK3.x 1; have tK32 := blk_cell qK3.x (j := 2) rfl; have tK3f2 := blk_free qK3.x 2; have tK33 := blk_cell qK3.x (j := 3) rfl; have tK3f3 := blk_free qK3.x 3; have K3 := qK3.setX z3p z3n z3e; obtain ⟨Ve, eVe⟩ : ∃ V, (((((Vd.ext yK3).setCell ⟨w.heap.size, 0, none⟩ (.string s)).setCell ⟨w.heap.size, 1, none⟩ (.int .i64 z3p)).setCell ⟨w.heap.size, 2, none⟩ (.int .i64 z3n)).setCell ⟨w.heap.size, 3, none⟩ (.int .i64 z3e)) = V := ⟨_, rfl⟩; rw [eVe] at K3; have gK30 := blk_cell K3.x (j := 0) rfl; have gK3f0 := blk_free K3.x 0; have gK31 := blk_cell K3.x (j := 1) rfl; have gK3f1 := blk_free K3.x 1; have gK32 := blk_cell K3.x (j := 2) rfl; have gK3f2 := blk_free K3.x 2; have gK33 := blk_cell K3.x (j := 3) rfl; have gK3f3 := blk_free K3.x 3; have pK33 := blk_cell K3.p (j := 3) rfl; have pK3f3 := blk_free K3.p 3; have L3 := K3.setP 3 (.int .i64 z3n); obtain ⟨Vf, eVf⟩ : ∃ V, Ve.setCell ⟨w.heap.size + 3, 3, none⟩ (.int .i64 z3n) = V := ⟨_, rfl⟩; rw [eVf] at L3; have hL30 := blk_cell L3.x (j := 0) rfl; have hL3f0 := blk_free L3.x 0; have hL31 := blk_cell L3.x (j := 1) rfl; have hL3f1 := blk_free L3.x 1; have hL32 := blk_cell L3.x (j := 2) rfl; have hL3f2 := blk_free L3.x 2; have hL33 := blk_cell L3.x (j := 3) rfl; have hL3f3 := blk_free L3.x 3)
          | (go_at_call 21; (with_reducible refine (hC4 _).mono ?_); rintro _ _ ⟨rfl, yK4, rfl⟩; have qK4 := L3.ext yK4; have tK40 := blk_cell qK4.x (j := 0) rfl; have tK4f0 := blk_free qK4.x 0; have tK41 := blk_cell qK4.x (j := 1) rfl; have tK4f1 := blk_free qK4.x 1; have tK42 := blk_cell qK4.x (j := 2) rfl; have tK4f2 := blk_free qK4.x 2; have tK43 := blk_cell qK4.x (j := 3) rfl; have tK4f3 := blk_free qK4.x 3; have K4 := qK4.setX p4 M e4; obtain ⟨Vg, eVg⟩ : ∃ V, (((((Vf.ext yK4).setCell ⟨w.heap.size, 0, none⟩ (.string s)).setCell ⟨w.heap.size, 1, none⟩ (.int .i64 p4)).setCell ⟨w.heap.size, 2, none⟩ (.int .i64 M)).setCell ⟨w.heap.size, 3, none⟩ (.int .i64 e4)) = V := ⟨_, rfl⟩; rw [eVg] at K4; have gK40 := blk_cell K4.x (j := 0) rfl; have gK4f0 := blk_free K4.x 0; have gK41 := blk_cell K4.x (j := 1) rfl; have gK4f1 := blk_free K4.x 1; have gK42 := blk_cell K4.x (j := 2) rfl; have gK4f2 := blk_free K4.x 2; have gK43 := blk_cell K4.x (j := 3) rfl; have gK4f3 := blk_free K4.x 3))
        clear hb1 hk
        replace rowC := rowC.mono IntE.mono (K4.agree (Nat.le_refl _))
        replace K4 := K4.renew
        have O0 : RowB 2 63 SelE Vg.heap.size Vg [] [] (.slice none 0 0) := RowB.nil (Nat.le_refl _)
        have hlo2 : w.heap.size + 4 ≤ Vg.heap.size := K4.hlo
        obtain ⟨lo2, hlo⟩ : ∃ n, Vg.heap.size = n := ⟨_, rfl⟩
        rw [hlo] at K4 O0 hlo2
        have hle2 : Vg.heap.size ≤ lo2 := Nat.le_of_eq hlo
        change TInv w Vg Vg s w.heap.size (w.heap.size + 3) (w.heap.size + 4) lo2 [(w.heap.size + 1, .cells #[.slice none 0 0, .int .i64 0, .int .i64 0, .int .i64 0, .slice none 0 0, .slice none 0 0] 26 (0, 0)), (w.heap.size + 2, .cells #[.string ⟨#[]⟩, .int .i64 0, .int .i64 0, .int .i64 0] 53 (0, 0))] ⟨p4, M, e4⟩ #[.slice cA caps.length cc, .int .i64 z1n, .int .i64 z2n, .int .i64 z3n, .slice none 0 0, .slice none 0 0] at K4
        have HG4 := Lib.hid hg4
        clear hlo hg4 hC1 hC2 hC3 hC4 I L1 L2 L3 K1 K2 K3 qK1 qK2 qK3 qK4 eVa eVb eVc eVd eVe eVf eVg tK10 tK1f0 tK11 tK1f1 tK12 tK1f2 tK13 tK1f3 gK10 gK1f0 gK11 gK1f1 gK12 gK1f2 gK13 gK1f3 tK20 tK2f0 tK21 tK2f1 tK22 tK2f2 tK23 tK2f3 gK20 gK2f0 gK21 gK2f1 gK22 gK2f2 gK23 gK2f3 tK30 tK3f0 tK31 tK3f1 tK32 tK3f2 tK33 tK3f3 gK30 gK3f0 gK31 gK3f1 gK32 gK3f2 gK33 gK3f3 tK40 tK4f0 tK41 tK4f1 tK42 tK4f2 tK43 tK4f3 gK40 gK4f0 gK41 gK4f1 gK42 gK4f2 gK43 gK4f3 pK11 pK1f1 pK22 pK2f2 pK33 pK3f3 hL10 hL1f0 hL11 hL1f1 hL12 hL1f2 hL13 hL1f3 hL20 hL2f0 hL21 hL2f1 hL22 hL2f2 hL23 hL2f3 hL30 hL3f0 hL31 hL3f1 hL32 hL3f2 hL33 hL3f3 xx0 xxf0 xx1 xxf1 xx2 xxf2 xx3 xxf3
        go_loopw [7] (fun i wr => ∃ (acc : List Sel) (css : List (List Value)) (v : Value) (z : RX), acc.length ≤ M ∧ i = .int .i64 acc.length ∧ loopX (selX s) (M - acc.length) acc z = (sels, z') ∧ Good s z ∧ TInv w Vg wr s w.heap.size (w.heap.size + 3) (w.heap.size + 4) lo2 [(w.heap.size + 1, .cells #[.slice none 0 0, .int .i64 0, .int .i64 0, .int .i64 0, .slice none 0 0, .slice none 0 0] 26 (0, 0)), (w.heap.size + 2, .cells #[.string ⟨#[]⟩, .int .i64 0, .int .i64 0, .int .i64 0] 53 (0, 0))] z #[.slice cA caps.length cc, .int .i64 z1n, .int .i64 z2n, .int .i64 z3n, v, .slice none 0 0] ∧ RowB 2 63 SelE lo2 wr acc css v) (fun i _ => M - (intOf i).toNat)
        case atStart => exact ⟨[], [], _, _, Nat.zero_le _, rfl, HM.out, HG4.out, K4, O0⟩
        case round =>
          clear HM K4 HG4 O0
          obtain ⟨acc, css, v, z, hj, rfl, hI, hG, I, O⟩ := hrel
          have HI := Lib.hid hI
          clear hI
          obtain ⟨pz, nz, ez⟩ := z
          by_cases hlt : acc.length < M ∧ ez = 0
          · obtain ⟨hlt, rfl⟩ := hlt
            have hG2 := selX_good _ hG
            have hl4 := selX_len _ hG
            have HJ : Hid (loopX (selX s) (M - (acc.length + 1)) (acc ++ [(selX s ⟨pz, nz, 0⟩).1]) (selX s ⟨pz, nz, 0⟩).2 = (sels, z')) := by
              have := HI.out
              rw [show M - acc.length = (M - (acc.length + 1)) + 1 by omega, loopX_ok rfl] at this
              exact this
            clear HI
            have hX := fun W => rsel_any W hs hG (l := (selX s ⟨pz, nz, 0⟩).1.cases) (d := (selX s ⟨pz, nz, 0⟩).1.dflt) (z' := (selX s ⟨pz, nz, 0⟩).2) rfl
            generalize selX s ⟨pz, nz, 0⟩ = zz at *
            obtain ⟨⟨q, d⟩, ⟨p', n', e'⟩⟩ := zz
            simp only at hX HJ hG2 hl4
            have hvl : ∀ b, v.ownBlock = some b → b < wr.heap.size := fun b hb => (O.own.lt b hb).2
            have hlow := O.size
            have xx0 := blk_cell I.x (j := 0) rfl
            have xxf0 := blk_free I.x 0
            have xx1 := blk_cell I.x (j := 1) rfl
            have xxf1 := blk_free I.x 1
            have xx2 := blk_cell I.x (j := 2) rfl
            have xxf2 := blk_free I.x 2
            have xx3 := blk_cell I.x (j := 3) rfl
            have xxf3 := blk_free I.x 3
            go_wp2_with (first | (go_at_call 37; (with_reducible refine (hX _).mono ?_); rintro _ _ ⟨Ax, cx, rfl, hcx, hrx, y, rfl⟩; obtain ⟨E3, E5, E6, O1, hE3, hO1, i3, x3, hE5, x5, b5, hE6, i6, I6, R6, k6⟩ := I.round SelE.mono O y (.slice Ax q.length cx) (.bool d) p' n' e'; have ii0 := blk_cell i3 (j := 0) rfl; have iif0 := blk_free i3 0; have ii1 := blk_cell i3 (j := 1) rfl; have iif1 := blk_free i3 1; have ix0 := blk_cell x3 (j := 0) rfl; have ixf0 := blk_free x3 0; have ix1 := blk_cell x3 (j := 1) rfl; have ixf1 := blk_free x3 1; have ix2 := blk_cell x3 (j := 2) rfl; have ixf2 := blk_free x3 2; have ix3 := blk_cell x3 (j := 3) rfl; have ixf3 := blk_free x3 3; have xa0 := blk_cell x5 (j := 0) rfl; have xaf0 := blk_free x5 0; have xa1 := blk_cell x5 (j := 1) rfl; have xaf1 := blk_free x5 1; have xa2 := blk_cell x5 (j := 2) rfl; have xaf2 := blk_free x5 2; have xa3 := blk_cell x5 (j := 3) rfl; have xaf3 := blk_free x5 3; have xb0 := blk_cell b5 (j := 0) rfl; have xbf0 := blk_free b5 0; have xb1 := blk_cell b5 (j := 1) rfl; have xbf1 := blk_free b5 1; have xb2 := blk_cell b5 (j := 2) rfl; have xbf2 := blk_free b5 2; have xb3 := blk_cell b5 (j := 3) rfl; have xbf3 := blk_free b5 3; have xc0 := blk_cell i6 (j := 0) rfl; have xcf0 := blk_free i6 0; have xc1 := blk_cell i6 (j := 1) rfl; have xcf1 := blk_free i6 1; have xp4 := blk_cell I6.p (j := 4) rfl; have xpf4 := blk_free I6.p 4; clear i3 x3 x5 b5 i6) | (at_builtin; refine wpList_append_lies _ rfl (.tmp 71) (.tmp 73) 23 rfl lo2 63 iS _ 2 32 Try.underlying23 hi1 hy0 hy1 hy2 rfl (by omega) v acc.length _ rfl (R6.own.alloc _) ⟨E6.heap.size, 0, none⟩ 1 1 [.slice Ax q.length cx, .bool d] rfl rfl (World.news_of_block (heap_alloc_new E6 _)) (by simp [Value.oneCell']) (by omega) (by unfold maxLen; omega) (by omega) (by have := R6.size; simp; omega) (E6.heap.size + 1) (by simp) ?_; intro g cap w3 hown3 hgr3 hat3 hlt3; have hne3 : v.ownBlock ≠ some (w.heap.size + 3) := (fun e => by have := (R6.own.lt _ e).1; omega); have hb3 := blk_grown (blk_alloc I6.p _) hgr3 hne3; have hcell3 := blk_cell hb3 (j := 4) rfl; have hfree3 := blk_free hb3 4))
            have I7 := I6.grown (World.grownBy_alloc E6 (.cells #[.slice Ax q.length cx, .bool d] 63) none) (by simp)
            have I8 := (I7.grown hgr3 (fun b hb => (R6.own.lt b hb).1)).setP 4 (.slice (some ⟨g, 0, none⟩) (acc.length + 1) cap)
            have O7 := (R6.alloc SelE.mono (.cells #[.slice Ax q.length cx, .bool d] 63)).snoc SelE.mono (x := ⟨q, d⟩) (cs := [.slice Ax q.length cx, .bool d]) rfl (selE_new (w1 := wr) (w2 := E6) (x := ⟨q, d⟩) hlow hvl hcx hl4 (hrx.mono CseE.mono (fun b hb => ⟨⟨hb.1, lt_of_block (k6 b _ (Array.getElem?_eq_getElem hb.2) (by have := hb.1; omega))⟩, by rw [k6 b _ (Array.getElem?_eq_getElem hb.2) (by have := hb.1; omega)]; exact (Array.getElem?_eq_getElem hb.2).symm⟩))) hown3 hgr3 (by rcases hat3 with h | h; exact .inl h; exact .inr (by simp; omega))
            have O8 := O7.set SelE.mono (j := 0 + 4) I6.hPlo (.slice (some ⟨g, 0, none⟩) (acc.length + 1) cap)
            clear hX I I6 I7 O R6 O7 hown3 hgr3 k6
            go_roundw
            case rel => exact ⟨acc ++ [⟨q, d⟩], _, _, _, by simp; omega, by simp, by simpa using HJ.out, hG2, I8, O8⟩
            case measure => simp [intOf]; omega
          · have hE : acc = sels ∧ (⟨pz, nz, ez⟩ : RX) = z' := by
              have := HI.out
              by_cases he : ez = 0
              · rw [show M - acc.length = 0 by omega, loopX] at this
                exact ⟨congrArg Prod.fst this, congrArg Prod.snd this⟩
              · rw [loopX_no (by exact he)] at this
                exact ⟨congrArg Prod.fst this, congrArg Prod.snd this⟩
            obtain ⟨rfl, rfl⟩ := hE
            clear HI
            obtain ⟨sA, sc, hv, hsc, rowS⟩ := O.row (S := Btw (w.heap.size + 4) wr) SelE.mono (fun b h1 h2 => ⟨by omega, h2⟩)
            subst hv
            clear O
            replace rowC := rowC.mono IntE.mono (I.agree hle2)
            have r1 := (I.os (w.heap.size + 1, _) (List.mem_cons_self ..)).1
            have r2 := (I.os (w.heap.size + 2, _) (List.mem_cons_of_mem _ (List.mem_cons_self ..))).1
            simp only at r1 r2
            have hex := I.ex
            have xx0 := blk_cell I.x (j := 0) rfl
            have xxf0 := blk_free I.x 0
            have xx1 := blk_cell I.x (j := 1) rfl
            have xxf1 := blk_free I.x 1
            have xx2 := blk_cell I.x (j := 2) rfl
            have xxf2 := blk_free I.x 2
            have xx3 := blk_cell I.x (j := 3) rfl
            have xxf3 := blk_free I.x 3
            have pp0 := blk_cell I.p (j := 0) rfl
            have ppf0 := blk_free I.p 0
            have pp1 := blk_cell I.p (j := 1) rfl
            have ppf1 := blk_free I.p 1
            have pp2 := blk_cell I.p (j := 2) rfl
            have ppf2 := blk_free I.p 2
            have pp3 := blk_cell I.p (j := 3) rfl
            have ppf3 := blk_free I.p 3
            have pp4 := blk_cell I.p (j := 4) rfl
            have ppf4 := blk_free I.p 4
            have pp5 := blk_cell I.p (j := 5) rfl
            have ppf5 := blk_free I.p 5
            have ra0 := blk_cell r1 (j := 0) rfl
            have raf0 := blk_free r1 0
            have ra1 := blk_cell r1 (j := 1) rfl
            have raf1 := blk_free r1 1
            have ra2 := blk_cell r1 (j := 2) rfl
            have raf2 := blk_free r1 2
            have ra3 := blk_cell r1 (j := 3) rfl
            have raf3 := blk_free r1 3
            have ra4 := blk_cell r1 (j := 4) rfl
            have raf4 := blk_free r1 4
            have ra5 := blk_cell r1 (j := 5) rfl
            have raf5 := blk_free r1 5
            have rb0 := blk_cell r2 (j := 0) rfl
            have rbf0 := blk_free r2 0
            have rb1 := blk_cell r2 (j := 1) rfl
            have rbf1 := blk_free r2 1
            have rb2 := blk_cell r2 (j := 2) rfl
            have rbf2 := blk_free r2 2
            have rb3 := blk_cell r2 (j := 3) rfl
            have rbf3 := blk_free r2 3
            clear I r1 r2
            by_cases hk : acc.length < M
            · have he : ¬ ez = 0 := fun h => hlt ⟨hk, h⟩
              have hb1 : (ez == 0) = false := by simpa using he
              clear hlt
              go_wp2
              go_region
              all_goals
                go_wp2
                refine bodyPost_ret (v := .tuple #[.agg #[.slice cA caps.length cc, .int .i64 z1n, .int .i64 z2n, .int .i64 z3n, .slice sA acc.length sc, .slice none 0 0], .agg #[.string s, .int .i64 pz, .int .i64 nz, .int .i64 ez]]) ?_ rfl ⟨cA, sA, cc, sc, rfl, hcc, hsc, row_end IntE.mono rowC (by omega) (by (repeat (first | with_reducible exact Keeps.refl _ _ | with_reducible refine Keeps.set ?_ (by omega) _ _ | with_reducible refine Keeps.drew ?_))), row_end SelE.mono rowS (by omega) (by (repeat (first | with_reducible exact Keeps.refl _ _ | with_reducible refine Keeps.set ?_ (by omega) _ _ | with_reducible refine Keeps.drew ?_))), (by (repeat (first | with_reducible exact hex | with_reducible refine ex_set ?_ (by omega) _ _ | with_reducible refine ex_drew ?_)))⟩
                simp [results, Try.results20, go_sem, *]
            · have hk' : ¬ ((acc.length : Int) < M) := by omega
              clear hlt
              go_wp2
              go_region
              all_goals
                go_wp2
                refine bodyPost_ret (v := .tuple #[.agg #[.slice cA caps.length cc, .int .i64 z1n, .int .i64 z2n, .int .i64 z3n, .slice sA acc.length sc, .slice none 0 0], .agg #[.string s, .int .i64 pz, .int .i64 nz, .int .i64 ez]]) ?_ rfl ⟨cA, sA, cc, sc, rfl, hcc, hsc, row_end IntE.mono rowC (by omega) (by (repeat (first | with_reducible exact Keeps.refl _ _ | with_reducible refine Keeps.set ?_ (by omega) _ _ | with_reducible refine Keeps.drew ?_))), row_end SelE.mono rowS (by omega) (by (repeat (first | with_reducible exact Keeps.refl _ _ | with_reducible refine Keeps.set ?_ (by omega) _ _ | with_reducible refine Keeps.drew ?_))), (by (repeat (first | with_reducible exact hex | with_reducible refine ex_set ?_ (by omega) _ _ | with_reducible refine ex_drew ?_)))⟩
                simp [results, Try.results20, go_sem, *]
      · have hb1 : ¬ ((caps.length : Int) < N) := by omega
        clear hlt hk
        go_wp2_with (first
          | (go_at_call 36; (with_reducible refine (hC1 _).mono ?_); rintro _ _ ⟨rfl, yK1, rfl⟩; have qK1 := I.ext yK1; have tK10 := blk_cell qK1.x (j := 0) rfl; have tK1f0 := blk_free qK1.x 0; have tK11 := blk_cell qK1.x (j := 1) rfl; have tK1f1 := blk_free qK1.x 1; have tK12 := blk_cell qK1.x (j := 2) rfl; have tK1f2 := blk_free qK1.x 2; have tK13 := blk_cell qK1.x (j := 3) rfl; have tK1f3 := blk_free qK1.x 3; have K1 := qK1.setX z1p z1n z1e; obtain ⟨Va, eVa⟩ : ∃ V, (((((wr.ext yK1).setCell ⟨w.heap.size, 0, none⟩ (.string s)).setCell ⟨w.heap.size, 1, none⟩ (.int .i64 z1p)).setCell ⟨w.heap.size, 2, none⟩ (.int .i64 z1n)).setCell ⟨w.heap.size, 3, none⟩ (.int .i64 z1e)) = V := ⟨_, rfl⟩; rw [eVa] at K1; have gK10 := blk_cell K1.x (j := 0) rfl; have gK1f0 := blk_free K1.x 0; have gK11 := blk_cell K1.x (j := 1) rfl; have gK1f1 := blk_free K1.x 1; have gK12 := blk_cell K1.x (j := 2) rfl; have gK1f2 := blk_free K1.x 2; have gK13 := blk_cell K1.x (j := 3) rfl; have gK1f3 := blk_free K1.x 3; have pK11 := blk_cell K1.p (j := 1) rfl; have pK1f1 := blk_free K1.p 1; have L1 := K1.setP 1 (.int .i64 z1n); obtain ⟨Vb, eVb⟩ : ∃ V, Va.setCell ⟨w.heap.size + 3, 1, none⟩ (.int .i64 z1n) = V := ⟨_, rfl⟩; rw [eVb] at L1; have hL10 := blk_cell L1.x (j := 0) rfl; have hL1f0 := blk_free L1.x 0; have hL11 := blk_cell L1.x (j := 1) rfl; have hL1f1 := blk_free L1.x 1; have hL12 := blk_cell L1.x (j := 2) rfl; have hL1f2 := blk_free L1.x 2; have hL13 := blk_cell L1.x (j := 3) rfl; have hL1f3 := blk_free L1.x 3)
          | (go_at_call 36; (with_reducible refine (hC2 _).mono ?_); rintro _ _ ⟨rfl, yK2, rfl⟩; have qK2 := L1.ext yK2; have tK20 := blk_cell qK2.x (j := 0) rfl; have tK2f0 := blk_free qK2.x 0; have tK21 := blk_cell qK2.x (j := 1) rfl; have tK2f1 := blk_free qK2.x 1; have tK22 := blk_cell qK2.x (j := 2) rfl; have tK2f2 := blk_free qK2.x 2; have tK23 := blk_cell qK2.x (j := 3) rfl; have tK2f3 := blk_free qK2.x 3; have K2 := qK2.setX z2p z2n z2e; obtain ⟨Vc, eVc⟩ : ∃ V, (((((Vb.ext yK2).setCell ⟨w.heap.size, 0, none⟩ (.string s)).setCell ⟨w.heap.size, 1, none⟩ (.int .i64 z2p)).setCell ⟨w.heap.size, 2, none⟩ (.int .i64 z2n)).setCell ⟨w.heap.size, 3, none⟩ (.int .i64 z2e)) = V := ⟨_, rfl⟩; rw [eVc] at K2; have gK20 := blk_cell K2.x (j := 0) rfl; have gK2f0 := blk_free K2.x 0; have gK21 := blk_cell K2.x (j := 1) rfl; have gK2f1 := blk_free K2.x 1; have gK22 := blk_cell K2.x (j := 2) rfl; have gK2f2 := blk_free K2.x 2; have gK23 := blk_cell K2.x (j := 3) rfl; have gK2f3 := blk_free K2.x 3; have pK22 := blk_cell K2.p (j := 2) rfl; have pK2f2 := blk_free K2.p 2; have L2 := K2.setP 2 (.int .i64 z2n); obtain ⟨Vd, eVd⟩ : ∃ V, Vc.setCell ⟨w.heap.size + 3, 2, none⟩ (.int .i64 z2n) = V := ⟨_, rfl⟩; rw [eVd] at L2; have hL20 := blk_cell L2.x (j := 0) rfl; have hL2f0 := blk_free L2.x 0; have hL21 := blk_cell L2.x (j := 1) rfl; have hL2f1 := blk_free L2.x 1; have hL22 := blk_cell L2.x (j := 2) rfl; have hL2f2 := blk_free L2.x 2; have hL23 := blk_cell L2.x (j := 3) rfl; have hL2f3 := blk_free L2.x 3)
          | (go_at_call 36; (with_reducible refine (hC3 _).mono ?_); rintro _ _ ⟨rfl, yK3, rfl⟩; have qK3 := L2.ext yK3; have tK30 := blk_cell qK3.x (j := 0) rfl; have tK3f0 := blk_free qK3.x 0; have tK31 := blk_cell qK3.x (j := 1) rfl; have tK3f1 := blk_free qK3.x 1; have tK32 := blk_cell qK3.x (j := 2) rfl; have tK3f2 := blk_free qK3.x 2; have tK33 := blk_cell qK3.x (j := 3) rfl; have tK3f3 := blk_free qK3.x 3; have K3 := qK3.setX z3p z3n z3e; obtain ⟨Ve, eVe⟩ : ∃ V, (((((Vd.ext yK3).setCell ⟨w.heap.size, 0, none⟩ (.string s)).setCell ⟨w.heap.size, 1, none⟩ (.int .i64 z3p)).setCell ⟨w.heap.size, 2, none⟩ (.int .i64 z3n)).setCell ⟨w.heap.size, 3, none⟩ (.int .i64 z3e)) = V := ⟨_, rfl⟩; rw [eVe] at K3; have gK30 := blk_cell K3.x (j := 0) rfl; have gK3f0 := blk_free K3.x 0; have gK31 := blk_cell K3.x (j := 1) rfl; have gK3f1 := blk_free K3.x 1; have gK32 := blk_cell K3.x (j := 2) rfl; have gK3f2 := blk_free K3.x 2; have gK33 := blk_cell K3.x (j := 3) rfl; have gK3f3 := blk_free K3.x 3; have pK33 := blk_cell K3.p (j := 3) rfl; have pK3f3 := blk_free K3.p 3; have L3 := K3.setP 3 (.int .i64 z3n); obtain ⟨Vf, eVf⟩ : ∃ V, Ve.setCell ⟨w.heap.size + 3, 3, none⟩ (.int .i64 z3n) = V := ⟨_, rfl⟩; rw [eVf] at L3; have hL30 := blk_cell L3.x (j := 0) rfl; have hL3f0 := blk_free L3.x 0; have hL31 := blk_cell L3.x (j := 1) rfl; have hL3f1 := blk_free L3.x 1; have hL32 := blk_cell L3.x (j := 2) rfl; have hL3f2 := blk_free L3.x 2; have hL33 := blk_cell L3.x (j := 3) rfl; have hL3f3 := blk_free L3.x 3)
          | (go_at_call 21; (with_reducible refine (hC4 _).mono ?_); rintro _ _ ⟨rfl, yK4, rfl⟩; have qK4 := L3.ext yK4; have tK40 := blk_cell qK4.x (j := 0) rfl; have tK4f0 := blk_free qK4.x 0; have tK41 := blk_cell qK4.x (j := 1) rfl; have tK4f1 := blk_free qK4.x 1; have tK42 := blk_cell qK4.x (j := 2) rfl; have tK4f2 := blk_free qK4.x 2; have tK43 := blk_cell qK4.x (j := 3) rfl; have tK4f3 := blk_free qK4.x 3; have K4 := qK4.setX p4 M e4; obtain ⟨Vg, eVg⟩ : ∃ V, (((((Vf.ext yK4).setCell ⟨w.heap.size, 0, none⟩ (.string s)).setCell ⟨w.heap.size, 1, none⟩ (.int .i64 p4)).setCell ⟨w.heap.size, 2, none⟩ (.int .i64 M)).setCell ⟨w.heap.size, 3, none⟩ (.int .i64 e4)) = V := ⟨_, rfl⟩; rw [eVg] at K4; have gK40 := blk_cell K4.x (j := 0) rfl; have gK4f0 := blk_free K4.x 0; have gK41 := blk_cell K4.x (j := 1) rfl; have gK4f1 := blk_free K4.x 1; have gK42 := blk_cell K4.x (j := 2) rfl; have gK4f2 := blk_free K4.x 2; have gK43 := blk_cell K4.x (j := 3) rfl; have gK4f3 := blk_free K4.x 3))
        clear hb1
        replace rowC := rowC.mono IntE.mono (K4.agree (Nat.le_refl _))
        replace K4 := K4.renew
        have O0 : RowB 2 63 SelE Vg.heap.size Vg [] [] (.slice none 0 0) := RowB.nil (Nat.le_refl _)
        have hlo2 : w.heap.size + 4 ≤ Vg.heap.size := K4.hlo
        obtain ⟨lo2, hlo⟩ : ∃ n, Vg.heap.size = n := ⟨_, rfl⟩
        rw [hlo] at K4 O0 hlo2
        have hle2 : Vg.heap.size ≤ lo2 := Nat.le_of_eq hlo
        change TInv w Vg Vg s w.heap.size (w.heap.size + 3) (w.heap.size + 4) lo2 [(w.heap.size + 1, .cells #[.slice none 0 0, .int .i64 0, .int .i64 0, .int .i64 0, .slice none 0 0, .slice none 0 0] 26 (0, 0)), (w.heap.size + 2, .cells #[.string ⟨#[]⟩, .int .i64 0, .int .i64 0, .int .i64 0] 53 (0, 0))] ⟨p4, M, e4⟩ #[.slice cA caps.length cc, .int .i64 z1n, .int .i64 z2n, .int .i64 z3n, .slice none 0 0, .slice none 0 0] at K4
        have HG4 := Lib.hid hg4
        clear hlo hg4 hC1 hC2 hC3 hC4 I L1 L2 L3 K1 K2 K3 qK1 qK2 qK3 qK4 eVa eVb eVc eVd eVe eVf eVg tK10 tK1f0 tK11 tK1f1 tK12 tK1f2 tK13 tK1f3 gK10 gK1f0 gK11 gK1f1 gK12 gK1f2 gK13 gK1f3 tK20 tK2f0 tK21 tK2f1 tK22 tK2f2 tK23 tK2f3 gK20 gK2f0 gK21 gK2f1 gK22 gK2f2 gK23 gK2f3 tK30 tK3f0 tK31 tK3f1 tK32 tK3f2 tK33 tK3f3 gK30 gK3f0 gK31 gK3f1 gK32 gK3f2 gK33 gK3f3 tK40 tK4f0 tK41 tK4f1 tK42 tK4f2 tK43 tK4f3 gK40 gK4f0 gK41 gK4f1 gK42 gK4f2 gK43 gK4f3 pK11 pK1f1 pK22 pK2f2 pK33 pK3f3 hL10 hL1f0 hL11 hL1f1 hL12 hL1f2 hL13 hL1f3 hL20 hL2f0 hL21 hL2f1 hL22 hL2f2 hL23 hL2f3 hL30 hL3f0 hL31 hL3f1 hL32 hL3f2 hL33 hL3f3 xx0 xxf0 xx1 xxf1 xx2 xxf2 xx3 xxf3
        go_loopw [7] (fun i wr => ∃ (acc : List Sel) (css : List (List Value)) (v : Value) (z : RX), acc.length ≤ M ∧ i = .int .i64 acc.length ∧ loopX (selX s) (M - acc.length) acc z = (sels, z') ∧ Good s z ∧ TInv w Vg wr s w.heap.size (w.heap.size + 3) (w.heap.size + 4) lo2 [(w.heap.size + 1, .cells #[.slice none 0 0, .int .i64 0, .int .i64 0, .int .i64 0, .slice none 0 0, .slice none 0 0] 26 (0, 0)), (w.heap.size + 2, .cells #[.string ⟨#[]⟩, .int .i64 0, .int .i64 0, .int .i64 0] 53 (0, 0))] z #[.slice cA caps.length cc, .int .i64 z1n, .int .i64 z2n, .int .i64 z3n, v, .slice none 0 0] ∧ RowB 2 63 SelE lo2 wr acc css v) (fun i _ => M - (intOf i).toNat)
        case atStart => exact ⟨[], [], _, _, Nat.zero_le _, rfl, HM.out, HG4.out, K4, O0⟩
        case round =>
          clear HM K4 HG4 O0
          obtain ⟨acc, css, v, z, hj, rfl, hI, hG, I, O⟩ := hrel
          have HI := Lib.hid hI
          clear hI
          obtain ⟨pz, nz, ez⟩ := z
          by_cases hlt : acc.length < M ∧ ez = 0
          · obtain ⟨hlt, rfl⟩ := hlt
            have hG2 := selX_good _ hG
            have hl4 := selX_len _ hG
            have HJ : Hid (loopX (selX s) (M - (acc.length + 1)) (acc ++ [(selX s ⟨pz, nz, 0⟩).1]) (selX s ⟨pz, nz, 0⟩).2 = (sels, z')) := by
              have := HI.out
              rw [show M - acc.length = (M - (acc.length + 1)) + 1 by omega, loopX_ok rfl] at this
              exact this
            clear HI
            have hX := fun W => rsel_any W hs hG (l := (selX s ⟨pz, nz, 0⟩).1.cases) (d := (selX s ⟨pz, nz, 0⟩).1.dflt) (z' := (selX s ⟨pz, nz, 0⟩).2) rfl
            generalize selX s ⟨pz, nz, 0⟩ = zz at *
            obtain ⟨⟨q, d⟩, ⟨p', n', e'⟩⟩ := zz
            simp only at hX HJ hG2 hl4
            have hvl : ∀ b, v.ownBlock = some b → b < wr.heap.size := fun b hb => (O.own.lt b hb).2
            have hlow := O.size
            have xx0 := blk_cell I.x (j := 0) rfl
            have xxf0 := blk_free I.x 0
            have xx1 := blk_cell I.x (j := 1) rfl
            have xxf1 := blk_free I.x 1
            have xx2 := blk_cell I.x (j := 2) rfl
            have xxf2 := blk_free I.x 2
            have xx3 := blk_cell I.x (j := 3) rfl
            have xxf3 := blk_free I.x 3
            go_wp2_with (first | (go_at_call 37; (with_reducible refine (hX _).mono ?_); rintro _ _ ⟨Ax, cx, rfl, hcx, hrx, y, rfl⟩; obtain ⟨E3, E5, E6, O1, hE3, hO1, i3, x3, hE5, x5, b5, hE6, i6, I6, R6, k6⟩ := I.round SelE.mono O y (.slice Ax q.length cx) (.bool d) p' n' e'; have ii0 := blk_cell i3 (j := 0) rfl; have iif0 := blk_free i3 0; have ii1 := blk_cell i3 (j := 1) rfl; have iif1 := blk_free i3 1; have ix0 := blk_cell x3 (j := 0) rfl; have ixf0 := blk_free x3 0; have ix1 := blk_cell x3 (j := 1) rfl; have ixf1 := blk_free x3 1; have ix2 := blk_cell x3 (j := 2) rfl; have ixf2 := blk_free x3 2; have ix3 := blk_cell x3 (j := 3) rfl; have ixf3 := blk_free x3 3; have xa0 := blk_cell x5 (j := 0) rfl; have xaf0 := blk_free x5 0; have xa1 := blk_cell x5 (j := 1) rfl; have xaf1 := blk_free x5 1; have xa2 := blk_cell x5 (j := 2) rfl; have xaf2 := blk_free x5 2; have xa3 := blk_cell x5 (j := 3) rfl; have xaf3 := blk_free x5 3; have xb0 := blk_cell b5 (j := 0) rfl; have xbf0 := blk_free b5 0; have xb1 := blk_cell b5 (j := 1) rfl; have xbf1 := blk_free b5 1; have xb2 := blk_cell b5 (j := 2) rfl; have xbf2 := blk_free b5 2; have xb3 := blk_cell b5 (j := 3) rfl; have xbf3 := blk_free b5 3; have xc0 := blk_cell i6 (j := 0) rfl; have xcf0 := blk_free i6 0; have xc1 := blk_cell i6 (j := 1) rfl; have xcf1 := blk_free i6 1; have xp4 := blk_cell I6.p (j := 4) rfl; have xpf4 := blk_free I6.p 4; clear i3 x3 x5 b5 i6) | (at_builtin; refine wpList_append_lies _ rfl (.tmp 71) (.tmp 73) 23 rfl lo2 63 iS _ 2 32 Try.underlying23 hi1 hy0 hy1 hy2 rfl (by omega) v acc.length _ rfl (R6.own.alloc _) ⟨E6.heap.size, 0, none⟩ 1 1 [.slice Ax q.length cx, .bool d] rfl rfl (World.news_of_block (heap_alloc_new E6 _)) (by simp [Value.oneCell']) (by omega) (by unfold maxLen; omega) (by omega) (by have := R6.size; simp; omega) (E6.heap.size + 1) (by simp) ?_; intro g cap w3 hown3 hgr3 hat3 hlt3; have hne3 : v.ownBlock ≠ some (w.heap.size + 3) := (fun e => by have := (R6.own.lt _ e).1; omega); have hb3 := blk_grown (blk_alloc I6.p _) hgr3 hne3; have hcell3 := blk_cell hb3 (j := 4) rfl; have hfree3 := blk_free hb3 4))
            have I7 := I6.grown (World.grownBy_alloc E6 (.cells #[.slice Ax q.length cx, .bool d] 63) none) (by simp)
            have I8 := (I7.grown hgr3 (fun b hb => (R6.own.lt b hb).1)).setP 4 (.slice (some ⟨g, 0, none⟩) (acc.length + 1) cap)
            have O7 := (R6.alloc SelE.mono (.cells #[.slice Ax q.length cx, .bool d] 63)).snoc SelE.mono (x := ⟨q, d⟩) (cs := [.slice Ax q.length cx, .bool d]) rfl (selE_new (w1 := wr) (w2 := E6) (x := ⟨q, d⟩) hlow hvl hcx hl4 (hrx.mono CseE.mono (fun b hb => ⟨⟨hb.1, lt_of_block (k6 b _ (Array.getElem?_eq_getElem hb.2) (by have := hb.1; omega))⟩, by rw [k6 b _ (Array.getElem?_eq_getElem hb.2) (by have := hb.1; omega)]; exact (Array.getElem?_eq_getElem hb.2).symm⟩))) hown3 hgr3 (by rcases hat3 with h | h; exact .inl h; exact .inr (by simp; omega))
            have O8 := O7.set SelE.mono (j := 0 + 4) I6.hPlo (.slice (some ⟨g, 0, none⟩) (acc.length + 1) cap)
            clear hX I I6 I7 O R6 O7 hown3 hgr3 k6
            go_roundw
            case rel => exact ⟨acc ++ [⟨q, d⟩], _, _, _, by simp; omega, by simp, by simpa using HJ.out, hG2, I8, O8⟩
            case measure => simp [intOf]; omega
          · have hE : acc = sels ∧ (⟨pz, nz, ez⟩ : RX) = z' := by
              have := HI.out
              by_cases he : ez = 0
              · rw [show M - acc.length = 0 by omega, loopX] at this
                exact ⟨congrArg Prod.fst this, congrArg Prod.snd this⟩
              · rw [loopX_no (by exact he)] at this
                exact ⟨congrArg Prod.fst this, congrArg Prod.snd this⟩
            obtain ⟨rfl, rfl⟩ := hE
            clear HI
            obtain ⟨sA, sc, hv, hsc, rowS⟩ := O.row (S := Btw (w.heap.size + 4) wr) SelE.mono (fun b h1 h2 => ⟨by omega, h2⟩)
            subst hv
            clear O
            replace rowC := rowC.mono IntE.mono (I.agree hle2)
            have r1 := (I.os (w.heap.size + 1, _) (List.mem_cons_self ..)).1
            have r2 := (I.os (w.heap.size + 2, _) (List.mem_cons_of_mem _ (List.mem_cons_self ..))).1
            simp only at r1 r2
            have hex := I.ex
            have xx0 := blk_cell I.x (j := 0) rfl
            have xxf0 := blk_free I.x 0
            have xx1 := blk_cell I.x (j := 1) rfl
            have xxf1 := blk_free I.x 1
            have xx2 := blk_cell I.x (j := 2) rfl
            have xxf2 := blk_free I.x 2
            have xx3 := blk_cell I.x (j := 3) rfl
            have xxf3 := blk_free I.x 3
            have pp0 := blk_cell I.p (j := 0) rfl
            have ppf0 := blk_free I.p 0
            have pp1 := blk_cell I.p (j := 1) rfl
            have ppf1 := blk_free I.p 1
            have pp2 := blk_cell I.p (j := 2) rfl
            have ppf2 := blk_free I.p 2
            have pp3 := blk_cell I.p (j := 3) rfl
            have ppf3 := blk_free I.p 3
            have pp4 := blk_cell I.p (j := 4) rfl
            have ppf4 := blk_free I.p 4
            have pp5 := blk_cell I.p (j := 5) rfl
            have ppf5 := blk_free I.p 5
            have ra0 := blk_cell r1 (j := 0) rfl
            have raf0 := blk_free r1 0
            have ra1 := blk_cell r1 (j := 1) rfl
            have raf1 := blk_free r1 1
            have ra2 := blk_cell r1 (j := 2) rfl
            have raf2 := blk_free r1 2
            have ra3 := blk_cell r1 (j := 3) rfl
            have raf3 := blk_free r1 3
            have ra4 := blk_cell r1 (j := 4) rfl
            have raf4 := blk_free r1 4
            have ra5 := blk_cell r1 (j := 5) rfl
            have raf5 := blk_free r1 5
            have rb0 := blk_cell r2 (j := 0) rfl
            have rbf0 := blk_free r2 0
            have rb1 := blk_cell r2 (j := 1) rfl
            have rbf1 := blk_free r2 1
            have rb2 := blk_cell r2 (j := 2) rfl
            have rbf2 := blk_free r2 2
            have rb3 := blk_cell r2 (j := 3) rfl
            have rbf3 := blk_free r2 3
            clear I r1 r2
            by_cases hk : acc.length < M
            · have he : ¬ ez = 0 := fun h => hlt ⟨hk, h⟩
              have hb1 : (ez == 0) = false := by simpa using he
              clear hlt
              go_wp2
              go_region
              all_goals
                go_wp2
                refine bodyPost_ret (v := .tuple #[.agg #[.slice cA caps.length cc, .int .i64 z1n, .int .i64 z2n, .int .i64 z3n, .slice sA acc.length sc, .slice none 0 0], .agg #[.string s, .int .i64 pz, .int .i64 nz, .int .i64 ez]]) ?_ rfl ⟨cA, sA, cc, sc, rfl, hcc, hsc, row_end IntE.mono rowC (by omega) (by (repeat (first | with_reducible exact Keeps.refl _ _ | with_reducible refine Keeps.set ?_ (by omega) _ _ | with_reducible refine Keeps.drew ?_))), row_end SelE.mono rowS (by omega) (by (repeat (first | with_reducible exact Keeps.refl _ _ | with_reducible refine Keeps.set ?_ (by omega) _ _ | with_reducible refine Keeps.drew ?_))), (by (repeat (first | with_reducible exact hex | with_reducible refine ex_set ?_ (by omega) _ _ | with_reducible refine ex_drew ?_)))⟩
                simp [results, Try.results20, go_sem, *]
            · have hk' : ¬ ((acc.length : Int) < M) := by omega
              clear hlt
              go_wp2
              go_region
              all_goals
                go_wp2
                refine bodyPost_ret (v := .tuple #[.agg #[.slice cA caps.length cc, .int .i64 z1n, .int .i64 z2n, .int .i64 z3n, .slice sA acc.length sc, .slice none 0 0], .agg #[.string s, .int .i64 pz, .int .i64 nz, .int .i64 ez]]) ?_ rfl ⟨cA, sA, cc, sc, rfl, hcc, hsc, row_end IntE.mono rowC (by omega) (by (repeat (first | with_reducible exact Keeps.refl _ _ | with_reducible refine Keeps.set ?_ (by omega) _ _ | with_reducible refine Keeps.drew ?_))), row_end SelE.mono rowS (by omega) (by (repeat (first | with_reducible exact Keeps.refl _ _ | with_reducible refine Keeps.set ?_ (by omega) _ _ | with_reducible refine Keeps.drew ?_))), (by (repeat (first | with_reducible exact hex | with_reducible refine ex_set ?_ (by omega) _ _ | with_reducible refine ex_drew ?_)))⟩
                simp [results, Try.results20, go_sem, *]
end Go.Proofs.Ytlekjobicpnafaa.Cd
