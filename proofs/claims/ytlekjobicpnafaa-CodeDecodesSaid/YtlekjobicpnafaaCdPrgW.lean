/- code's reader: prog, walked. Condition: the reader lies in a block of its own. -/
import Derived.Test.YtlekjobicpnafaaCdPrg
import Derived.Test.YtlekjobicpnafaaStepCall
namespace Go.Proofs.Ytlekjobicpnafaa.Cd
open Go Go.RowKit Base Pg
set_option linter.unusedVariables false
set_option linter.unusedSimpArgs false
attribute [local go_sem ↓] Go.wp_at_zero Go.wp_at_succ

theorem sel_some {w : World} {R : Nat} {s : ByteArray} {a : Nat} (hR : RdAt w R s a) (ha : a ≤ s.size) (hs : s.size ≤ 140737488351232) {x : Sel} {b : Nat} (h : selR s a = .ok (x, b)) :
    Calls Try.prog 33 #[.pointer (some ⟨R, 0, none⟩)] w fun r w' => ∃ v, r = .returned v ∧ (∃ A cap, v = .agg #[.slice A x.cases.length cap, .bool x.dflt] ∧ x.cases.length ≤ cap ∧ RowAt 2 CseE (Fresh w w') w' A x.cases) ∧ RdAt w' R s b ∧ w.grownBy w' (some R) :=
  (sel_any hR ha hs).mono fun r w' hp => by
    rw [h] at hp
    obtain ⟨⟨A, cap, rfl, h1, h2⟩, h3, h4⟩ := hp
    exact ⟨_, rfl, ⟨A, cap, rfl, h1, h2⟩, h3, h4⟩
theorem sel_none {w : World} {R : Nat} {s : ByteArray} {a : Nat} (hR : RdAt w R s a) (ha : a ≤ s.size) (hs : s.size ≤ 140737488351232) {e : Int} (h : selR s a = .error e) :
    Calls Try.prog 33 #[.pointer (some ⟨R, 0, none⟩)] w fun r w' => r = .panicked (failV e) ∧ w.grownBy w' (some R) :=
  (sel_any hR ha hs).mono fun r w' hp => by
    rw [h] at hp
    exact hp
theorem block_some {w : World} {R : Nat} {s : ByteArray} {a : Nat} (hR : RdAt w R s a) (ha : a ≤ s.size) (hs : s.size ≤ 140737488351232) {x : List Ins} {b : Nat} (h : blkR s a = .ok (x, b)) :
    Calls Try.prog 34 #[.pointer (some ⟨R, 0, none⟩)] w fun r w' => ∃ v, r = .returned v ∧ (∃ A cap, v = .slice A x.length cap ∧ x.length ≤ cap ∧ RowAt 3 InsE (Fresh w w') w' A x) ∧ RdAt w' R s b ∧ w.grownBy w' (some R) :=
  (block_any hR ha hs).mono fun r w' hp => by
    rw [h] at hp
    obtain ⟨⟨A, cap, rfl, h1, h2⟩, h3, h4⟩ := hp
    exact ⟨_, rfl, ⟨A, cap, rfl, h1, h2⟩, h3, h4⟩
theorem block_none {w : World} {R : Nat} {s : ByteArray} {a : Nat} (hR : RdAt w R s a) (ha : a ≤ s.size) (hs : s.size ≤ 140737488351232) {e : Int} (h : blkR s a = .error e) :
    Calls Try.prog 34 #[.pointer (some ⟨R, 0, none⟩)] w fun r w' => r = .panicked (failV e) ∧ w.grownBy w' (some R) :=
  (block_any hR ha hs).mono fun r w' hp => by
    rw [h] at hp
    exact hp

theorem RowB.owns_lt {α : Type} {k e : Nat} {E : Enc α} {lo : Nat} {w : World} {acc : List α} {css : List (List Value)} {v : Value} (h : RowB k e E lo w acc css v) : ∀ b, v.ownBlock = some b → b < w.heap.size := fun b hb => (h.own.lt b hb).2

set_option maxHeartbeats 8000000 in
theorem prog_any {w : World} {R : Nat} {s : ByteArray} (hR : RdAt w R s 0) (hs : s.size ≤ 140737488351232) {res : Except Int Prg} (hres : decF s = res) :
    Calls Try.prog 19 #[.pointer (some ⟨R, 0, none⟩)] w (PrgPost w R res) := by
  rw [decF_eq] at hres
  have hRw := hR.lt
  obtain ⟨i0, hi, hz0, hz1, hz2⟩ := info_parts Try.infoInt
  obtain ⟨i1, hi1, hy0, hy1, hy2⟩ := info_parts Try.infoS
  obtain ⟨i2, hi2, hx0, hx1, hx2⟩ := info_parts Try.infoB
  cases hm : manyR s 1 4 0 with
  | error e =>
    rw [hm, bindE_err] at hres
    subst hres
    have hM := many0_no (w := w.alloc (.cells #[.slice none 0 0, .int .i64 0, .int .i64 0, .int .i64 0, .slice none 0 0, .slice none 0 0] 26)) (blk_alloc hR _) (Nat.zero_le _) hs hm (by decide) (by decide)
    clear hm
    go_enter Try.func19, Try.ntmps19
    go_wp2_with (go_at_call 31; refine hM.mono ?_; rintro _ w1 ⟨rfl, hR1, hg1⟩)
    exact ⟨rfl, prgPost_err (grown_trans (World.grownBy_alloc w _ (some R)) hg1)⟩
  | ok xm =>
  obtain ⟨m, a1⟩ := xm
  rw [hm, bindE_ok] at hres
  obtain ⟨m0, m1, ha1⟩ := manyR_ok hm (Nat.zero_le _)
  obtain ⟨N, hN⟩ := Int.eq_ofNat_of_zero_le m0
  subst hN
  have hM := many0_ok (w := w.alloc (.cells #[.slice none 0 0, .int .i64 0, .int .i64 0, .int .i64 0, .slice none 0 0, .slice none 0 0] 26)) (blk_alloc hR _) (Nat.zero_le _) hs hm (by decide) (by decide)
  simp only [Int.ediv_one] at hM m1
  clear hm
  simp only [Int.toNat_natCast] at hres
  have HL := Lib.hid hres
  clear hres
  go_enter Try.func19, Try.ntmps19
  go_wp2_with (go_at_call 31; refine hM.mono ?_; rintro _ w1 ⟨rfl, hR1, hg1⟩)
  have hP1 : w1.heap[w.heap.size]? = some (.cells #[.slice none 0 0, .int .i64 0, .int .i64 0, .int .i64 0, .slice none 0 0, .slice none 0 0] 26 (0, 0)) := blk_grown (heap_alloc_new w _) hg1 (by simp; omega)
  have I0 : PInv w w1 w1 R s w.heap.size w1.heap.size #[.slice none 0 0, .int .i64 0, .int .i64 0, .int .i64 0, .slice none 0 0, .slice none 0 0] a1 :=
    ⟨hR1, hP1, grown_trans (World.grownBy_alloc w _ (some R)) hg1, Nat.le_refl _, fun _ _ _ _ => rfl, hRw, lt_of_block hP1, Nat.le_refl _⟩
  have O0 : RowB 1 3 IntE w1.heap.size w1 [] [] (.slice none 0 0) := RowB.nil (Nat.le_refl _)
  have hlow : w.heap.size ≤ w1.heap.size := Nat.le_of_lt I0.hP
  clear hM hR1 hg1 hP1 hR
  generalize w1.heap.size = lo at *
  obtain ⟨P, hPe⟩ : ∃ P, w.heap.size = P := ⟨_, rfl⟩
  rw [hPe] at I0
  simp only [hPe]
  have HPe := Lib.hid hPe
  clear hPe
  go_loopw [13] (fun i wr => ∃ (a' : Nat) (acc : List Int) (css : List (List Value)) (v : Value), acc.length ≤ N ∧ i = .int .i64 acc.length ∧ bindE (loopR (capR s) (N - acc.length) acc a') (fun caps a2 => dec1 s caps a2) = res ∧ a' ≤ s.size ∧ PInv w w1 wr R s P lo #[v, .int .i64 0, .int .i64 0, .int .i64 0, .slice none 0 0, .slice none 0 0] a' ∧ RowB 1 3 IntE lo wr acc css v) (fun i _ => N - (intOf i).toNat)
  case atStart => exact ⟨a1, [], [], _, Nat.zero_le _, rfl, HL.out, ha1, I0, O0⟩
  case round =>
    clear HL I0 O0
    obtain ⟨a', acc, css, v, hj, rfl, hI, ha', I, O⟩ := hrel
    have HI := Lib.hid hI
    clear hI
    by_cases hlt : acc.length < N
    · have HS : Hid (bindE (loopR (capR s) ((N - (acc.length + 1)) + 1) acc a') (fun caps a2 => dec1 s caps a2) = res) := by
        have := HI.out
        rw [show N - acc.length = (N - (acc.length + 1)) + 1 by omega] at this
        exact this
      clear HI
      cases hn : nextR s a' with
      | error e =>
        have HJ := HS.out
        rw [loopR_err (capR_err hn), bindE_err] at HJ
        subst HJ
        have hX := next_no I.drew.rd ha' hs hn
        have hgI := I.drew.grown
        have hcell := blk_cell I.p (j := 0) rfl
        clear hn HS
        go_wp2
        go_region_law (refine step_call1_ends (by rfl) 32 _ _ (by rfl) (enter_of Try.func32 (by kernel_rfl) rfl) (by rfl) hX ?_; rintro w2 ⟨hR2, hg2⟩)
        all_goals exact ⟨rfl, prgPost_err (grown_trans hgI hg2)⟩
      | ok x =>
        obtain ⟨n, b1⟩ := x
        obtain ⟨_, n0, n1, _, hb1⟩ := nextR_ok hn ha'
        have HJ : Hid (bindE (loopR (capR s) (N - (acc.length + 1)) (acc ++ [n - 1]) b1) (fun caps a2 => dec1 s caps a2) = res) := by
          have := HS.out
          rw [loopR_ok (capR_ok hn)] at this
          exact this
        have hX := next_ok I.drew.rd ha' hs hn
        clear HS hn
        have Id := I.drew
        have Od := O.kept (w' := wr.drew) IntE.mono (Nat.le_refl _) (fun _ _ _ => rfl)
        have hcell := blk_cell I.p (j := 0) rfl
        have hwr : IntKind.i64.wrap (n - 1) = n - 1 := by rw [IntKind.wrap_i64]; omega
        go_wp2
        go_region_law (first
            | (refine step_call1 (by rfl) 32 _ _ (by rfl) (enter_of Try.func32 (by kernel_rfl) rfl) (by rfl) hX ?_; rintro w2 ⟨hR2, hg2⟩; have I2 := Id.next hR2 hg2; have O2 := Od.grown IntE.mono hg2 (fun b hb => by have := I.hR; have := I.hwP; have := I.hP; simp at hb; omega); have hcell2 := blk_cell I2.p (j := 0) rfl; have hcell2a := blk_cell (blk_alloc I2.p (.cells #[.int .i64 (n - 1)] 3)) (j := 0) rfl)
            | (refine step_append_lies _ (by rfl) _ _ 22 (by rfl) lo 3 i0 _ 1 8 Try.underlying22 hi hz0 hz1 hz2 rfl (by omega) v acc.length css.flatten (by rfl) (O2.own.alloc _) ⟨w2.heap.size, 0, none⟩ 1 1 [.int .i64 (n - 1)] (by rfl) (by rfl) (World.news_of_block (heap_alloc_new w2 _)) (by simp [Value.oneCell']) (by omega) (by unfold maxLen; omega) (by omega) (by have := I2.size; simp; omega) (w2.heap.size + 1) (by simp) ?_; intro g cap w3 hown3 hgr3 hat3 hlt3; have I3 := (I2.new (World.grownBy_alloc w2 _ none) (by simp)).new hgr3 (fun b hb => ((O2.own.lt b hb).1)); have O3 := (O2.alloc IntE.mono (.cells #[.int .i64 (n - 1)] 3)).snoc IntE.mono (x := n - 1) (cs := [.int .i64 (n - 1)]) rfl rfl hown3 hgr3 (by rcases hat3 with h | h; exact .inl h; exact .inr (by simp; omega)); have hcell3 := blk_cell I3.p (j := 0) rfl; have hfree3 := blk_free I3.p 0))
        all_goals
          have I4 := I3.set 0 (.slice (some ⟨g, 0, none⟩) (acc.length + 1) cap)
          have O4 := O3.set IntE.mono (j := 0) I3.hP (.slice (some ⟨g, 0, none⟩) (acc.length + 1) cap)
          clear hX hcell hcell2 hcell2a hcell3 hfree3 I I2 I3 Id O Od O2 O3 hown3 hgr3
          go_wp2
          go_roundw
          case rel => exact ⟨b1, acc ++ [n - 1], _, _, by simp; omega, by simp, by simpa using HJ.out, hb1, I4, O4⟩
          case measure => simp [intOf]; omega
    · have hE : Hid (dec1 s acc a' = res) := by
        have := HI.out
        rw [show N - acc.length = 0 by omega] at this
        exact this
      have hlt' : ¬ ((acc.length : Int) < N) := by omega
      obtain ⟨A1, c1, rfl, hc1, row1⟩ := O.row (S := Btw lo wr) IntE.mono (fun b h1 h2 => ⟨h1, h2⟩)
      have hPlo := I.hP
      have hn1 : acc.length ≤ 4 := by omega
      have hlow2 : lo ≤ wr.heap.size := I.size
      have I1 := (I.renew).new (World.grownBy_alloc wr (.cells #[.pointer (some ⟨P, 1, none⟩), .pointer (some ⟨P, 2, none⟩), .pointer (some ⟨P, 3, none⟩)] 72) none) (by simp)
      have hQ1 := heap_alloc_new wr (.cells #[.pointer (some ⟨P, 1, none⟩), .pointer (some ⟨P, 2, none⟩), .pointer (some ⟨P, 3, none⟩)] 72)
      clear HI hj ha1 O I m0 m1
      go_wp2
      generalize hWe : wr.alloc (.cells #[.pointer (some ⟨P, 1, none⟩), .pointer (some ⟨P, 2, none⟩), .pointer (some ⟨P, 3, none⟩)] 72) = W2 at *
      clear hWe
      have hRP : R < P := by have := I1.hR; have := I1.hwP; omega
      have hPQ := I1.hP
      have hRQ : R < wr.heap.size := I1.renew.rd.lt |> fun _ => by omega
      cases hn1' : nextR s a' with
      | error e =>
        have HJ := hE.out
        unfold dec1 at HJ
        rw [hn1', bindE_err] at HJ
        subst HJ
        have hX := next_no I1.rd ha' hs hn1'
        have hc0 := blk_cell hQ1 (j := 0) rfl
        clear hn1' hE
        refine wp_loop_rounds 1 ?_
        rw [rounds_succ]
        go_wp2_with (go_at_call 32; refine hX.mono ?_; rintro _ w5 ⟨rfl, hR5, hg5⟩)
        exact ⟨rfl, prgPost_err (grown_trans I1.grown hg5)⟩
      | ok x =>
      obtain ⟨m, b1⟩ := x
      obtain ⟨_, _, _, _, hb1⟩ := nextR_ok hn1' ha'
      have hX := next_ok I1.rd ha' hs hn1'
      cases hn2 : nextR s b1 with
      | error e =>
        have HJ := hE.out
        unfold dec1 at HJ
        rw [hn1', bindE_ok, hn2, bindE_err] at HJ
        subst HJ
        have hc0 := blk_cell hQ1 (j := 0) rfl
        clear hn1' hE
        refine wp_loop_rounds 2 ?_
        rw [rounds_succ]
        go_wp2_with (go_at_call 32; refine hX.mono ?_; rintro _ w5 ⟨rfl, hR5, hg5⟩; have I5 := I1.next hR5 hg5; have hQ5 := blk_grown hQ1 hg5 (by simp; omega); have hcell5 := blk_cell I5.p (j := 1) rfl; have hfree5 := blk_free I5.p 1)
        have I6 := I5.set 1 (.int .i64 m)
        have hQ6 := blk_set_other (j := 1) hQ5 (show wr.heap.size ≠ P by omega) (.int .i64 m)
        generalize w5.setCell ⟨P, 1, none⟩ (.int .i64 m) = W6 at *
        clear hcell5 hfree5 hc0 hX
        have hc1 := blk_cell hQ6 (j := 1) rfl
        have hX := next_no I6.rd hb1 hs hn2
        rw [rounds_succ]
        go_wp2_with (go_at_call 32; refine hX.mono ?_; rintro _ w7 ⟨rfl, hR7, hg7⟩)
        exact ⟨rfl, prgPost_err (grown_trans I6.grown hg7)⟩
      | ok x =>
      obtain ⟨o, b2⟩ := x
      obtain ⟨_, _, _, _, hb2⟩ := nextR_ok hn2 hb1
      cases hn3 : nextR s b2 with
      | error e =>
        have HJ := hE.out
        unfold dec1 at HJ
        rw [hn1', bindE_ok, hn2, bindE_ok, hn3, bindE_err] at HJ
        subst HJ
        have hc0 := blk_cell hQ1 (j := 0) rfl
        clear hn1' hE
        refine wp_loop_rounds 3 ?_
        rw [rounds_succ]
        go_wp2_with (go_at_call 32; refine hX.mono ?_; rintro _ w5 ⟨rfl, hR5, hg5⟩; have I5 := I1.next hR5 hg5; have hQ5 := blk_grown hQ1 hg5 (by simp; omega); have hcell5 := blk_cell I5.p (j := 1) rfl; have hfree5 := blk_free I5.p 1)
        have I6 := I5.set 1 (.int .i64 m)
        have hQ6 := blk_set_other (j := 1) hQ5 (show wr.heap.size ≠ P by omega) (.int .i64 m)
        generalize w5.setCell ⟨P, 1, none⟩ (.int .i64 m) = W6 at *
        clear hcell5 hfree5 hc0 hX
        have hc1 := blk_cell hQ6 (j := 1) rfl
        have hX := next_ok I6.rd hb1 hs hn2
        rw [rounds_succ]
        go_wp2_with (go_at_call 32; refine hX.mono ?_; rintro _ w7 ⟨rfl, hR7, hg7⟩; have I7 := I6.next hR7 hg7; have hQ7 := blk_grown hQ6 hg7 (by simp; omega); have hcell7 := blk_cell I7.p (j := 2) rfl; have hfree7 := blk_free I7.p 2)
        have I8 := I7.set 2 (.int .i64 o)
        have hQ8 := blk_set_other (j := 2) hQ7 (show wr.heap.size ≠ P by omega) (.int .i64 o)
        generalize w7.setCell ⟨P, 2, none⟩ (.int .i64 o) = W8 at *
        clear hcell7 hfree7 hc1 hX
        have hc2 := blk_cell hQ8 (j := 2) rfl
        have hX := next_no I8.rd hb2 hs hn3
        rw [rounds_succ]
        go_wp2_with (go_at_call 32; refine hX.mono ?_; rintro _ w9 ⟨rfl, hR9, hg9⟩)
        exact ⟨rfl, prgPost_err (grown_trans I8.grown hg9)⟩
      | ok x =>
      obtain ⟨v, b3⟩ := x
      obtain ⟨_, _, _, _, hb3⟩ := nextR_ok hn3 hb2
      have HJ : Hid (dec2 s acc m o v b3 = res) := by
        have := hE.out
        unfold dec1 at this
        rw [hn1', bindE_ok, hn2, bindE_ok, hn3, bindE_ok] at this
        exact this
      have hc0 := blk_cell hQ1 (j := 0) rfl
      clear hn1' hE
      refine wp_loop_rounds 4 ?_
      rw [rounds_succ]
      go_wp2_with (go_at_call 32; refine hX.mono ?_; rintro _ w5 ⟨rfl, hR5, hg5⟩; have I5 := I1.next hR5 hg5; have hQ5 := blk_grown hQ1 hg5 (by simp; omega); have hcell5 := blk_cell I5.p (j := 1) rfl; have hfree5 := blk_free I5.p 1)
      have I6 := I5.set 1 (.int .i64 m)
      have hQ6 := blk_set_other (j := 1) hQ5 (show wr.heap.size ≠ P by omega) (.int .i64 m)
      generalize w5.setCell ⟨P, 1, none⟩ (.int .i64 m) = W6 at *
      clear hcell5 hfree5 hc0 hX I5 hQ5
      have hc1 := blk_cell hQ6 (j := 1) rfl
      have hX := next_ok I6.rd hb1 hs hn2
      clear hn2
      rw [rounds_succ]
      go_wp2_with (go_at_call 32; refine hX.mono ?_; rintro _ w7 ⟨rfl, hR7, hg7⟩; have I7 := I6.next hR7 hg7; have hQ7 := blk_grown hQ6 hg7 (by simp; omega); have hcell7 := blk_cell I7.p (j := 2) rfl; have hfree7 := blk_free I7.p 2)
      have I8 := I7.set 2 (.int .i64 o)
      have hQ8 := blk_set_other (j := 2) hQ7 (show wr.heap.size ≠ P by omega) (.int .i64 o)
      generalize w7.setCell ⟨P, 2, none⟩ (.int .i64 o) = W8 at *
      clear hcell7 hfree7 hc1 hX I6 I7 hQ7 hQ6
      have hc2 := blk_cell hQ8 (j := 2) rfl
      have hX := next_ok I8.rd hb2 hs hn3
      clear hn3
      rw [rounds_succ]
      go_wp2_with (go_at_call 32; refine hX.mono ?_; rintro _ w9 ⟨rfl, hR9, hg9⟩; have I9 := I8.next hR9 hg9; have hcell9 := blk_cell I9.p (j := 3) rfl; have hfree9 := blk_free I9.p 3)
      have I10 := I9.set 3 (.int .i64 v)
      generalize w9.setCell ⟨P, 3, none⟩ (.int .i64 v) = W10 at *
      clear hcell9 hfree9 hc2 hX I8 I9 hQ8 hQ1 I1
      have row2 := row1.mono IntE.mono (I10.agree (Nat.le_refl _) hPlo)
      have I11 := I10.renew
      have hlo2 : lo ≤ W10.heap.size := Nat.le_trans (by omega) I10.size
      clear row1 I10
      change PInv w W10 W10 R s P W10.heap.size #[.slice A1 acc.length c1, .int .i64 m, .int .i64 o, .int .i64 v, .slice none 0 0, .slice none 0 0] b3 at I11
      rw [rounds_succ]
      cases hm2 : manyR s 1 4 b3 with
      | error e =>
        have HK := HJ.out
        unfold dec2 at HK
        rw [hm2, bindE_err] at HK
        subst HK
        have hM := many0_no I11.rd hb3 hs hm2 (by decide) (by decide)
        clear hm2 HJ
        go_wp2_with (go_at_call 31; refine hM.mono ?_; rintro _ w5 ⟨rfl, hR5, hg5⟩)
        exact ⟨rfl, prgPost_err (grown_trans I11.grown hg5)⟩
      | ok xm =>
      obtain ⟨k, b4⟩ := xm
      obtain ⟨k0, k1, hb4⟩ := manyR_ok hm2 hb3
      obtain ⟨M, hM'⟩ := Int.eq_ofNat_of_zero_le k0
      subst hM'
      have hM := many0_ok I11.rd hb3 hs hm2 (by decide) (by decide)
      simp only [Int.ediv_one] at hM k1
      have HK : Hid (bindE (loopR (selR s) M [] b4) (fun sels a2 => dec3 s acc m o v sels a2) = res) := by
        have := HJ.out
        unfold dec2 at this
        rw [hm2, bindE_ok] at this
        exact this
      clear hm2 HJ
      go_wp2_with (go_at_call 31; refine hM.mono ?_; rintro _ w5 ⟨rfl, hR5, hg5⟩)
      have J0 := I11.next hR5 hg5
      have rowC := row2.mono IntE.mono (J0.agree (Nat.le_refl _) hPlo)
      have hlo3 : lo ≤ w5.heap.size := Nat.le_trans hlo2 J0.size
      replace J0 := J0.renew
      have O0 : RowB 2 63 SelE w5.heap.size w5 [] [] (.slice none 0 0) := RowB.nil (Nat.le_refl _)
      clear hM hR5 hg5 I11 row2 hlt hlt' hlo2
      obtain ⟨lo3, hl3⟩ : ∃ n, w5.heap.size = n := ⟨_, rfl⟩
      rw [hl3] at hlo3 J0 O0
      have hle3 : w5.heap.size ≤ lo3 := Nat.le_of_eq hl3
      clear hl3
      obtain ⟨v0, rfl⟩ : ∃ v0 : Int, v0 = v := ⟨_, rfl⟩
      obtain ⟨caps0, rfl⟩ : ∃ c : List Int, c = acc := ⟨_, rfl⟩
      go_loopw [44] (fun i wr => ∃ (a' : Nat) (acc : List Sel) (css : List (List Value)) (v : Value), acc.length ≤ M ∧ i = .int .i64 acc.length ∧ bindE (loopR (selR s) (M - acc.length) acc a') (fun xs a2 => dec3 s caps0 m o v0 xs a2) = res ∧ a' ≤ s.size ∧ PInv w w5 wr R s P lo3 #[.slice A1 caps0.length c1, .int .i64 m, .int .i64 o, .int .i64 v0, v, .slice none 0 0] a' ∧ RowB 2 63 SelE lo3 wr acc css v) (fun i _ => M - (intOf i).toNat)
      case atStart => exact ⟨b4, [], [], _, Nat.zero_le _, rfl, HK.out, hb4, J0, O0⟩
      case round =>
        clear HK J0 O0
        obtain ⟨a', sq, css, v', hj, rfl, hI, ha', I, O⟩ := hrel
        have HI := Lib.hid hI
        clear hI
        by_cases hlt : sq.length < M
        · have HS : Hid (bindE (loopR (selR s) ((M - (sq.length + 1)) + 1) sq a') (fun xs a2 => dec3 s caps0 m o v0 xs a2) = res) := by
            have := HI.out
            rw [show M - sq.length = (M - (sq.length + 1)) + 1 by omega] at this
            exact this
          clear HI
          cases hn : selR s a' with
          | error e =>
            have HJ := HS.out
            rw [loopR_err hn, bindE_err] at HJ
            subst HJ
            have hX := sel_none I.drew.rd ha' hs hn
            have hgI := I.drew.grown
            have hcell := blk_cell I.p (j := 4) rfl
            clear hn HS
            go_wp2
            go_region_law (refine step_call1_ends (by rfl) 33 _ _ (by rfl) (enter_of Try.func33 (by kernel_rfl) rfl) (by rfl) hX ?_; intro w2 hg2)
            all_goals exact ⟨rfl, prgPost_err (grown_trans hgI hg2)⟩
          | ok x =>
            obtain ⟨x, b1⟩ := x
            obtain ⟨hb1, hxl⟩ := selR_in s ha' hn
            have HJ : Hid (bindE (loopR (selR s) (M - (sq.length + 1)) (sq ++ [x]) b1) (fun xs a2 => dec3 s caps0 m o v0 xs a2) = res) := by
              have := HS.out
              rw [loopR_ok hn] at this
              exact this
            have hX := sel_some I.drew.rd ha' hs hn
            clear HS hn
            have Id := I.drew
            have Od := O.kept (w' := wr.drew) SelE.mono (Nat.le_refl _) (fun _ _ _ => rfl)
            have hvl := RowB.owns_lt Od
            have hcell := blk_cell I.p (j := 4) rfl
            go_wp2
            go_region_law (first
                | (refine step_call1_some (by rfl) 33 _ _ (by rfl) (enter_of Try.func33 (by kernel_rfl) rfl) (by rfl) hX ?_; rintro _ w2 ⟨⟨Ax, cx, rfl, hcx, hrx⟩, hR2, hg2⟩; have I2 := Id.next hR2 hg2; have O2 := Od.grown SelE.mono hg2 (fun b hb => by have := I.hR; have := I.hwP; have := I.hP; simp at hb; omega); have hcell2 := blk_cell I2.p (j := 4) rfl; have hcell2a := blk_cell (blk_alloc I2.p (.cells #[.slice Ax x.cases.length cx, .bool x.dflt] 63)) (j := 4) rfl)
                | (refine step_append_lies _ (by rfl) _ _ 23 (by rfl) lo3 63 i1 _ 2 32 Try.underlying23 hi1 hy0 hy1 hy2 rfl (by omega) v' sq.length css.flatten (by rfl) (O2.own.alloc _) ⟨w2.heap.size, 0, none⟩ 1 1 [.slice Ax x.cases.length cx, .bool x.dflt] (by rfl) (by rfl) (World.news_of_block (heap_alloc_new w2 _)) (by simp [Value.oneCell']) (by omega) (by unfold maxLen; omega) (by omega) (by have := I2.size; simp; omega) (w2.heap.size + 1) (by simp) ?_; intro g cap w3 hown3 hgr3 hat3 hlt3; have I3 := (I2.new (World.grownBy_alloc w2 _ none) (by simp)).new hgr3 (fun b hb => ((O2.own.lt b hb).1)); have O3 := (O2.alloc SelE.mono (.cells #[.slice Ax x.cases.length cx, .bool x.dflt] 63)).snoc SelE.mono (x := x) (cs := [.slice Ax x.cases.length cx, .bool x.dflt]) rfl (selE_new (w1 := wr.drew) Od.size hvl hcx hxl hrx) hown3 hgr3 (by rcases hat3 with h | h; exact .inl h; exact .inr (by simp; omega)); have hcell3 := blk_cell I3.p (j := 4) rfl; have hfree3 := blk_free I3.p 4))
            all_goals
              have I4 := I3.set 4 (.slice (some ⟨g, 0, none⟩) (sq.length + 1) cap)
              have O4 := O3.set SelE.mono (j := 4) I3.hP (.slice (some ⟨g, 0, none⟩) (sq.length + 1) cap)
              clear hX hcell hcell2 hcell2a hcell3 hfree3 I I2 I3 Id O Od O2 O3 hown3 hgr3
              go_wp2
              go_roundw
              case rel => exact ⟨b1, sq ++ [x], _, _, by simp; omega, by simp, by simpa using HJ.out, hb1, I4, O4⟩
              case measure => simp [intOf]; omega
        · have hE : Hid ((fun xs a2 => dec3 s caps0 m o v0 xs a2) sq a' = res) := by
            have := HI.out
            rw [show M - sq.length = 0 by omega] at this
            exact this
          have hlt' : ¬ ((sq.length : Int) < M) := by omega
          obtain ⟨A2, c2, rfl, hc2, rowS⟩ := O.row (S := Btw lo wr) SelE.mono (fun b h1 h2 => ⟨by have := hlo3; omega, h2⟩)
          obtain ⟨sels0, rfl⟩ : ∃ c : List Sel, c = sq := ⟨_, rfl⟩
          replace rowC := rowC.mono IntE.mono (I.agree hle3 hPlo)
          have I11 := I.renew
          have hlo4 : lo ≤ wr.heap.size := Nat.le_trans hlo3 I.size
          have hn2 : sels0.length ≤ 4 := by omega
          clear HI O I hj
          obtain ⟨wq, rfl⟩ : ∃ x : World, x = wr := ⟨_, rfl⟩
          obtain ⟨b5, rfl⟩ : ∃ x : Nat, x = a' := ⟨_, rfl⟩
          cases hm3 : manyR s 1 6 b5 with
          | error e =>
            have HK := hE.out
            simp only [] at HK
            unfold dec3 at HK
            rw [hm3, bindE_err] at HK
            subst HK
            have hM := many0_no I11.rd ha' hs hm3 (by decide) (by decide)
            clear hm3 hE
            go_wp2_with (go_at_call 31; refine hM.mono ?_; rintro _ w6 ⟨rfl, hR6, hg6⟩)
            exact ⟨rfl, prgPost_err (grown_trans I11.grown hg6)⟩
          | ok xm =>
          obtain ⟨k, b6⟩ := xm
          obtain ⟨k0, k2, hb6⟩ := manyR_ok hm3 ha'
          obtain ⟨M2, hM'⟩ := Int.eq_ofNat_of_zero_le k0
          subst hM'
          have hM := many0_ok I11.rd ha' hs hm3 (by decide) (by decide)
          simp only [Int.ediv_one] at hM k2
          have HK : Hid (bindE (loopR (blkR s) M2 [] b6) (fun bl a2 => dec4 s ⟨caps0, m, o, v0, sels0, bl⟩ a2) = res) := by
            have := hE.out
            simp only [] at this
            unfold dec3 at this
            rw [hm3, bindE_ok] at this
            exact this
          clear hm3 hE
          go_wp2_with (go_at_call 31; refine hM.mono ?_; rintro _ w6 ⟨rfl, hR6, hg6⟩)
          have J0 := I11.next hR6 hg6
          replace rowC := rowC.mono IntE.mono (J0.agree (Nat.le_refl _) hPlo)
          replace rowS := rowS.mono SelE.mono (J0.agree (Nat.le_refl _) hPlo)
          have hlo6 : lo ≤ w6.heap.size := Nat.le_trans hlo4 J0.size
          replace J0 := J0.renew
          have O0 : RowB 1 42 BlkE w6.heap.size w6 [] [] (.slice none 0 0) := RowB.nil (Nat.le_refl _)
          clear hM hR6 hg6 I11 hlt hlt'
          obtain ⟨lo6, hl6⟩ : ∃ n, w6.heap.size = n := ⟨_, rfl⟩
          rw [hl6] at hlo6 J0 O0
          have hle6 : w6.heap.size ≤ lo6 := Nat.le_of_eq hl6
          clear hl6
          go_loopw [60] (fun i wr => ∃ (a' : Nat) (acc : List (List Ins)) (css : List (List Value)) (v : Value), acc.length ≤ M2 ∧ i = .int .i64 acc.length ∧ bindE (loopR (blkR s) (M2 - acc.length) acc a') (fun xs a2 => dec4 s ⟨caps0, m, o, v0, sels0, xs⟩ a2) = res ∧ a' ≤ s.size ∧ PInv w w6 wr R s P lo6 #[.slice A1 caps0.length c1, .int .i64 m, .int .i64 o, .int .i64 v0, .slice A2 sels0.length c2, v] a' ∧ RowB 1 42 BlkE lo6 wr acc css v) (fun i _ => M2 - (intOf i).toNat)
          case atStart => exact ⟨b6, [], [], _, Nat.zero_le _, rfl, HK.out, hb6, J0, O0⟩
          case round =>
            clear HK J0 O0
            obtain ⟨a', sq, css, v', hj, rfl, hI, ha', I, O⟩ := hrel
            have HI := Lib.hid hI
            clear hI
            by_cases hlt : sq.length < M2
            · have HS : Hid (bindE (loopR (blkR s) ((M2 - (sq.length + 1)) + 1) sq a') (fun xs a2 => dec4 s ⟨caps0, m, o, v0, sels0, xs⟩ a2) = res) := by
                have := HI.out
                rw [show M2 - sq.length = (M2 - (sq.length + 1)) + 1 by omega] at this
                exact this
              clear HI
              cases hn : blkR s a' with
              | error e =>
                have HJ := HS.out
                rw [loopR_err hn, bindE_err] at HJ
                subst HJ
                have hX := block_none I.drew.rd ha' hs hn
                have hgI := I.drew.grown
                have hcell := blk_cell I.p (j := 5) rfl
                clear hn HS
                go_wp2
                go_region_law (refine step_call1_ends (by rfl) 34 _ _ (by rfl) (enter_of Try.func34 (by kernel_rfl) rfl) (by rfl) hX ?_; intro w2 hg2)
                all_goals exact ⟨rfl, prgPost_err (grown_trans hgI hg2)⟩
              | ok x =>
                obtain ⟨x, b1⟩ := x
                obtain ⟨hb1, hxl⟩ := blkR_in s ha' hn
                have HJ : Hid (bindE (loopR (blkR s) (M2 - (sq.length + 1)) (sq ++ [x]) b1) (fun xs a2 => dec4 s ⟨caps0, m, o, v0, sels0, xs⟩ a2) = res) := by
                  have := HS.out
                  rw [loopR_ok hn] at this
                  exact this
                have hX := block_some I.drew.rd ha' hs hn
                clear HS hn
                have Id := I.drew
                have Od := O.kept (w' := wr.drew) BlkE.mono (Nat.le_refl _) (fun _ _ _ => rfl)
                have hvl := RowB.owns_lt Od
                have hcell := blk_cell I.p (j := 5) rfl
                go_wp2
                go_region_law (first
                    | (refine step_call1_some (by rfl) 34 _ _ (by rfl) (enter_of Try.func34 (by kernel_rfl) rfl) (by rfl) hX ?_; rintro _ w2 ⟨⟨Ax, cx, rfl, hcx, hrx⟩, hR2, hg2⟩; have I2 := Id.next hR2 hg2; have O2 := Od.grown BlkE.mono hg2 (fun b hb => by have := I.hR; have := I.hwP; have := I.hP; simp at hb; omega); have hcell2 := blk_cell I2.p (j := 5) rfl; have hcell2a := blk_cell (blk_alloc I2.p (.cells #[.slice Ax x.length cx] 42)) (j := 5) rfl)
                    | (refine step_append_lies _ (by rfl) _ _ 24 (by rfl) lo6 42 i2 _ 1 24 Try.underlying24 hi2 hx0 hx1 hx2 rfl (by omega) v' sq.length css.flatten (by rfl) (O2.own.alloc _) ⟨w2.heap.size, 0, none⟩ 1 1 [.slice Ax x.length cx] (by rfl) (by rfl) (World.news_of_block (heap_alloc_new w2 _)) (by simp [Value.oneCell']) (by omega) (by unfold maxLen; omega) (by omega) (by have := I2.size; simp; omega) (w2.heap.size + 1) (by simp) ?_; intro g cap w3 hown3 hgr3 hat3 hlt3; have I3 := (I2.new (World.grownBy_alloc w2 _ none) (by simp)).new hgr3 (fun b hb => ((O2.own.lt b hb).1)); have O3 := (O2.alloc BlkE.mono (.cells #[.slice Ax x.length cx] 42)).snoc BlkE.mono (x := x) (cs := [.slice Ax x.length cx]) rfl (blkE_new (w1 := wr.drew) Od.size hvl hcx hxl hrx) hown3 hgr3 (by rcases hat3 with h | h; exact .inl h; exact .inr (by simp; omega)); have hcell3 := blk_cell I3.p (j := 5) rfl; have hfree3 := blk_free I3.p 5))
                all_goals
                  have I4 := I3.set 5 (.slice (some ⟨g, 0, none⟩) (sq.length + 1) cap)
                  have O4 := O3.set BlkE.mono (j := 5) I3.hP (.slice (some ⟨g, 0, none⟩) (sq.length + 1) cap)
                  clear hX hcell hcell2 hcell2a hcell3 hfree3 I I2 I3 Id O Od O2 O3 hown3 hgr3
                  go_wp2
                  go_roundw
                  case rel => exact ⟨b1, sq ++ [x], _, _, by simp; omega, by simp, by simpa using HJ.out, hb1, I4, O4⟩
                  case measure => simp [intOf]; omega
            · have hE : Hid ((fun xs a2 => dec4 s ⟨caps0, m, o, v0, sels0, xs⟩ a2) sq a' = res) := by
                have := HI.out
                rw [show M2 - sq.length = 0 by omega] at this
                exact this
              have hlt' : ¬ ((sq.length : Int) < M2) := by omega
              obtain ⟨A3, c3, rfl, hc3, rowN⟩ := O.row (S := Btw lo wr) BlkE.mono (fun b h1 h2 => ⟨by have := hlo6; omega, h2⟩)
              obtain ⟨bl0, rfl⟩ : ∃ c : List (List Ins), c = sq := ⟨_, rfl⟩
              replace rowC := rowC.mono IntE.mono (I.agree hle6 hPlo)
              replace rowS := rowS.mono SelE.mono (I.agree hle6 hPlo)
              have I11 := I.renew
              have hn3 : bl0.length ≤ 6 := by omega
              have hlow7 : lo ≤ wr.heap.size := Nat.le_trans hlo6 I.size
              clear HI O I hj
              have hPP : PrgAt (Old wr) wr ⟨A1, A2, A3, c1, c2, c3⟩ ⟨caps0, m, o, v0, sels0, bl0⟩ :=
                ⟨rowC.mono IntE.mono (fun b h => ⟨h.2, rfl⟩), rowS.mono SelE.mono (fun b h => ⟨h.2, rfl⟩), rowN.mono BlkE.mono (fun b h => ⟨h.2, rfl⟩), hc1, hc2, hc3, by simp only; omega, by simp only; omega, by simp only; omega⟩
              have t0 := I11.rd.text
              have t1 := I11.rd.at
              have hgI := I11.grown
              have hRt : ∀ n v, rightF ⟨caps0, m, o, v0, sels0, bl0⟩ = v → Calls Try.prog 14 #[.agg #[.slice A1 caps0.length c1, .int .i64 m, .int .i64 o, .int .i64 v0, .slice A2 sels0.length c2, .slice A3 bl0.length c3]] (wr.drewN n) fun r w' => r = .returned (.bool v) ∧ ∃ y : Ext (wr.drewN n), w' = (wr.drewN n).ext y := fun n v hv =>
                right_any (w := wr.drewN n) ⟨wr.drewN n, Below.refl _ _⟩ (p := ⟨caps0, m, o, v0, sels0, bl0⟩) (L := ⟨A1, A2, A3, c1, c2, c3⟩) (PrgAt.mono (S := Old wr) (w := wr) (S' := Old (wr.drewN n)) (w' := wr.drewN n) (fun b h => ⟨h, rfl⟩) hPP) hv
              have hPl : P < wr.heap.size := by omega
              have hPB : ∀ n (y : Ext (wr.drewN n)), ((wr.drewN n).ext y).heap[P]? = some (.cells #[.slice A1 caps0.length c1, .int .i64 m, .int .i64 o, .int .i64 v0, .slice A2 sels0.length c2, .slice A3 bl0.length c3] 26 (0, 0)) := fun n y => (World.ext_heap _ y (by exact hPl)).trans I11.p
              have f0 := blk_cell I11.p (j := 0) rfl
              have f1 := blk_cell I11.p (j := 1) rfl
              have f2 := blk_cell I11.p (j := 2) rfl
              have f3 := blk_cell I11.p (j := 3) rfl
              have f4 := blk_cell I11.p (j := 4) rfl
              have f5 := blk_cell I11.p (j := 5) rfl
              have hPB' := Lib.hid hPB
              have hPP' := Lib.hid hPP
              have rowC' := Lib.hid rowC
              have rowS' := Lib.hid rowS
              have rowN' := Lib.hid rowN
              have hwP := I11.hwP
              clear hPB hPP I11 rowC rowS rowN
              by_cases hlt2 : a' < s.size
              · have HQ : res = .error 10 := by
                  have := hE.out
                  simp only [dec4, if_pos hlt2] at this
                  exact this.symm
                subst HQ
                clear hE
                go_wp2
                go_quiet (fail)
                go_wp2_with (go_at_call 35; refine (must_no _ (e := 10) (by decide)).mono ?_; rintro _ _ ⟨rfl, rfl⟩)
                exact ⟨rfl, prgPost_err (grown_new hgI (grown_below (below_drewN (Below.refl _ _)) none) (by simp))⟩
              · cases hv : rightF ⟨caps0, m, o, v0, sels0, bl0⟩ with
                | false =>
                  have HQ : res = .error 1 := by
                    have := hE.out
                    simp only [dec4, if_neg hlt2, hv] at this
                    exact this.symm
                  subst HQ
                  have hCt := fun n => hRt n _ hv
                  clear hE hRt hv
                  go_wp2
                  go_quiet (fail)
                  go_wp2_with (first
                    | (go_at_call 14; refine (hCt _).mono ?_; rintro _ _ ⟨rfl, y, rfl⟩)
                    | (go_at_call 35; refine (must_no _ (e := 1) (by decide)).mono ?_; rintro _ _ ⟨rfl, rfl⟩))
                  exact ⟨rfl, prgPost_err (grown_new hgI (grown_below (below_drewN y.h) none) (by simp))⟩
                | true =>
                  have HQ : res = .ok ⟨caps0, m, o, v0, sels0, bl0⟩ := by
                    have := hE.out
                    simp only [dec4, if_neg hlt2, hv] at this
                    exact this.symm
                  subst HQ
                  have hCt := fun n => hRt n _ hv
                  clear hE hRt hv
                  go_wp2
                  go_quiet (fail)
                  go_wp2_with (go_at_call 14; refine (hCt _).mono ?_; rintro _ _ ⟨rfl, y, rfl⟩; have hp := hPB'.out _ y; have e0 := blk_cell hp (j := 0) rfl; have e1 := blk_cell hp (j := 1) rfl; have e2 := blk_cell hp (j := 2) rfl; have e3 := blk_cell hp (j := 3) rfl; have e4 := blk_cell hp (j := 4) rfl; have e5 := blk_cell hp (j := 5) rfl; have z0 := blk_free hp 0; have z1 := blk_free hp 1; have z2 := blk_free hp 2; have z3 := blk_free hp 3; have z4 := blk_free hp 4; have z5 := blk_free hp 5)
                  have hW := blk_set (blk_set (blk_set (blk_set (blk_set (blk_set hp 0 (.slice A1 caps0.length c1)) 1 (.int .i64 m)) 2 (.int .i64 o)) 3 (.int .i64 v0)) 4 (.slice A2 sels0.length c2)) 5 (.slice A3 bl0.length c3)
                  obtain ⟨hd1, hd2⟩ := prog_done (L := ⟨A1, A2, A3, c1, c2, c3⟩) hPlo hwP hgI (below_drewN y.h) (.slice A1 caps0.length c1) (.int .i64 m) (.int .i64 o) (.int .i64 v0) (.slice A2 sels0.length c2) (.slice A3 bl0.length c3) rowC'.out rowS'.out rowN'.out hPP'.out
                  refine bodyPost_ret (results_cell_row rfl _ _ P 26 #[.slice A1 caps0.length c1, .int .i64 m, .int .i64 o, .int .i64 v0, .slice A2 sels0.length c2, .slice A3 bl0.length c3] (0, 0) _ rfl (by simpa using hW) Try.underlying26 rfl (by kernel_rfl)) rfl ?_
                  exact ⟨⟨⟨A1, A2, A3, c1, c2, c3⟩, rfl, hd1⟩, hd2⟩
end Go.Proofs.Ytlekjobicpnafaa.Cd
