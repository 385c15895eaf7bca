/- The document's reader: next, many, one. No condition. -/
import Derived.Test.YtlekjobicpnafaaCdRef
import Derived.Deep.Cut
namespace Go.Proofs.Ytlekjobicpnafaa.Cd
open Go Go.RowKit Base Pg
set_option linter.unusedVariables false
set_option linter.unusedSimpArgs false

theorem ex_set {w w' : World} (h : ∃ x : Ext w, w' = w.ext x) {b : Nat} (hb : w.heap.size ≤ b) (j : Nat) (u : Value) : ∃ x : Ext w, w'.setCell ⟨b, j, none⟩ u = w.ext x := by
  obtain ⟨x, rfl⟩ := h
  exact Below.ex (x.h.setCell hb u)
theorem alloc_size (w : World) (o : Obj) : (w.alloc o).heap.size = w.heap.size + 1 := by simp
/-- A block in a later world. -/
theorem blk_ext {w : World} {b : Nat} {o : Obj} (h : w.heap[b]? = some o) (y : Ext w) : (w.ext y).heap[b]? = some o := (World.ext_heap w y (lt_of_block h)).trans h

/-- Four cells of an own block are written. -/
theorem set4 {w W : World} (hW : ∃ y : Ext w, W = w.ext y) {b : Nat} (hb : w.heap.size ≤ b) {a0 a1 a2 a3 : Value} {t : TypeId} (h : W.heap[b]? = some (.cells #[a0, a1, a2, a3] t (0, 0))) (v0 v1 v2 v3 : Value) :
    ∃ W', ((((W.setCell ⟨b, 0, none⟩ v0).setCell ⟨b, 1, none⟩ v1).setCell ⟨b, 2, none⟩ v2).setCell ⟨b, 3, none⟩ v3) = W' ∧ (∃ y : Ext w, W' = w.ext y) ∧ W'.heap[b]? = some (.cells #[v0, v1, v2, v3] t (0, 0)) ∧ ∀ c o, c ≠ b → W.heap[c]? = some o → W'.heap[c]? = some o :=
  ⟨_, rfl, ex_set (ex_set (ex_set (ex_set hW hb 0 v0) hb 1 v1) hb 2 v2) hb 3 v3, blk_set (blk_set (blk_set (blk_set h 0 v0) 1 v1) 2 v2) 3 v3,
    fun c o hc ho => blk_set_other (blk_set_other (blk_set_other (blk_set_other ho hc v0) hc v1) hc v2) hc v3⟩

set_option maxHeartbeats 1000000 in
theorem rnext_any (w : World) {s : ByteArray} (hs : s.size ≤ 140737488351232) {x : RX} (hx : Good s x) :
    Calls Try.prog 36 #[.agg #[.string s, .int .i64 x.pos, .int .i64 x.n, .int .i64 x.e]] w fun r w' => r = .returned (.agg #[.string s, .int .i64 (nextX s x).pos, .int .i64 (nextX s x).n, .int .i64 (nextX s x).e]) ∧ ∃ y : Ext w, w' = w.ext y := by
  obtain ⟨p, n, e⟩ := x
  have hp := hx.pos
  simp only at hp ⊢
  by_cases h : e = 0
  · subst h
    cases hn : nextR s p with
    | error e' =>
      rw [nextX_err rfl hn]
      obtain ⟨hg, he, _⟩ := nextR_err hn
      have hG := fun w => rget_any w s p hp hs hg
      have hb : (e' == 0) = false := by simpa using he
      clear hn hg
      go_enter Try.func36, Try.ntmps36
      go_wp2_with (go_at_call 50; refine (hG _).mono ?_; rintro _ _ ⟨rfl, rfl⟩)
      exact bodyPost_ret (v := .agg #[.string s, .int .i64 p, .int .i64 0, .int .i64 e']) (by simp [results, Try.results36, go_sem]) rfl ⟨rfl, ex_alloc _ (ex_alloc _ (ex_refl w))⟩
    | ok y =>
      obtain ⟨m, b⟩ := y
      rw [nextX_ok rfl hn]
      obtain ⟨hg, _⟩ := nextR_ok hn hp
      have hG := fun w => rget_any w s p hp hs hg
      clear hn hg
      go_enter Try.func36, Try.ntmps36
      go_wp2_with (go_at_call 50; refine (hG _).mono ?_; rintro _ _ ⟨rfl, rfl⟩)
      exact bodyPost_ret (v := .agg #[.string s, .int .i64 b, .int .i64 m, .int .i64 0]) (by simp [results, Try.results36, go_sem]) rfl ⟨rfl, ex_alloc _ (ex_alloc _ (ex_refl w))⟩
  · rw [nextX_no h]
    go_enter Try.func36, Try.ntmps36
    go_wp2
    exact bodyPost_ret (v := .agg #[.string s, .int .i64 p, .int .i64 n, .int .i64 e]) (by simp [results, Try.results36, go_sem]) rfl ⟨rfl, ex_alloc _ (ex_alloc _ (ex_refl w))⟩

theorem manyX_ok {s : ByteArray} {k most : Int} {x : RX} (h : ((nextX s x).e == 0) = true) (h1 : ¬ most < (nextX s x).n / k) : manyX s k most x = nextX s x := by
  unfold manyX; rw [if_neg (fun hh => h1 hh.2)]
theorem manyX_big {s : ByteArray} {k most : Int} {x : RX} (h : ((nextX s x).e == 0) = true) (h1 : most < (nextX s x).n / k) : manyX s k most x = ⟨(nextX s x).pos, (nextX s x).n, 2⟩ := by
  unfold manyX; rw [if_pos ⟨by simpa using h, h1⟩]
theorem manyX_err {s : ByteArray} {k most : Int} {x : RX} (h : ((nextX s x).e == 0) = false) : manyX s k most x = nextX s x := by
  unfold manyX; rw [if_neg (fun hh => by rw [hh.1] at h; simp at h)]

set_option maxHeartbeats 2000000 in
theorem rmany_any (w : World) {s : ByteArray} (hs : s.size ≤ 140737488351232) {x : RX} (hx : Good s x) {k most : Int} (hk : k = 1 ∨ k = 2) (hm0 : 0 ≤ most) (hm1 : most ≤ 100) :
    Calls Try.prog 21 #[.agg #[.string s, .int .i64 x.pos, .int .i64 x.n, .int .i64 x.e], .int .i64 k, .int .i64 most] w fun r w' => r = .returned (.agg #[.string s, .int .i64 (manyX s k most x).pos, .int .i64 (manyX s k most x).n, .int .i64 (manyX s k most x).e]) ∧ ∃ y : Ext w, w' = w.ext y := by
  have hC := rnext_any ((w.alloc (.cells #[.string s, .int .i64 x.pos, .int .i64 x.n, .int .i64 x.e] 53)).alloc (.cells #[.string ⟨#[]⟩, .int .i64 0, .int .i64 0, .int .i64 0] 53)) hs hx
  have hg := nextX_good hx
  have h0 := hg.n0
  have h1 := hg.n1
  have hB0 := blk_alloc (heap_alloc_new w (.cells #[.string s, .int .i64 x.pos, .int .i64 x.n, .int .i64 x.e] 53)) (.cells #[.string ⟨#[]⟩, .int .i64 0, .int .i64 0, .int .i64 0] 53)
  have hB1 := heap_alloc_new (w.alloc (.cells #[.string s, .int .i64 x.pos, .int .i64 x.n, .int .i64 x.e] 53)) (.cells #[.string ⟨#[]⟩, .int .i64 0, .int .i64 0, .int .i64 0] 53)
  rw [alloc_size] at hB1
  have H0 := Lib.hid hB0
  have H1 := Lib.hid hB1
  clear hB0 hB1
  cases hq : ((nextX s x).e == 0) with
  | false =>
    rw [manyX_err hq]
    generalize nextX s x = z at *
    obtain ⟨zp, zn, ze⟩ := z
    simp only at hq h0 h1 hC ⊢
    clear hg
    go_enter Try.func21, Try.ntmps21
    go_upto_region 2 with (go_at_call 36; refine hC.mono ?_; rintro _ _ ⟨rfl, y, rfl⟩; have hb := blk_ext H0.out y; have t0 := blk_cell hb (j := 0) rfl; have t1 := blk_cell hb (j := 1) rfl; have t2 := blk_cell hb (j := 2) rfl; have t3 := blk_cell hb (j := 3) rfl; have f0 := blk_free hb 0; have f1 := blk_free hb 1; have f2 := blk_free hb 2; have f3 := blk_free hb 3)
    obtain ⟨W, hWe, hWx, hWb, hWo⟩ := set4 (w := w) (ex_ext y (ex_alloc _ (ex_alloc _ (ex_refl w)))) (Nat.le_refl _) hb (.string s) (.int .i64 zp) (.int .i64 zn) (.int .i64 ze)
    rw [hWe]
    have hr := hWo _ _ (by omega) (blk_ext H1.out y)
    clear hWe hWo hb t0 t1 t2 t3 f0 f1 f2 f3
    have t0 := blk_cell hWb (j := 0) rfl
    have t1 := blk_cell hWb (j := 1) rfl
    have t2 := blk_cell hWb (j := 2) rfl
    have t3 := blk_cell hWb (j := 3) rfl
    have f3 := blk_free hWb 3
    have u0 := blk_cell hr (j := 0) rfl
    have u1 := blk_cell hr (j := 1) rfl
    have u2 := blk_cell hr (j := 2) rfl
    have u3 := blk_cell hr (j := 3) rfl
    have g0 := blk_free hr 0
    have g1 := blk_free hr 1
    have g2 := blk_free hr 2
    have g3 := blk_free hr 3
    go_wp2
    exact bodyPost_ret (v := .agg #[.string s, .int .i64 zp, .int .i64 zn, .int .i64 ze]) (by simp [results, Try.results21, go_sem, t0, t1, t2, t3, u0, u1, u2, u3]) rfl ⟨rfl, by (repeat (first | with_reducible exact hWx | with_reducible refine ex_set ?_ (by omega) _ _))⟩
  | true =>
    have hq0 : (nextX s x).e = 0 := by simpa using hq
    by_cases hb : most < (nextX s x).n / k
    · rw [manyX_big hq hb]
      generalize nextX s x = z at *
      obtain ⟨zp, zn, ze⟩ := z
      simp only at hq0 hb h0 h1 hC
      subst hq0
      clear hq hg
      have hb' : most < zn / k := hb
      clear hb
      rcases hk with rfl | rfl
      all_goals
        try simp only [Int.ediv_one] at hb'
        go_enter Try.func21, Try.ntmps21
        go_upto_region 2 with (go_at_call 36; refine hC.mono ?_; rintro _ _ ⟨rfl, y, rfl⟩; have hb := blk_ext H0.out y; have t0 := blk_cell hb (j := 0) rfl; have t1 := blk_cell hb (j := 1) rfl; have t2 := blk_cell hb (j := 2) rfl; have t3 := blk_cell hb (j := 3) rfl; have f0 := blk_free hb 0; have f1 := blk_free hb 1; have f2 := blk_free hb 2; have f3 := blk_free hb 3)
        obtain ⟨W, hWe, hWx, hWb, hWo⟩ := set4 (w := w) (ex_ext y (ex_alloc _ (ex_alloc _ (ex_refl w)))) (Nat.le_refl _) hb (.string s) (.int .i64 zp) (.int .i64 zn) (.int .i64 0)
        rw [hWe]
        have hr := hWo _ _ (by omega) (blk_ext H1.out y)
        clear hWe hWo hb t0 t1 t2 t3 f0 f1 f2 f3
        have t0 := blk_cell hWb (j := 0) rfl
        have t1 := blk_cell hWb (j := 1) rfl
        have t2 := blk_cell hWb (j := 2) rfl
        have t3 := blk_cell hWb (j := 3) rfl
        have f3 := blk_free hWb 3
        have u0 := blk_cell hr (j := 0) rfl
        have u1 := blk_cell hr (j := 1) rfl
        have u2 := blk_cell hr (j := 2) rfl
        have u3 := blk_cell hr (j := 3) rfl
        have g0 := blk_free hr 0
        have g1 := blk_free hr 1
        have g2 := blk_free hr 2
        have g3 := blk_free hr 3
        go_wp2
        exact bodyPost_ret (v := .agg #[.string s, .int .i64 zp, .int .i64 zn, .int .i64 2]) (by simp [results, Try.results21, go_sem, t0, t1, t2, t3, u0, u1, u2, u3]) rfl ⟨rfl, by (repeat (first | with_reducible exact hWx | with_reducible refine ex_set ?_ (by omega) _ _))⟩
    · rw [manyX_ok hq hb]
      generalize nextX s x = z at *
      obtain ⟨zp, zn, ze⟩ := z
      simp only at hq0 hb h0 h1 hC
      subst hq0
      clear hq hg
      have hb' : ¬ most < zn / k := hb
      clear hb
      rcases hk with rfl | rfl
      all_goals
        try simp only [Int.ediv_one] at hb'
        go_enter Try.func21, Try.ntmps21
        go_upto_region 2 with (go_at_call 36; refine hC.mono ?_; rintro _ _ ⟨rfl, y, rfl⟩; have hb := blk_ext H0.out y; have t0 := blk_cell hb (j := 0) rfl; have t1 := blk_cell hb (j := 1) rfl; have t2 := blk_cell hb (j := 2) rfl; have t3 := blk_cell hb (j := 3) rfl; have f0 := blk_free hb 0; have f1 := blk_free hb 1; have f2 := blk_free hb 2; have f3 := blk_free hb 3)
        obtain ⟨W, hWe, hWx, hWb, hWo⟩ := set4 (w := w) (ex_ext y (ex_alloc _ (ex_alloc _ (ex_refl w)))) (Nat.le_refl _) hb (.string s) (.int .i64 zp) (.int .i64 zn) (.int .i64 0)
        rw [hWe]
        have hr := hWo _ _ (by omega) (blk_ext H1.out y)
        clear hWe hWo hb t0 t1 t2 t3 f0 f1 f2 f3
        have t0 := blk_cell hWb (j := 0) rfl
        have t1 := blk_cell hWb (j := 1) rfl
        have t2 := blk_cell hWb (j := 2) rfl
        have t3 := blk_cell hWb (j := 3) rfl
        have f3 := blk_free hWb 3
        have u0 := blk_cell hr (j := 0) rfl
        have u1 := blk_cell hr (j := 1) rfl
        have u2 := blk_cell hr (j := 2) rfl
        have u3 := blk_cell hr (j := 3) rfl
        have g0 := blk_free hr 0
        have g1 := blk_free hr 1
        have g2 := blk_free hr 2
        have g3 := blk_free hr 3
        go_wp2
        exact bodyPost_ret (v := .agg #[.string s, .int .i64 zp, .int .i64 zn, .int .i64 0]) (by simp [results, Try.results21, go_sem, t0, t1, t2, t3, u0, u1, u2, u3]) rfl ⟨rfl, by (repeat (first | with_reducible exact hWx | with_reducible refine ex_set ?_ (by omega) _ _))⟩
end Go.Proofs.Ytlekjobicpnafaa.Cd
