/- The document's reader: one. No condition. -/
import Derived.Test.YtlekjobicpnafaaCdRefW1
import Derived.RegionTactic
namespace Go.Proofs.Ytlekjobicpnafaa.Cd
open Go Go.RowKit Base Pg
set_option linter.unusedVariables false
set_option linter.unusedSimpArgs false

theorem three_blocks {w : World} (o1 o2 o3 : Obj) : ∃ W, ((w.alloc o1).alloc o2).alloc o3 = W ∧ (∃ y : Ext w, W = w.ext y) ∧ W.heap[w.heap.size]? = some o1 ∧ W.heap[w.heap.size + 1]? = some o2 ∧ W.heap[w.heap.size + 2]? = some o3 ∧ W.heap.size = w.heap.size + 3 := by
  refine ⟨_, rfl, ex_alloc _ (ex_alloc _ (ex_alloc _ (ex_refl w))), blk_alloc (blk_alloc (heap_alloc_new w _) _) _, ?_, ?_, by simp⟩
  · have := blk_alloc (heap_alloc_new (w.alloc o1) o2) o3
    rwa [alloc_size] at this
  · have := heap_alloc_new ((w.alloc o1).alloc o2) o3
    rwa [alloc_size, alloc_size] at this
/-- A block that a call lays: its number, and that it is new. -/
theorem lay {w W : World} (hW : ∃ y : Ext w, W = w.ext y) (cs : Array Value) (t : TypeId) {M : Nat} (hM : M < W.heap.size) :
    ∃ (W' : World) (O : Nat), W.alloc (.cells cs t) = W' ∧ W.heap.size = O ∧ M < O ∧ (∃ y : Ext w, W' = w.ext y) ∧ W'.heap[O]? = some (.cells cs t (0, 0)) ∧ (∀ (c : Nat) (o : Obj), W.heap[c]? = some o → W'.heap[c]? = some o) ∧ W'.heap.size = O + 1 :=
  ⟨_, _, rfl, rfl, hM, ex_alloc _ hW, heap_alloc_new W _, fun c o ho => blk_alloc ho _, by simp⟩
/-- Three cells of an own block are written. -/
theorem set3 {w W : World} (hW : ∃ y : Ext w, W = w.ext y) {b : Nat} (hb : w.heap.size ≤ b) {a0 a1 a2 : Value} {t : TypeId} (h : W.heap[b]? = some (.cells #[a0, a1, a2] t (0, 0))) (v0 v1 v2 : Value) :
    ∃ W', (((W.setCell ⟨b, 0, none⟩ v0).setCell ⟨b, 1, none⟩ v1).setCell ⟨b, 2, none⟩ v2) = W' ∧ (∃ y : Ext w, W' = w.ext y) ∧ W'.heap[b]? = some (.cells #[v0, v1, v2] t (0, 0)) ∧ ∀ (c : Nat) (o : Obj), c ≠ b → W.heap[c]? = some o → W'.heap[c]? = some o :=
  ⟨_, rfl, ex_set (ex_set (ex_set hW hb 0 v0) hb 1 v1) hb 2 v2, blk_set (blk_set (blk_set h 0 v0) 1 v1) 2 v2,
    fun c o hc ho => blk_set_other (blk_set_other (blk_set_other ho hc v0) hc v1) hc v2⟩
theorem set1 {w W : World} (hW : ∃ y : Ext w, W = w.ext y) {b : Nat} (hb : w.heap.size ≤ b) {cs : Array Value} {t : TypeId} (h : W.heap[b]? = some (.cells cs t (0, 0))) (j : Nat) (v : Value) :
    ∃ W', W.setCell ⟨b, j, none⟩ v = W' ∧ (∃ y : Ext w, W' = w.ext y) ∧ W'.heap[b]? = some (.cells (cs.setIfInBounds j v) t (0, 0)) ∧ (∀ (c : Nat) (o : Obj), c ≠ b → W.heap[c]? = some o → W'.heap[c]? = some o) :=
  ⟨_, rfl, ex_set hW hb j v, blk_set h j v, fun c o hc ho => blk_set_other ho hc v⟩

set_option maxHeartbeats 1000000 in
theorem rone_0 (w : World) {s : ByteArray} (hs : s.size ≤ 140737488351232) {x : RX} (hx : Good s x) {p1 : Nat} {e1 : Int} (hz : nextX s x = ⟨p1, 0, e1⟩) :
    Calls Try.prog 38 #[.agg #[.string s, .int .i64 x.pos, .int .i64 x.n, .int .i64 x.e]] w fun r w' => r = .returned (.tuple #[.agg #[.int .i64 0, .int .i64 0, .int .i64 0], .agg #[.string s, .int .i64 p1, .int .i64 0, .int .i64 e1]]) ∧ ∃ y : Ext w, w' = w.ext y := by
  have hC1 := fun W => rnext_any W hs hx
  rw [hz] at hC1
  obtain ⟨W0, hW0, hx0, b0, b1, b2, hsz0⟩ := three_blocks (w := w) (.cells #[.string s, .int .i64 x.pos, .int .i64 x.n, .int .i64 x.e] 53) (.cells #[.int .i64 0, .int .i64 0, .int .i64 0] 44) (.cells #[.string ⟨#[]⟩, .int .i64 0, .int .i64 0, .int .i64 0] 53)
  have l0 := blk_cell b0 (j := 0) rfl
  have l1 := blk_cell b0 (j := 1) rfl
  have l2 := blk_cell b0 (j := 2) rfl
  have l3 := blk_cell b0 (j := 3) rfl
  have H0 := Lib.hid b0
  have H1 := Lib.hid b1
  have H2 := Lib.hid b2
  have S0 := Lib.hid hsz0
  clear b0 b1 b2 hsz0 hz
  go_enter Try.func38, Try.ntmps38
  go_wp2_with (go_at_call 36; (with_reducible refine (hC1 _).mono ?_); rintro _ _ ⟨rfl, y1, rfl⟩; have qc0 := blk_ext H0.out y1; have qc1 := blk_ext H1.out y1; have qc2 := blk_ext H2.out y1; obtain ⟨W1, ee1, hx1, c0, hWo⟩ := set4 (w := w) (ex_ext y1 hx0) (Nat.le_refl _) qc0 (.string s) (.int .i64 p1) (.int .i64 0) (.int .i64 e1); have c1 := hWo _ _ (by omega) qc1; have c2 := hWo _ _ (by omega) qc2; have t0 := blk_cell qc0 (j := 0) rfl; have tf0 := blk_free qc0 0; have t1 := blk_cell qc0 (j := 1) rfl; have tf1 := blk_free qc0 1; have t2 := blk_cell qc0 (j := 2) rfl; have tf2 := blk_free qc0 2; have t3 := blk_cell qc0 (j := 3) rfl; have tf3 := blk_free qc0 3; clear qc1 qc2 hWo; have u0 := blk_cell c0 (j := 0) rfl; have uf0 := blk_free c0 0; have u1 := blk_cell c0 (j := 1) rfl; have uf1 := blk_free c0 1; have u2 := blk_cell c0 (j := 2) rfl; have uf2 := blk_free c0 2; have u3 := blk_cell c0 (j := 3) rfl; have uf3 := blk_free c0 3; have sz1 : w.heap.size + 2 < W1.heap.size := lt_of_block c2; obtain ⟨V0, O, ev0, hO, hlO, hxv0, o0, hold, _⟩ := lay hx1 #[.int .i64 0, .int .i64 0, .int .i64 0] 44 sz1; have s0 := blk_cell o0 (j := 0) rfl; have sf0 := blk_free o0 0; have s1 := blk_cell o0 (j := 1) rfl; have sf1 := blk_free o0 1; have s2 := blk_cell o0 (j := 2) rfl; have sf2 := blk_free o0 2; obtain ⟨V1, ev1, hxv, o1, hold1⟩ := set3 hxv0 (by omega) o0 (.int .i64 0) (.int .i64 0) (.int .i64 0); have v0 := hold1 _ _ (by omega) (hold _ _ c0); have v1 := hold1 _ _ (by omega) (hold _ _ c1); have v2 := hold1 _ _ (by omega) (hold _ _ c2); clear hold hold1; have i0 := blk_cell o1 (j := 0) rfl; have if0 := blk_free o1 0; have i1 := blk_cell o1 (j := 1) rfl; have if1 := blk_free o1 1; have i2 := blk_cell o1 (j := 2) rfl; have if2 := blk_free o1 2; have j0 := blk_cell v0 (j := 0) rfl; have jf0 := blk_free v0 0; have j1 := blk_cell v0 (j := 1) rfl; have jf1 := blk_free v0 1; have j2 := blk_cell v0 (j := 2) rfl; have jf2 := blk_free v0 2; have j3 := blk_cell v0 (j := 3) rfl; have jf3 := blk_free v0 3; have m0 := blk_cell v1 (j := 0) rfl; have mf0 := blk_free v1 0; have m1 := blk_cell v1 (j := 1) rfl; have mf1 := blk_free v1 1; have m2 := blk_cell v1 (j := 2) rfl; have mf2 := blk_free v1 2; have k0 := blk_cell v2 (j := 0) rfl; have kf0 := blk_free v2 0; have k1 := blk_cell v2 (j := 1) rfl; have kf1 := blk_free v2 1; have k2 := blk_cell v2 (j := 2) rfl; have kf2 := blk_free v2 2; have k3 := blk_cell v2 (j := 3) rfl; have kf3 := blk_free v2 3)
  go_region
  all_goals
    go_wp2
    refine bodyPost_ret (v := .tuple #[.agg #[.int .i64 0, .int .i64 0, .int .i64 0], .agg #[.string s, .int .i64 p1, .int .i64 0, .int .i64 e1]]) ?_ rfl ⟨rfl, by (repeat (first | with_reducible exact hxv | with_reducible refine ex_set ?_ (by omega) _ _ | with_reducible refine ex_drew ?_ | with_reducible refine ex_alloc _ ?_))⟩
    simp [results, Try.results38, go_sem, *]

set_option maxHeartbeats 1000000 in
theorem rone_n (w : World) {s : ByteArray} (hs : s.size ≤ 140737488351232) {x : RX} (hx : Good s x) {p1 : Nat} {n1 e1 : Int} (hz : nextX s x = ⟨p1, n1, e1⟩) (h0 : ¬ n1 = 0) (h7 : ¬ n1 = 7) {p2 : Nat} {n2 e2 : Int} (hz2 : nextX s ⟨p1, n1, e1⟩ = ⟨p2, n2, e2⟩) :
    Calls Try.prog 38 #[.agg #[.string s, .int .i64 x.pos, .int .i64 x.n, .int .i64 x.e]] w fun r w' => r = .returned (.tuple #[.agg #[.int .i64 n1, .int .i64 n2, .int .i64 0], .agg #[.string s, .int .i64 p2, .int .i64 n2, .int .i64 e2]]) ∧ ∃ y : Ext w, w' = w.ext y := by
  have hC1 := fun W => rnext_any W hs hx
  rw [hz] at hC1
  have hC2 := fun W => rnext_any W hs (x := ⟨p1, n1, e1⟩) (by have := nextX_good hx; rw [hz] at this; exact this)
  simp only at hC2
  rw [hz2] at hC2
  have k0 : (n1 == 0) = false := by simpa using h0
  have k0' : (n1 != 0) = true := by simpa using h0
  have k7 : (n1 == 7) = false := by simpa using h7
  clear hz2
  obtain ⟨W0, hW0, hx0, b0, b1, b2, hsz0⟩ := three_blocks (w := w) (.cells #[.string s, .int .i64 x.pos, .int .i64 x.n, .int .i64 x.e] 53) (.cells #[.int .i64 0, .int .i64 0, .int .i64 0] 44) (.cells #[.string ⟨#[]⟩, .int .i64 0, .int .i64 0, .int .i64 0] 53)
  have l0 := blk_cell b0 (j := 0) rfl
  have l1 := blk_cell b0 (j := 1) rfl
  have l2 := blk_cell b0 (j := 2) rfl
  have l3 := blk_cell b0 (j := 3) rfl
  have H0 := Lib.hid b0
  have H1 := Lib.hid b1
  have H2 := Lib.hid b2
  have S0 := Lib.hid hsz0
  clear b0 b1 b2 hsz0 hz
  go_enter Try.func38, Try.ntmps38
  go_wp2_with (first | (go_at_call 36; (with_reducible refine (hC1 _).mono ?_); rintro _ _ ⟨rfl, y1, rfl⟩; have qc0 := blk_ext H0.out y1; have qc1 := blk_ext H1.out y1; have qc2 := blk_ext H2.out y1; obtain ⟨W1, ee1, hx1, c0, hWo⟩ := set4 (w := w) (ex_ext y1 hx0) (Nat.le_refl _) qc0 (.string s) (.int .i64 p1) (.int .i64 n1) (.int .i64 e1); have c1 := hWo _ _ (by omega) qc1; have c2 := hWo _ _ (by omega) qc2; have t0 := blk_cell qc0 (j := 0) rfl; have tf0 := blk_free qc0 0; have t1 := blk_cell qc0 (j := 1) rfl; have tf1 := blk_free qc0 1; have t2 := blk_cell qc0 (j := 2) rfl; have tf2 := blk_free qc0 2; have t3 := blk_cell qc0 (j := 3) rfl; have tf3 := blk_free qc0 3; clear qc1 qc2 hWo; have u0 := blk_cell c0 (j := 0) rfl; have uf0 := blk_free c0 0; have u1 := blk_cell c0 (j := 1) rfl; have uf1 := blk_free c0 1; have u2 := blk_cell c0 (j := 2) rfl; have uf2 := blk_free c0 2; have u3 := blk_cell c0 (j := 3) rfl; have uf3 := blk_free c0 3; have sz1 : w.heap.size + 2 < W1.heap.size := lt_of_block c2; obtain ⟨V0, O, ev0, hO, hlO, hxv0, o0, hold, _⟩ := lay hx1 #[.int .i64 0, .int .i64 0, .int .i64 0] 44 sz1; have s0 := blk_cell o0 (j := 0) rfl; have sf0 := blk_free o0 0; have s1 := blk_cell o0 (j := 1) rfl; have sf1 := blk_free o0 1; have s2 := blk_cell o0 (j := 2) rfl; have sf2 := blk_free o0 2; obtain ⟨V1, ev1, hxv, o1, hold1⟩ := set3 hxv0 (by omega) o0 (.int .i64 n1) (.int .i64 0) (.int .i64 0); have v0 := hold1 _ _ (by omega) (hold _ _ c0); have v1 := hold1 _ _ (by omega) (hold _ _ c1); have v2 := hold1 _ _ (by omega) (hold _ _ c2); clear hold hold1; have i0 := blk_cell o1 (j := 0) rfl; have if0 := blk_free o1 0; have i1 := blk_cell o1 (j := 1) rfl; have if1 := blk_free o1 1; have i2 := blk_cell o1 (j := 2) rfl; have if2 := blk_free o1 2; have j0 := blk_cell v0 (j := 0) rfl; have jf0 := blk_free v0 0; have j1 := blk_cell v0 (j := 1) rfl; have jf1 := blk_free v0 1; have j2 := blk_cell v0 (j := 2) rfl; have jf2 := blk_free v0 2; have j3 := blk_cell v0 (j := 3) rfl; have jf3 := blk_free v0 3; have m0 := blk_cell v1 (j := 0) rfl; have mf0 := blk_free v1 0; have m1 := blk_cell v1 (j := 1) rfl; have mf1 := blk_free v1 1; have m2 := blk_cell v1 (j := 2) rfl; have mf2 := blk_free v1 2; have k0 := blk_cell v2 (j := 0) rfl; have kf0 := blk_free v2 0; have k1 := blk_cell v2 (j := 1) rfl; have kf1 := blk_free v2 1; have k2 := blk_cell v2 (j := 2) rfl; have kf2 := blk_free v2 2; have k3 := blk_cell v2 (j := 3) rfl; have kf3 := blk_free v2 3) | (go_at_call 36; (with_reducible refine (hC2 _).mono ?_); rintro _ _ ⟨rfl, y2, rfl⟩; have qc0 := blk_ext v0 y2; have qc1 := blk_ext v1 y2; have qc2 := blk_ext v2 y2; have qco := blk_ext o1 y2; obtain ⟨W2, ee2, hx2, c0, hWo⟩ := set4 (w := w) (ex_ext y2 hxv) (Nat.le_refl _) qc0 (.string s) (.int .i64 p2) (.int .i64 n2) (.int .i64 e2); have c1 := hWo _ _ (by omega) qc1; have c2 := hWo _ _ (by omega) qc2; have co := hWo _ _ (by omega) qco; have t0 := blk_cell qc0 (j := 0) rfl; have tf0 := blk_free qc0 0; have t1 := blk_cell qc0 (j := 1) rfl; have tf1 := blk_free qc0 1; have t2 := blk_cell qc0 (j := 2) rfl; have tf2 := blk_free qc0 2; have t3 := blk_cell qc0 (j := 3) rfl; have tf3 := blk_free qc0 3; clear qc1 qc2 hWo; have g0 := blk_cell c0 (j := 0) rfl; have gf0 := blk_free c0 0; have g1 := blk_cell c0 (j := 1) rfl; have gf1 := blk_free c0 1; have g2 := blk_cell c0 (j := 2) rfl; have gf2 := blk_free c0 2; have g3 := blk_cell c0 (j := 3) rfl; have gf3 := blk_free c0 3; have h0 := blk_cell co (j := 0) rfl; have hf0 := blk_free co 0; have h1 := blk_cell co (j := 1) rfl; have hf1 := blk_free co 1; have h2 := blk_cell co (j := 2) rfl; have hf2 := blk_free co 2; obtain ⟨V2, ev2, hxv2, o2, hold2⟩ := set1 hx2 (by omega) co 1 (.int .i64 n2); have v02 := hold2 _ _ (by omega) c0; have v12 := hold2 _ _ (by omega) c1; have v22 := hold2 _ _ (by omega) c2; clear hold2; change V2.heap[O]? = some (.cells #[.int .i64 n1, .int .i64 n2, .int .i64 0] 44 (0, 0)) at o2; have w0 := blk_cell o2 (j := 0) rfl; have wf0 := blk_free o2 0; have w1 := blk_cell o2 (j := 1) rfl; have wf1 := blk_free o2 1; have w2 := blk_cell o2 (j := 2) rfl; have wf2 := blk_free o2 2; have a0 := blk_cell v02 (j := 0) rfl; have af0 := blk_free v02 0; have a1 := blk_cell v02 (j := 1) rfl; have af1 := blk_free v02 1; have a2 := blk_cell v02 (j := 2) rfl; have af2 := blk_free v02 2; have a3 := blk_cell v02 (j := 3) rfl; have af3 := blk_free v02 3; have b0 := blk_cell v12 (j := 0) rfl; have bf0 := blk_free v12 0; have b1 := blk_cell v12 (j := 1) rfl; have bf1 := blk_free v12 1; have b2 := blk_cell v12 (j := 2) rfl; have bf2 := blk_free v12 2; have d0 := blk_cell v22 (j := 0) rfl; have df0 := blk_free v22 0; have d1 := blk_cell v22 (j := 1) rfl; have df1 := blk_free v22 1; have d2 := blk_cell v22 (j := 2) rfl; have df2 := blk_free v22 2; have d3 := blk_cell v22 (j := 3) rfl; have df3 := blk_free v22 3))
  go_region
  all_goals
    go_wp2
    refine bodyPost_ret (v := .tuple #[.agg #[.int .i64 n1, .int .i64 n2, .int .i64 0], .agg #[.string s, .int .i64 p2, .int .i64 n2, .int .i64 e2]]) ?_ rfl ⟨rfl, by (repeat (first | with_reducible exact hxv2 | with_reducible refine ex_set ?_ (by omega) _ _ | with_reducible refine ex_drew ?_ | with_reducible refine ex_alloc _ ?_))⟩
    simp [results, Try.results38, go_sem, *]

set_option maxHeartbeats 1000000 in
theorem rone_7 (w : World) {s : ByteArray} (hs : s.size ≤ 140737488351232) {x : RX} (hx : Good s x) {p1 : Nat} {e1 : Int} (hz : nextX s x = ⟨p1, 7, e1⟩) {p2 : Nat} {n2 e2 : Int} (hz2 : nextX s ⟨p1, 7, e1⟩ = ⟨p2, n2, e2⟩) {p3 : Nat} {n3 e3 : Int} (hz3 : nextX s ⟨p2, n2, e2⟩ = ⟨p3, n3, e3⟩) :
    Calls Try.prog 38 #[.agg #[.string s, .int .i64 x.pos, .int .i64 x.n, .int .i64 x.e]] w fun r w' => r = .returned (.tuple #[.agg #[.int .i64 7, .int .i64 n2, .int .i64 n3], .agg #[.string s, .int .i64 p3, .int .i64 n3, .int .i64 e3]]) ∧ ∃ y : Ext w, w' = w.ext y := by
  have hC1 := fun W => rnext_any W hs hx
  rw [hz] at hC1
  have hC2 := fun W => rnext_any W hs (x := ⟨p1, 7, e1⟩) (by have := nextX_good hx; rw [hz] at this; exact this)
  simp only at hC2
  rw [hz2] at hC2
  have hC3 := fun W => rnext_any W hs (x := ⟨p2, n2, e2⟩) (by have := nextX_good (nextX_good hx); rw [hz, hz2] at this; exact this)
  simp only at hC3
  rw [hz3] at hC3
  clear hz2 hz3
  obtain ⟨W0, hW0, hx0, b0, b1, b2, hsz0⟩ := three_blocks (w := w) (.cells #[.string s, .int .i64 x.pos, .int .i64 x.n, .int .i64 x.e] 53) (.cells #[.int .i64 0, .int .i64 0, .int .i64 0] 44) (.cells #[.string ⟨#[]⟩, .int .i64 0, .int .i64 0, .int .i64 0] 53)
  have l0 := blk_cell b0 (j := 0) rfl
  have l1 := blk_cell b0 (j := 1) rfl
  have l2 := blk_cell b0 (j := 2) rfl
  have l3 := blk_cell b0 (j := 3) rfl
  have H0 := Lib.hid b0
  have H1 := Lib.hid b1
  have H2 := Lib.hid b2
  have S0 := Lib.hid hsz0
  clear b0 b1 b2 hsz0 hz
  go_enter Try.func38, Try.ntmps38
  go_wp2_with (first | (go_at_call 36; (with_reducible refine (hC1 _).mono ?_); rintro _ _ ⟨rfl, y1, rfl⟩; have qc0 := blk_ext H0.out y1; have qc1 := blk_ext H1.out y1; have qc2 := blk_ext H2.out y1; obtain ⟨W1, ee1, hx1, c0, hWo⟩ := set4 (w := w) (ex_ext y1 hx0) (Nat.le_refl _) qc0 (.string s) (.int .i64 p1) (.int .i64 7) (.int .i64 e1); have c1 := hWo _ _ (by omega) qc1; have c2 := hWo _ _ (by omega) qc2; have t0 := blk_cell qc0 (j := 0) rfl; have tf0 := blk_free qc0 0; have t1 := blk_cell qc0 (j := 1) rfl; have tf1 := blk_free qc0 1; have t2 := blk_cell qc0 (j := 2) rfl; have tf2 := blk_free qc0 2; have t3 := blk_cell qc0 (j := 3) rfl; have tf3 := blk_free qc0 3; clear qc1 qc2 hWo; have u0 := blk_cell c0 (j := 0) rfl; have uf0 := blk_free c0 0; have u1 := blk_cell c0 (j := 1) rfl; have uf1 := blk_free c0 1; have u2 := blk_cell c0 (j := 2) rfl; have uf2 := blk_free c0 2; have u3 := blk_cell c0 (j := 3) rfl; have uf3 := blk_free c0 3; have sz1 : w.heap.size + 2 < W1.heap.size := lt_of_block c2; obtain ⟨V0, O, ev0, hO, hlO, hxv0, o0, hold, _⟩ := lay hx1 #[.int .i64 0, .int .i64 0, .int .i64 0] 44 sz1; have s0 := blk_cell o0 (j := 0) rfl; have sf0 := blk_free o0 0; have s1 := blk_cell o0 (j := 1) rfl; have sf1 := blk_free o0 1; have s2 := blk_cell o0 (j := 2) rfl; have sf2 := blk_free o0 2; obtain ⟨V1, ev1, hxv, o1, hold1⟩ := set3 hxv0 (by omega) o0 (.int .i64 7) (.int .i64 0) (.int .i64 0); have v0 := hold1 _ _ (by omega) (hold _ _ c0); have v1 := hold1 _ _ (by omega) (hold _ _ c1); have v2 := hold1 _ _ (by omega) (hold _ _ c2); clear hold hold1; have i0 := blk_cell o1 (j := 0) rfl; have if0 := blk_free o1 0; have i1 := blk_cell o1 (j := 1) rfl; have if1 := blk_free o1 1; have i2 := blk_cell o1 (j := 2) rfl; have if2 := blk_free o1 2; have j0 := blk_cell v0 (j := 0) rfl; have jf0 := blk_free v0 0; have j1 := blk_cell v0 (j := 1) rfl; have jf1 := blk_free v0 1; have j2 := blk_cell v0 (j := 2) rfl; have jf2 := blk_free v0 2; have j3 := blk_cell v0 (j := 3) rfl; have jf3 := blk_free v0 3; have m0 := blk_cell v1 (j := 0) rfl; have mf0 := blk_free v1 0; have m1 := blk_cell v1 (j := 1) rfl; have mf1 := blk_free v1 1; have m2 := blk_cell v1 (j := 2) rfl; have mf2 := blk_free v1 2; have k0 := blk_cell v2 (j := 0) rfl; have kf0 := blk_free v2 0; have k1 := blk_cell v2 (j := 1) rfl; have kf1 := blk_free v2 1; have k2 := blk_cell v2 (j := 2) rfl; have kf2 := blk_free v2 2; have k3 := blk_cell v2 (j := 3) rfl; have kf3 := blk_free v2 3) | (go_at_call 36; (with_reducible refine (hC2 _).mono ?_); rintro _ _ ⟨rfl, y2, rfl⟩; have qc0 := blk_ext v0 y2; have qc1 := blk_ext v1 y2; have qc2 := blk_ext v2 y2; have qco := blk_ext o1 y2; obtain ⟨W2, ee2, hx2, c0, hWo⟩ := set4 (w := w) (ex_ext y2 hxv) (Nat.le_refl _) qc0 (.string s) (.int .i64 p2) (.int .i64 n2) (.int .i64 e2); have c1 := hWo _ _ (by omega) qc1; have c2 := hWo _ _ (by omega) qc2; have co := hWo _ _ (by omega) qco; have t0 := blk_cell qc0 (j := 0) rfl; have tf0 := blk_free qc0 0; have t1 := blk_cell qc0 (j := 1) rfl; have tf1 := blk_free qc0 1; have t2 := blk_cell qc0 (j := 2) rfl; have tf2 := blk_free qc0 2; have t3 := blk_cell qc0 (j := 3) rfl; have tf3 := blk_free qc0 3; clear qc1 qc2 hWo; have g0 := blk_cell c0 (j := 0) rfl; have gf0 := blk_free c0 0; have g1 := blk_cell c0 (j := 1) rfl; have gf1 := blk_free c0 1; have g2 := blk_cell c0 (j := 2) rfl; have gf2 := blk_free c0 2; have g3 := blk_cell c0 (j := 3) rfl; have gf3 := blk_free c0 3; have h0 := blk_cell co (j := 0) rfl; have hf0 := blk_free co 0; have h1 := blk_cell co (j := 1) rfl; have hf1 := blk_free co 1; have h2 := blk_cell co (j := 2) rfl; have hf2 := blk_free co 2; obtain ⟨V2, ev2, hxv2, o2, hold2⟩ := set1 hx2 (by omega) co 1 (.int .i64 n2); have v02 := hold2 _ _ (by omega) c0; have v12 := hold2 _ _ (by omega) c1; have v22 := hold2 _ _ (by omega) c2; clear hold2; change V2.heap[O]? = some (.cells #[.int .i64 7, .int .i64 n2, .int .i64 0] 44 (0, 0)) at o2; have w0 := blk_cell o2 (j := 0) rfl; have wf0 := blk_free o2 0; have w1 := blk_cell o2 (j := 1) rfl; have wf1 := blk_free o2 1; have w2 := blk_cell o2 (j := 2) rfl; have wf2 := blk_free o2 2; have a0 := blk_cell v02 (j := 0) rfl; have af0 := blk_free v02 0; have a1 := blk_cell v02 (j := 1) rfl; have af1 := blk_free v02 1; have a2 := blk_cell v02 (j := 2) rfl; have af2 := blk_free v02 2; have a3 := blk_cell v02 (j := 3) rfl; have af3 := blk_free v02 3; have b0 := blk_cell v12 (j := 0) rfl; have bf0 := blk_free v12 0; have b1 := blk_cell v12 (j := 1) rfl; have bf1 := blk_free v12 1; have b2 := blk_cell v12 (j := 2) rfl; have bf2 := blk_free v12 2; have d0 := blk_cell v22 (j := 0) rfl; have df0 := blk_free v22 0; have d1 := blk_cell v22 (j := 1) rfl; have df1 := blk_free v22 1; have d2 := blk_cell v22 (j := 2) rfl; have df2 := blk_free v22 2; have d3 := blk_cell v22 (j := 3) rfl; have df3 := blk_free v22 3) | (go_at_call 36; (with_reducible refine (hC3 _).mono ?_); rintro _ _ ⟨rfl, y3, rfl⟩; have qc0 := blk_ext v02 y3; have qc1 := blk_ext v12 y3; have qc2 := blk_ext v22 y3; have qco := blk_ext o2 y3; obtain ⟨W3, ee3, hx3, c0, hWo⟩ := set4 (w := w) (ex_ext y3 hxv2) (Nat.le_refl _) qc0 (.string s) (.int .i64 p3) (.int .i64 n3) (.int .i64 e3); have c1 := hWo _ _ (by omega) qc1; have c2 := hWo _ _ (by omega) qc2; have co := hWo _ _ (by omega) qco; have t0 := blk_cell qc0 (j := 0) rfl; have tf0 := blk_free qc0 0; have t1 := blk_cell qc0 (j := 1) rfl; have tf1 := blk_free qc0 1; have t2 := blk_cell qc0 (j := 2) rfl; have tf2 := blk_free qc0 2; have t3 := blk_cell qc0 (j := 3) rfl; have tf3 := blk_free qc0 3; clear qc1 qc2 hWo; have gg0 := blk_cell c0 (j := 0) rfl; have ggf0 := blk_free c0 0; have gg1 := blk_cell c0 (j := 1) rfl; have ggf1 := blk_free c0 1; have gg2 := blk_cell c0 (j := 2) rfl; have ggf2 := blk_free c0 2; have gg3 := blk_cell c0 (j := 3) rfl; have ggf3 := blk_free c0 3; have hh0 := blk_cell co (j := 0) rfl; have hhf0 := blk_free co 0; have hh1 := blk_cell co (j := 1) rfl; have hhf1 := blk_free co 1; have hh2 := blk_cell co (j := 2) rfl; have hhf2 := blk_free co 2; obtain ⟨V3, ev3, hxv3, o3, hold3⟩ := set1 hx3 (by omega) co 2 (.int .i64 n3); have v03 := hold3 _ _ (by omega) c0; have v13 := hold3 _ _ (by omega) c1; have v23 := hold3 _ _ (by omega) c2; clear hold3; change V3.heap[O]? = some (.cells #[.int .i64 7, .int .i64 n2, .int .i64 n3] 44 (0, 0)) at o3; have ww0 := blk_cell o3 (j := 0) rfl; have wwf0 := blk_free o3 0; have ww1 := blk_cell o3 (j := 1) rfl; have wwf1 := blk_free o3 1; have ww2 := blk_cell o3 (j := 2) rfl; have wwf2 := blk_free o3 2; have aa0 := blk_cell v03 (j := 0) rfl; have aaf0 := blk_free v03 0; have aa1 := blk_cell v03 (j := 1) rfl; have aaf1 := blk_free v03 1; have aa2 := blk_cell v03 (j := 2) rfl; have aaf2 := blk_free v03 2; have aa3 := blk_cell v03 (j := 3) rfl; have aaf3 := blk_free v03 3; have bb0 := blk_cell v13 (j := 0) rfl; have bbf0 := blk_free v13 0; have bb1 := blk_cell v13 (j := 1) rfl; have bbf1 := blk_free v13 1; have bb2 := blk_cell v13 (j := 2) rfl; have bbf2 := blk_free v13 2; have dd0 := blk_cell v23 (j := 0) rfl; have ddf0 := blk_free v23 0; have dd1 := blk_cell v23 (j := 1) rfl; have ddf1 := blk_free v23 1; have dd2 := blk_cell v23 (j := 2) rfl; have ddf2 := blk_free v23 2; have dd3 := blk_cell v23 (j := 3) rfl; have ddf3 := blk_free v23 3))
  go_region
  all_goals
    go_wp2
    refine bodyPost_ret (v := .tuple #[.agg #[.int .i64 7, .int .i64 n2, .int .i64 n3], .agg #[.string s, .int .i64 p3, .int .i64 n3, .int .i64 e3]]) ?_ rfl ⟨rfl, by (repeat (first | with_reducible exact hxv3 | with_reducible refine ex_set ?_ (by omega) _ _ | with_reducible refine ex_drew ?_ | with_reducible refine ex_alloc _ ?_))⟩
    simp [results, Try.results38, go_sem, *]

/-- plaitref07.one. -/
theorem rone_any (w : World) {s : ByteArray} (hs : s.size ≤ 140737488351232) {x : RX} (hx : Good s x) :
    Calls Try.prog 38 #[.agg #[.string s, .int .i64 x.pos, .int .i64 x.n, .int .i64 x.e]] w fun r w' => r = .returned (.tuple #[.agg #[.int .i64 (insX s x).1.op, .int .i64 (insX s x).1.a, .int .i64 (insX s x).1.b], .agg #[.string s, .int .i64 (insX s x).2.pos, .int .i64 (insX s x).2.n, .int .i64 (insX s x).2.e]]) ∧ ∃ y : Ext w, w' = w.ext y := by
  unfold insX insA
  rcases hz : nextX s x with ⟨p1, n1, e1⟩
  simp only
  by_cases h0 : n1 = 0
  · subst h0
    simp only [show ¬ (0 : Int) = 7 by decide, if_false, if_true]
    exact rone_0 w hs hx hz
  · by_cases h7 : n1 = 7
    · subst h7
      simp only [show ¬ (7 : Int) = 0 by decide, if_false, if_true]
      rcases hz2 : nextX s ⟨p1, 7, e1⟩ with ⟨p2, n2, e2⟩
      rcases hz3 : nextX s ⟨p2, n2, e2⟩ with ⟨p3, n3, e3⟩
      exact rone_7 w hs hx hz hz2 hz3
    · simp only [if_neg h0, if_neg h7]
      rcases hz2 : nextX s ⟨p1, n1, e1⟩ with ⟨p2, n2, e2⟩
      exact rone_n w hs hx hz h0 h7 hz2
end Go.Proofs.Ytlekjobicpnafaa.Cd
