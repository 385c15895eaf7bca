/- code.Decode: the program of a text, walked. No condition. -/
import Derived.Test.YtlekjobicpnafaaCdDecode
import Derived.Defers
import Derived.Recover
import Derived.RegionTactic
import Derived.Laws.Entries
import Derived.WalkSpells
namespace Go.Proofs.Ytlekjobicpnafaa.Cd
open Go Go.RowKit Base Pg
set_option linter.unusedVariables false
set_option linter.unusedSimpArgs false

theorem dec_done {w w1 : World} {N : Nat} (hN : w.heap.size + 1 < N) (hg : w.grownBy w1 none) (u0 u1 u2 u3 u4 u5 u6 : Value) {p : Prg} {L : PL} (hp : PrgAt (fun b => N ≤ b ∧ b < w1.heap.size) w1 L p) :
    PrgAt (Fresh w (((((((w1.setCell ⟨w.heap.size, 0, none⟩ u0).setCell ⟨w.heap.size, 1, none⟩ u1).setCell ⟨w.heap.size, 2, none⟩ u2).setCell ⟨w.heap.size, 3, none⟩ u3).setCell ⟨w.heap.size, 4, none⟩ u4).setCell ⟨w.heap.size, 5, none⟩ u5).setCell ⟨w.heap.size + 1, 0, none⟩ u6)) (((((((w1.setCell ⟨w.heap.size, 0, none⟩ u0).setCell ⟨w.heap.size, 1, none⟩ u1).setCell ⟨w.heap.size, 2, none⟩ u2).setCell ⟨w.heap.size, 3, none⟩ u3).setCell ⟨w.heap.size, 4, none⟩ u4).setCell ⟨w.heap.size, 5, none⟩ u5).setCell ⟨w.heap.size + 1, 0, none⟩ u6) L p ∧
    w.grownBy (((((((w1.setCell ⟨w.heap.size, 0, none⟩ u0).setCell ⟨w.heap.size, 1, none⟩ u1).setCell ⟨w.heap.size, 2, none⟩ u2).setCell ⟨w.heap.size, 3, none⟩ u3).setCell ⟨w.heap.size, 4, none⟩ u4).setCell ⟨w.heap.size, 5, none⟩ u5).setCell ⟨w.heap.size + 1, 0, none⟩ u6) none := by
  have gn : ∀ (W : World) (b j : Nat) (u : Value), w.heap.size ≤ b → w.grownBy W none → w.grownBy (W.setCell ⟨b, j, none⟩ u) none := fun W b j u hb h => grown_new h (grown_setCell W _ u) (fun k hk => by simp at hk; omega)
  have g6 := gn _ (w.heap.size + 1) 0 u6 (by omega) (gn _ w.heap.size 5 u5 (Nat.le_refl _) (gn _ w.heap.size 4 u4 (Nat.le_refl _) (gn _ w.heap.size 3 u3 (Nat.le_refl _) (gn _ w.heap.size 2 u2 (Nat.le_refl _) (gn _ w.heap.size 1 u1 (Nat.le_refl _) (gn _ w.heap.size 0 u0 (Nat.le_refl _) hg))))))
  have h0 : ∀ b, (N ≤ b ∧ b < w1.heap.size) → w.heap.size ≤ b ∧ b < w1.heap.size ∧ w1.heap[b]? = w1.heap[b]? := fun b h => ⟨by omega, h.2, rfl⟩
  have hS : ¬ (N ≤ w.heap.size ∧ w.heap.size < w1.heap.size) := fun h => by omega
  have hS1 : ¬ (N ≤ w.heap.size + 1 ∧ w.heap.size + 1 < w1.heap.size) := fun h => by omega
  have h6 := agree_set (S := fun b => N ≤ b ∧ b < w1.heap.size) hS1 (agree_set (S := fun b => N ≤ b ∧ b < w1.heap.size) hS (agree_set (S := fun b => N ≤ b ∧ b < w1.heap.size) hS (agree_set (S := fun b => N ≤ b ∧ b < w1.heap.size) hS (agree_set (S := fun b => N ≤ b ∧ b < w1.heap.size) hS (agree_set (S := fun b => N ≤ b ∧ b < w1.heap.size) hS (agree_set (S := fun b => N ≤ b ∧ b < w1.heap.size) hS h0 0 u0) 1 u1) 2 u2) 3 u3) 4 u4) 5 u5) 0 u6
  refine ⟨?_, g6⟩
  generalize ((((((w1.setCell ⟨w.heap.size, 0, none⟩ u0).setCell ⟨w.heap.size, 1, none⟩ u1).setCell ⟨w.heap.size, 2, none⟩ u2).setCell ⟨w.heap.size, 3, none⟩ u3).setCell ⟨w.heap.size, 4, none⟩ u4).setCell ⟨w.heap.size, 5, none⟩ u5).setCell ⟨w.heap.size + 1, 0, none⟩ u6 = W at *
  exact hp.mono (fun b h => ⟨⟨(h6 b h).1, (h6 b h).2.1⟩, (h6 b h).2.2⟩)

set_option maxHeartbeats 1000000 in
theorem decode_any (w : World) {s : ByteArray} (hs : s.size ≤ 140737488351232) {res : Except Int Prg} (hres : decF s = res) : Calls Try.prog 8 #[.string s] w (DecPost w res) := by
  have hmf : ∀ (fn : Fn) (first cap : Array Value) (w : World), (Instr.makeFunc fn first cap).run Try.prog w = .ok (.func fn first cap) w := fun _ _ _ _ => rfl
  have hR : RdAt (((w.alloc (.cells #[.slice none 0 0, .int .i64 0, .int .i64 0, .int .i64 0, .slice none 0 0, .slice none 0 0] 26)).alloc (.cells #[.int .i64 0] 27)).alloc (.cells #[.string s, .int .i64 0] 50)) (w.heap.size + 2) s 0 := by
    have := heap_alloc_new ((w.alloc (.cells #[.slice none 0 0, .int .i64 0, .int .i64 0, .int .i64 0, .slice none 0 0, .slice none 0 0] 26)).alloc (.cells #[.int .i64 0] 27)) (.cells #[.string s, .int .i64 0] 50)
    simpa [RdAt] using this
  have hP0 : (((w.alloc (.cells #[.slice none 0 0, .int .i64 0, .int .i64 0, .int .i64 0, .slice none 0 0, .slice none 0 0] 26)).alloc (.cells #[.int .i64 0] 27)).alloc (.cells #[.string s, .int .i64 0] 50)).heap[w.heap.size]? = some (.cells #[.slice none 0 0, .int .i64 0, .int .i64 0, .int .i64 0, .slice none 0 0, .slice none 0 0] 26 (0, 0)) := blk_alloc (blk_alloc (heap_alloc_new w _) _) _
  have hB0 : (((w.alloc (.cells #[.slice none 0 0, .int .i64 0, .int .i64 0, .int .i64 0, .slice none 0 0, .slice none 0 0] 26)).alloc (.cells #[.int .i64 0] 27)).alloc (.cells #[.string s, .int .i64 0] 50)).heap[w.heap.size + 1]? = some (.cells #[.int .i64 0] 27 (0, 0)) := by
    have := blk_alloc (heap_alloc_new (w.alloc (.cells #[.slice none 0 0, .int .i64 0, .int .i64 0, .int .i64 0, .slice none 0 0, .slice none 0 0] 26)) (.cells #[.int .i64 0] 27)) (.cells #[.string s, .int .i64 0] 50)
    simpa using this
  have hG0 : w.grownBy (((w.alloc (.cells #[.slice none 0 0, .int .i64 0, .int .i64 0, .int .i64 0, .slice none 0 0, .slice none 0 0] 26)).alloc (.cells #[.int .i64 0] 27)).alloc (.cells #[.string s, .int .i64 0] 50)) none :=
    grown_new (grown_new (World.grownBy_alloc w _ none) (World.grownBy_alloc _ _ none) (by simp)) (World.grownBy_alloc _ _ none) (by simp)
  have hBl : ∀ {w' : World}, w.grownBy w' none → ∃ y : Ext w, w' = w.ext y := fun h => Below.ex ⟨h.os, h.tape, h.output, h.size, fun b hb => h.block b hb (by simp)⟩
  have H0 := Lib.hid hP0
  have H1 := Lib.hid hB0
  clear hP0 hB0
  cases hd : decF s with
  | error e =>
    rw [hd] at hres
    subst hres
    have hX := prog_err hR hs hd
    clear hd hR
    go_enter_defers Try.func8, Try.ntmps8
    go_wp2_with (go_at_call 19; refine hX.mono ?_; rintro _ w1 ⟨rfl, hg1⟩)
    have hP1 := blk_grown H0.out hg1 (by simp)
    have hB1 := blk_grown H1.out hg1 (by simp)
    have hG1 : w.grownBy w1 none := grown_new hG0 hg1 (by simp)
    refine leaves_cons (f := 18) (args := #[.pointer (some ⟨w.heap.size, 0, none⟩), .pointer (some ⟨w.heap.size + 1, 0, none⟩)]) (by simp) (by simp [go_sem]) ?_
    refine (catch_panicking w.heap.size (w.heap.size + 1) e w1 hP1 hB1 (by omega)).mono ?_
    rintro r u' w2 ⟨rfl, rfl, hP2, hB2, hG2⟩
    have p0 : w2.cell? ⟨w.heap.size, 0, none⟩ = some (.slice none 0 0) := blk_cell hP2 (j := 0) rfl
    have p1 : w2.cell? ⟨w.heap.size, 1, none⟩ = some (.int .i64 0) := blk_cell hP2 (j := 1) rfl
    have p2 : w2.cell? ⟨w.heap.size, 2, none⟩ = some (.int .i64 0) := blk_cell hP2 (j := 2) rfl
    have p3 : w2.cell? ⟨w.heap.size, 3, none⟩ = some (.int .i64 0) := blk_cell hP2 (j := 3) rfl
    have p4 : w2.cell? ⟨w.heap.size, 4, none⟩ = some (.slice none 0 0) := blk_cell hP2 (j := 4) rfl
    have p5 : w2.cell? ⟨w.heap.size, 5, none⟩ = some (.slice none 0 0) := blk_cell hP2 (j := 5) rfl
    have b0 : w2.cell? ⟨w.heap.size + 1, 0, none⟩ = some (.int .i64 e) := blk_cell hB2 (j := 0) rfl
    have hE : DecPost w (.error e) (.returned (.tuple #[.agg #[.slice none 0 0, .int .i64 0, .int .i64 0, .int .i64 0, .slice none 0 0, .slice none 0 0], .int .i64 e])) w2 := ⟨hBl (hG2 w hG1 (Nat.le_refl _) (by omega)), rfl⟩
    simp [Leaves, settle, results, Try.results8, go_sem, p0, p1, p2, p3, p4, p5, b0]
    exact hE
  | ok p =>
    rw [hd] at hres
    subst hres
    have hX := prog_ok hR hs hd
    clear hd hR
    go_enter_defers Try.func8, Try.ntmps8
    go_wp2_with (go_at_call 19; refine hX.mono ?_; rintro _ w1 ⟨cA, sA, bA, cc, sc, bc, rfl, hp1, hg1⟩; have hP1 := blk_grown H0.out hg1 (by simp); have hB1 := blk_grown H1.out hg1 (by simp); have hG1 : w.grownBy w1 none := grown_new hG0 hg1 (by simp); have p0 := blk_cell hP1 (j := 0) rfl; have p1 := blk_cell hP1 (j := 1) rfl; have p2 := blk_cell hP1 (j := 2) rfl; have p3 := blk_cell hP1 (j := 3) rfl; have p4 := blk_cell hP1 (j := 4) rfl; have p5 := blk_cell hP1 (j := 5) rfl; have q0 := blk_free hP1 0; have q1 := blk_free hP1 1; have q2 := blk_free hP1 2; have q3 := blk_free hP1 3; have q4 := blk_free hP1 4; have q5 := blk_free hP1 5; have b0 := blk_cell hB1 (j := 0) rfl; have b1 := blk_free hB1 0)
    refine leaves_cons (f := 18) (args := #[.pointer (some ⟨w.heap.size, 0, none⟩), .pointer (some ⟨w.heap.size + 1, 0, none⟩)]) (by simp) (by simp [go_sem]) ?_
    refine (catch_idle w.heap.size (w.heap.size + 1) _).mono ?_
    obtain ⟨d1, d2⟩ := dec_done (N := w.heap.size + 3) (by omega) hG1 (.slice cA p.caps.length cc) (.int .i64 p.mutexes) (.int .i64 p.onces) (.int .i64 p.vars) (.slice sA p.sels.length sc) (.slice bA p.blocks.length bc) (.int .i64 0) (hp1.mono (S' := fun b => w.heap.size + 3 ≤ b ∧ b < w1.heap.size) (fun b h => ⟨⟨by have := h.1; simp at this; omega, h.2⟩, rfl⟩))
    have hP2 := blk_set_other (j := 0) (blk_set (blk_set (blk_set (blk_set (blk_set (blk_set hP1 0 (.slice cA p.caps.length cc)) 1 (.int .i64 p.mutexes)) 2 (.int .i64 p.onces)) 3 (.int .i64 p.vars)) 4 (.slice sA p.sels.length sc)) 5 (.slice bA p.blocks.length bc)) (show w.heap.size ≠ w.heap.size + 1 by omega) (.int .i64 0)
    have hB2 := blk_set (blk_set_other (blk_set_other (blk_set_other (blk_set_other (blk_set_other (blk_set_other hB1 (show w.heap.size + 1 ≠ w.heap.size by omega) (j := 0) (.slice cA p.caps.length cc)) (show w.heap.size + 1 ≠ w.heap.size by omega) (j := 1) (.int .i64 p.mutexes)) (show w.heap.size + 1 ≠ w.heap.size by omega) (j := 2) (.int .i64 p.onces)) (show w.heap.size + 1 ≠ w.heap.size by omega) (j := 3) (.int .i64 p.vars)) (show w.heap.size + 1 ≠ w.heap.size by omega) (j := 4) (.slice sA p.sels.length sc)) (show w.heap.size + 1 ≠ w.heap.size by omega) (j := 5) (.slice bA p.blocks.length bc)) 0 (.int .i64 0)
    generalize ((((((w1.setCell ⟨w.heap.size, 0, none⟩ (.slice cA p.caps.length cc)).setCell ⟨w.heap.size, 1, none⟩ (.int .i64 p.mutexes)).setCell ⟨w.heap.size, 2, none⟩ (.int .i64 p.onces)).setCell ⟨w.heap.size, 3, none⟩ (.int .i64 p.vars)).setCell ⟨w.heap.size, 4, none⟩ (.slice sA p.sels.length sc)).setCell ⟨w.heap.size, 5, none⟩ (.slice bA p.blocks.length bc)).setCell ⟨w.heap.size + 1, 0, none⟩ (.int .i64 0) = w2 at *
    clear p0 p1 p2 p3 p4 p5 q0 q1 q2 q3 q4 q5 b0 b1 hP1 hB1 hg1 hp1 hG1
    rintro r u' w3 ⟨rfl, rfl, rfl⟩
    have p0 : w3.cell? ⟨w.heap.size, 0, none⟩ = some (.slice cA p.caps.length cc) := blk_cell hP2 (j := 0) rfl
    have p1 : w3.cell? ⟨w.heap.size, 1, none⟩ = some (.int .i64 p.mutexes) := blk_cell hP2 (j := 1) rfl
    have p2 : w3.cell? ⟨w.heap.size, 2, none⟩ = some (.int .i64 p.onces) := blk_cell hP2 (j := 2) rfl
    have p3 : w3.cell? ⟨w.heap.size, 3, none⟩ = some (.int .i64 p.vars) := blk_cell hP2 (j := 3) rfl
    have p4 : w3.cell? ⟨w.heap.size, 4, none⟩ = some (.slice sA p.sels.length sc) := blk_cell hP2 (j := 4) rfl
    have p5 : w3.cell? ⟨w.heap.size, 5, none⟩ = some (.slice bA p.blocks.length bc) := blk_cell hP2 (j := 5) rfl
    have b0 : w3.cell? ⟨w.heap.size + 1, 0, none⟩ = some (.int .i64 0) := blk_cell hB2 (j := 0) rfl
    have hE : DecPost w (.ok p) (.returned (.tuple #[.agg #[.slice cA p.caps.length cc, .int .i64 p.mutexes, .int .i64 p.onces, .int .i64 p.vars, .slice sA p.sels.length sc, .slice bA p.blocks.length bc], .int .i64 0])) w3 := ⟨hBl d2, ⟨cA, sA, bA, cc, sc, bc⟩, rfl, d1⟩
    simp [Leaves, settle, results, Try.results8, go_sem, p0, p1, p2, p3, p4, p5, b0]
    exact hE
end Go.Proofs.Ytlekjobicpnafaa.Cd
