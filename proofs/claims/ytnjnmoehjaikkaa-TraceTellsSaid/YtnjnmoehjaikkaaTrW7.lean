/- The judge's tables are made. No condition. -/
import Derived.Test.YtnjnmoehjaikkaaTrW6
import Derived.Laws.EntriesVeiled
namespace Go.Proofs.Ytnjnmoehjaikkaa.Tr
open Go Go.RowKit Base
open Go.ChangeMaps (setBlock)
set_option linter.unusedVariables false
set_option linter.unusedSimpArgs false

theorem below_turned {B b : Nat} {a w w' : World} (h : Below B a w) (ht : Turned w w' b) (hb : B ≤ b) : Below B a w' :=
  ⟨ht.os.trans h.os, ht.tape.trans h.tape, ht.output.trans h.output, by rw [ht.size]; exact h.size, fun k hk => (ht.other (by omega)).trans (h.block k hk)⟩

set_option maxHeartbeats 4000000 in
theorem origins_any (w : World) : Calls Try.prog 33 #[] w fun r w' => ∃ bo, r = .returned (.map (some bo)) ∧ MapAt key1 w' bo originsL ∧ w.heap.size ≤ bo ∧ Below w.heap.size w w' := by
  have m0 : MapAt key1 (w.alloc (.map #[] 0)) w.heap.size [] := MapAt.made w
  have b0 : Below w.heap.size w (w.alloc (.map #[] 0)) := (Below.refl _ _).alloc (Nat.le_refl _) _
  obtain ⟨W1, u1, m1, t1⟩ := m0.store ok1 Try.underlying53 3 (.int .i64 2)
  have b1 := below_turned b0 t1 (Nat.le_refl _)
  unfold key1 at u1
  obtain ⟨W2, u2, m2, t2⟩ := m1.store ok1 Try.underlying53 5 (.int .i64 4)
  have b2 := below_turned b1 t2 (Nat.le_refl _)
  unfold key1 at u2
  obtain ⟨W3, u3, m3, t3⟩ := m2.store ok1 Try.underlying53 6 (.int .i64 4)
  have b3 := below_turned b2 t3 (Nat.le_refl _)
  unfold key1 at u3
  obtain ⟨W4, u4, m4, t4⟩ := m3.store ok1 Try.underlying53 9 (.int .i64 8)
  have b4 := below_turned b3 t4 (Nat.le_refl _)
  unfold key1 at u4
  obtain ⟨W5, u5, m5, t5⟩ := m4.store ok1 Try.underlying53 11 (.int .i64 10)
  have b5 := below_turned b4 t5 (Nat.le_refl _)
  unfold key1 at u5
  obtain ⟨W6, u6, m6, t6⟩ := m5.store ok1 Try.underlying53 15 (.int .i64 13)
  have b6 := below_turned b5 t6 (Nat.le_refl _)
  unfold key1 at u6
  have hm : MapAt key1 W6 w.heap.size originsL := m6
  clear m0 m1 m2 m3 m4 m5 m6 b0 b1 b2 b3 b4 b5 t1 t2 t3 t4 t5 t6
  have hmm := @run_makeMap Try.prog
  go_enter Try.func33, Try.ntmps33
  go_wp2
  go_ret
  exact ⟨w.heap.size, rfl, hm, Nat.le_refl _, b6⟩

set_option maxHeartbeats 8000000 in
theorem rules_any (w : World) (bj : Nat) : Calls Try.prog 34 #[.pointer (some ⟨bj, 0, none⟩)] w fun r w' => ∃ bx bh bt, r = .returned (.map (some bt)) ∧ w'.heap[bx]? = some (.cells #[.pointer (some ⟨bj, 0, none⟩)] 51 (0, 0)) ∧
    w'.heap[bh]? = some (.cells #[cl 48 bx] 78 (0, 0)) ∧ MapAt key1 w' bt (tableL ⟨bj, 0, 0, 0, bt, bx, bh, none, 0⟩) ∧ w.heap.size ≤ bx ∧ w.heap.size ≤ bh ∧ w.heap.size ≤ bt ∧ Below w.heap.size w w' := by
  obtain ⟨w0, hw0⟩ : ∃ w0, w0 = (w.alloc (.cells #[.pointer (some ⟨bj, 0, none⟩)] 51)).alloc (.cells #[cl 48 w.heap.size] 78) := ⟨_, rfl⟩
  have hs : w0.heap.size = w.heap.size + 2 := by rw [hw0]; simp
  have hx : w0.heap[w.heap.size]? = some (.cells #[.pointer (some ⟨bj, 0, none⟩)] 51 (0, 0)) := by
    rw [hw0]
    show ((w.heap.push _).push _)[w.heap.size]? = _
    rw [Array.getElem?_push_lt (by simp)]; simp
  have hh : w0.heap[w.heap.size + 1]? = some (.cells #[cl 48 w.heap.size] 78 (0, 0)) := by
    rw [hw0]
    show ((w.heap.push _).push _)[w.heap.size + 1]? = _
    rw [Array.getElem?_push]; simp
  have b00 : Below w.heap.size w w0 := by rw [hw0]; exact ((Below.refl _ _).alloc (Nat.le_refl _) _).alloc (by simp) _
  have m0 : MapAt key1 (w0.alloc (.map #[] 0)) w0.heap.size [] := MapAt.made w0
  have b0 : Below w.heap.size w (w0.alloc (.map #[] 0)) := b00.alloc (by omega) _
  have hx0 : (w0.alloc (.map #[] 0)).heap[w.heap.size]? = some (.cells #[.pointer (some ⟨bj, 0, none⟩)] 51 (0, 0)) := by rw [Below.heap_alloc _ _ _ (by omega)]; exact hx
  have hh0 : (w0.alloc (.map #[] 0)).heap[w.heap.size + 1]? = some (.cells #[cl 48 w.heap.size] 78 (0, 0)) := by rw [Below.heap_alloc _ _ _ (by omega)]; exact hh
  rw [hs] at m0
  obtain ⟨W1, u1, m1, t1⟩ := m0.store ok1 Try.underlying56 1 (cl 50 (w.heap.size))
  have b1 := below_turned b0 t1 (by omega)
  have hx1 := (t1.other (i := w.heap.size) (by omega)).trans hx0
  have hh1 := (t1.other (i := w.heap.size + 1) (by omega)).trans hh0
  clear m0 t1 hx0 hh0 b0
  unfold key1 cl at u1
  obtain ⟨W2, u2, m2, t2⟩ := m1.store ok1 Try.underlying56 3 (cl 51 (w.heap.size))
  have b2 := below_turned b1 t2 (by omega)
  have hx2 := (t2.other (i := w.heap.size) (by omega)).trans hx1
  have hh2 := (t2.other (i := w.heap.size + 1) (by omega)).trans hh1
  clear m1 t2 hx1 hh1 b1
  unfold key1 cl at u2
  obtain ⟨W3, u3, m3, t3⟩ := m2.store ok1 Try.underlying56 5 (cl 53 (w.heap.size))
  have b3 := below_turned b2 t3 (by omega)
  have hx3 := (t3.other (i := w.heap.size) (by omega)).trans hx2
  have hh3 := (t3.other (i := w.heap.size + 1) (by omega)).trans hh2
  clear m2 t3 hx2 hh2 b2
  unfold key1 cl at u3
  obtain ⟨W4, u4, m4, t4⟩ := m3.store ok1 Try.underlying56 6 (cl 54 (w.heap.size))
  have b4 := below_turned b3 t4 (by omega)
  have hx4 := (t4.other (i := w.heap.size) (by omega)).trans hx3
  have hh4 := (t4.other (i := w.heap.size + 1) (by omega)).trans hh3
  clear m3 t4 hx3 hh3 b3
  unfold key1 cl at u4
  obtain ⟨W5, u5, m5, t5⟩ := m4.store ok1 Try.underlying56 7 (cl 55 (w.heap.size))
  have b5 := below_turned b4 t5 (by omega)
  have hx5 := (t5.other (i := w.heap.size) (by omega)).trans hx4
  have hh5 := (t5.other (i := w.heap.size + 1) (by omega)).trans hh4
  clear m4 t5 hx4 hh4 b4
  unfold key1 cl at u5
  obtain ⟨W6, u6, m6, t6⟩ := m5.store ok1 Try.underlying56 11 (cl 56 (w.heap.size + 1))
  have b6 := below_turned b5 t6 (by omega)
  have hx6 := (t6.other (i := w.heap.size) (by omega)).trans hx5
  have hh6 := (t6.other (i := w.heap.size + 1) (by omega)).trans hh5
  clear m5 t6 hx5 hh5 b5
  unfold key1 cl at u6
  obtain ⟨W7, u7, m7, t7⟩ := m6.store ok1 Try.underlying56 12 (cl 57 (w.heap.size + 1))
  have b7 := below_turned b6 t7 (by omega)
  have hx7 := (t7.other (i := w.heap.size) (by omega)).trans hx6
  have hh7 := (t7.other (i := w.heap.size + 1) (by omega)).trans hh6
  clear m6 t7 hx6 hh6 b6
  unfold key1 cl at u7
  obtain ⟨W8, u8, m8, t8⟩ := m7.store ok1 Try.underlying56 14 (cl 58 (w.heap.size))
  have b8 := below_turned b7 t8 (by omega)
  have hx8 := (t8.other (i := w.heap.size) (by omega)).trans hx7
  have hh8 := (t8.other (i := w.heap.size + 1) (by omega)).trans hh7
  clear m7 t8 hx7 hh7 b7
  unfold key1 cl at u8
  obtain ⟨W9, u9, m9, t9⟩ := m8.store ok1 Try.underlying56 15 (cl 59 (w.heap.size))
  have b9 := below_turned b8 t9 (by omega)
  have hx9 := (t9.other (i := w.heap.size) (by omega)).trans hx8
  have hh9 := (t9.other (i := w.heap.size + 1) (by omega)).trans hh8
  clear m8 t9 hx8 hh8 b8
  unfold key1 cl at u9
  have hm : MapAt key1 W9 (w.heap.size + 2) (tableL ⟨bj, 0, 0, 0, w.heap.size + 2, w.heap.size, w.heap.size + 1, none, 0⟩) := m9
  clear m9
  subst hw0
  clear b00 hs hx hh
  unfold cl at *
  have hmm := @run_makeMap Try.prog
  go_enter Try.func34, Try.ntmps34
  go_wp2
  go_ret
  exact ⟨w.heap.size, w.heap.size + 1, w.heap.size + 2, rfl, hx9, hh9, hm, Nat.le_refl _, by omega, by omega, b9⟩
end Go.Proofs.Ytnjnmoehjaikkaa.Tr
