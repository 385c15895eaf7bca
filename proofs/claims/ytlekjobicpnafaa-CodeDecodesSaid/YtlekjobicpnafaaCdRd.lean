/- code's reader: must, next, many. Condition: the reader lies in a block of its own. -/
import Derived.Test.YtlekjobicpnafaaCdDec
import Derived.Deep.AppendLies
import Derived.Deep.RegionHeld3
import Derived.Deep.DrawnRows
import Derived.WalkLawsBesides
import Derived.Laws.OwnMore
import Derived.Laws.ResultCell
namespace Go.Proofs.Ytlekjobicpnafaa.Cd
open Go Go.RowKit Base Pg
set_option linter.unusedVariables false
set_option linter.unusedSimpArgs false

/-- The reader's block. -/
def RdAt (w : World) (R : Nat) (s : ByteArray) (a : Nat) : Prop := w.heap[R]? = some (.cells #[.string s, .int .i64 a] 50 (0, 0))
def failV (e : Int) : List PanicEntry := [{ v := .iface 46 (.agg #[.int .i64 e]), recovered := false }]

theorem RdAt.text {w : World} {R : Nat} {s : ByteArray} {a : Nat} (h : RdAt w R s a) : w.cell? ⟨R, 0, none⟩ = some (.string s) := by unfold RdAt at h; simp [World.cell?, h]
theorem RdAt.at {w : World} {R : Nat} {s : ByteArray} {a : Nat} (h : RdAt w R s a) : w.cell? ⟨R, 1, none⟩ = some (.int .i64 a) := by unfold RdAt at h; simp [World.cell?, h]
theorem RdAt.free {w : World} {R : Nat} {s : ByteArray} {a : Nat} (h : RdAt w R s a) (j : Nat) : w.frozen? ⟨R, j, none⟩ = false := by unfold RdAt at h; simp [World.frozen?, h]
theorem RdAt.lt {w : World} {R : Nat} {s : ByteArray} {a : Nat} (h : RdAt w R s a) : R < w.heap.size := lt_of_block h
theorem RdAt.drewN {w : World} {R : Nat} {s : ByteArray} {a : Nat} (h : RdAt w R s a) (n : Nat) : RdAt (w.drewN n) R s a := h
theorem RdAt.grown {w w' : World} {R : Nat} {s : ByteArray} {a : Nat} {row : Option Nat} (h : RdAt w R s a) (hg : w.grownBy w' row) (hr : row ≠ some R) : RdAt w' R s a := (hg.block R h.lt (fun e => hr e.symm)).trans h
theorem RdAt.set {w : World} {R : Nat} {s : ByteArray} {a b : Nat} (h : RdAt w R s a) : RdAt (w.setCell ⟨R, 1, none⟩ (.int .i64 b)) R s b := by
  unfold RdAt at *
  simp [World.setCell, Array.getElem?_modify, h]
theorem grown_setCell (w : World) (a : Addr) (u : Value) : w.grownBy (w.setCell a u) (some a.block) :=
  ⟨by simp [World.setCell], by simp [World.setCell], by simp [World.setCell], by simp [World.setCell], fun k _ hne => Below.heap_setCell w a u k (fun e => hne (by rw [e]))⟩
theorem grown_drewN {w w' : World} {n : Nat} {row : Option Nat} (h : (w.drewN n).grownBy w' row) : w.grownBy w' row := ⟨h.os, h.tape, h.output, h.size, h.block⟩

theorem must_ok (w : World) : Calls Try.prog 35 #[.int .i64 0] w fun r w' => r = .returned (.tuple #[]) ∧ w' = w := by
  go_enter Try.func35, Try.ntmps35
  go_wp2
  go_end0
  exact ⟨rfl, rfl⟩
theorem must_no (w : World) {e : Int} (he : ¬ e = 0) : Calls Try.prog 35 #[.int .i64 e] w fun r w' => r = .panicked (failV e) ∧ w' = w := by
  go_enter Try.func35, Try.ntmps35
  go_wp2
  exact ⟨rfl, rfl, rfl⟩

theorem next_ok {w : World} {R : Nat} {s : ByteArray} {a : Nat} (hR : RdAt w R s a) (ha : a ≤ s.size) (hs : s.size ≤ 140737488351232) {n : Int} {b : Nat} (h : nextR s a = .ok (n, b)) :
    Calls Try.prog 32 #[.pointer (some ⟨R, 0, none⟩)] w fun r w' => r = .returned (.int .i64 n) ∧ RdAt w' R s b ∧ w.grownBy w' (some R) := by
  obtain ⟨hg, _, _, _, hb⟩ := nextR_ok h ha
  have hG := fun w => get_any w s a ha hs hg
  have t0 := hR.text
  have t1 := hR.at
  have t2 := hR.free 1
  clear h
  go_enter Try.func32, Try.ntmps32
  go_wp2
  go_quiet ((go_at_call 49; exact Calls.quiet_of_same (hG _)))
  go_wp2_with (go_at_call 35; refine (must_ok _).mono ?_; rintro _ _ ⟨rfl, rfl⟩)
  go_ret
  exact ⟨rfl, (hR.drewN _).set, grown_drewN (grown_setCell _ _ _)⟩
theorem next_no {w : World} {R : Nat} {s : ByteArray} {a : Nat} (hR : RdAt w R s a) (ha : a ≤ s.size) (hs : s.size ≤ 140737488351232) {e : Int} (h : nextR s a = .error e) :
    Calls Try.prog 32 #[.pointer (some ⟨R, 0, none⟩)] w fun r w' => r = .panicked (failV e) ∧ RdAt w' R s a ∧ w.grownBy w' (some R) := by
  obtain ⟨hg, he, _⟩ := nextR_err h
  have hG := fun w => get_any w s a ha hs hg
  have t0 := hR.text
  have t1 := hR.at
  have t2 := hR.free 1
  clear h
  go_enter Try.func32, Try.ntmps32
  go_wp2
  go_quiet ((go_at_call 49; exact Calls.quiet_of_same (hG _)))
  go_wp2_with (go_at_call 35; refine (must_no _ he).mono ?_; rintro _ _ ⟨rfl, rfl⟩)
  exact ⟨rfl, rfl, hR.drewN _, grown_drewN (World.grownBy.refl _ _)⟩

theorem and_zero (m : Int) : bits .and .i64 m 0 = 0 := by simp [bits]; decide
theorem and_one {m : Int} (h0 : 0 ≤ m) (h1 : m ≤ 2147483647) : bits .and .i64 m 1 = m % 2 := bits_mask .i64 63 (by decide) wraps_i64 1 (by decide) m h0 (by omega)

theorem many0_ok {w : World} {R : Nat} {s : ByteArray} {a : Nat} (hR : RdAt w R s a) (ha : a ≤ s.size) (hs : s.size ≤ 140737488351232) {n most : Int} {b : Nat} (h : manyR s 1 most a = .ok (n, b)) (hm0 : 0 ≤ most) (hm1 : most < 100) :
    Calls Try.prog 31 #[.pointer (some ⟨R, 0, none⟩), .int .i64 0, .int .i64 most] w fun r w' => r = .returned (.tuple #[.int .i64 (n / 1), .bool false]) ∧ RdAt w' R s b ∧ w.grownBy w' (some R) := by
  unfold manyR at h
  cases hn : nextR s a with
  | error e => rw [hn] at h; cases h
  | ok x =>
    obtain ⟨m, c⟩ := x
    rw [hn] at h
    simp only at h
    split at h
    · cases h
    · rename_i hlt
      simp only [Except.ok.injEq, Prod.mk.injEq] at h
      obtain ⟨rfl, rfl⟩ := h
      have hc := next_ok hR ha hs hn
      obtain ⟨_, h0, h1, _⟩ := nextR_ok hn ha
      have hz := and_zero m
      clear hn
      try simp only [Int.ediv_one] at *
      go_enter Try.func31, Try.ntmps31
      go_wp2_with (go_at_call 32; refine hc.mono ?_; rintro _ w1 ⟨rfl, hR1, hg1⟩)
      go_ret2
      exact ⟨rfl, hR1, hg1⟩
theorem many0_no {w : World} {R : Nat} {s : ByteArray} {a : Nat} (hR : RdAt w R s a) (ha : a ≤ s.size) (hs : s.size ≤ 140737488351232) {e most : Int} (h : manyR s 1 most a = .error e) (hm0 : 0 ≤ most) (hm1 : most < 100) :
    Calls Try.prog 31 #[.pointer (some ⟨R, 0, none⟩), .int .i64 0, .int .i64 most] w fun r w' => r = .panicked (failV e) ∧ (∃ b, RdAt w' R s b) ∧ w.grownBy w' (some R) := by
  unfold manyR at h
  cases hn : nextR s a with
  | error e' =>
    rw [hn] at h
    simp only [Except.error.injEq] at h
    subst h
    have hc := next_no hR ha hs hn
    clear hn
    go_enter Try.func31, Try.ntmps31
    go_wp2_with (go_at_call 32; refine hc.mono ?_; rintro _ w1 ⟨rfl, hR1, hg1⟩)
    exact ⟨rfl, rfl, ⟨_, hR1⟩, hg1⟩
  | ok x =>
    obtain ⟨m, c⟩ := x
    rw [hn] at h
    simp only at h
    split at h
    · rename_i hlt
      simp only [Except.error.injEq] at h
      subst h
      have hc := next_ok hR ha hs hn
      obtain ⟨_, h0, h1, _⟩ := nextR_ok hn ha
      clear hn
      try simp only [Int.ediv_one] at *
      go_enter Try.func31, Try.ntmps31
      go_wp2_with (first | (go_at_call 32; refine hc.mono ?_; rintro _ w1 ⟨rfl, hR1, hg1⟩) | (go_at_call 35; refine (must_no _ (e := 2) (by decide)).mono ?_; rintro _ _ ⟨rfl, rfl⟩))
      exact ⟨rfl, rfl, ⟨_, hR1⟩, hg1⟩
    · cases h

theorem many1_ok {w : World} {R : Nat} {s : ByteArray} {a : Nat} (hR : RdAt w R s a) (ha : a ≤ s.size) (hs : s.size ≤ 140737488351232) {n most : Int} {b : Nat} (h : manyR s 2 most a = .ok (n, b)) (hm0 : 0 ≤ most) (hm1 : most < 100) :
    Calls Try.prog 31 #[.pointer (some ⟨R, 0, none⟩), .int .i64 1, .int .i64 most] w fun r w' => r = .returned (.tuple #[.int .i64 (n / 2), .bool (n % 2 == 1)]) ∧ RdAt w' R s b ∧ w.grownBy w' (some R) := by
  unfold manyR at h
  cases hn : nextR s a with
  | error e => rw [hn] at h; cases h
  | ok x =>
    obtain ⟨m, c⟩ := x
    rw [hn] at h
    simp only at h
    split at h
    · cases h
    · rename_i hlt
      simp only [Except.ok.injEq, Prod.mk.injEq] at h
      obtain ⟨rfl, rfl⟩ := h
      have hc := next_ok hR ha hs hn
      obtain ⟨_, h0, h1, _⟩ := nextR_ok hn ha
      have hz := and_one h0 h1
      clear hn
      try simp only [Int.ediv_one] at *
      go_enter Try.func31, Try.ntmps31
      go_wp2_with (go_at_call 32; refine hc.mono ?_; rintro _ w1 ⟨rfl, hR1, hg1⟩)
      go_ret2
      exact ⟨rfl, hR1, hg1⟩
theorem many1_no {w : World} {R : Nat} {s : ByteArray} {a : Nat} (hR : RdAt w R s a) (ha : a ≤ s.size) (hs : s.size ≤ 140737488351232) {e most : Int} (h : manyR s 2 most a = .error e) (hm0 : 0 ≤ most) (hm1 : most < 100) :
    Calls Try.prog 31 #[.pointer (some ⟨R, 0, none⟩), .int .i64 1, .int .i64 most] w fun r w' => r = .panicked (failV e) ∧ (∃ b, RdAt w' R s b) ∧ w.grownBy w' (some R) := by
  unfold manyR at h
  cases hn : nextR s a with
  | error e' =>
    rw [hn] at h
    simp only [Except.error.injEq] at h
    subst h
    have hc := next_no hR ha hs hn
    clear hn
    go_enter Try.func31, Try.ntmps31
    go_wp2_with (go_at_call 32; refine hc.mono ?_; rintro _ w1 ⟨rfl, hR1, hg1⟩)
    exact ⟨rfl, rfl, ⟨_, hR1⟩, hg1⟩
  | ok x =>
    obtain ⟨m, c⟩ := x
    rw [hn] at h
    simp only at h
    split at h
    · rename_i hlt
      simp only [Except.error.injEq] at h
      subst h
      have hc := next_ok hR ha hs hn
      obtain ⟨_, h0, h1, _⟩ := nextR_ok hn ha
      clear hn
      try simp only [Int.ediv_one] at *
      go_enter Try.func31, Try.ntmps31
      go_wp2_with (first | (go_at_call 32; refine hc.mono ?_; rintro _ w1 ⟨rfl, hR1, hg1⟩) | (go_at_call 35; refine (must_no _ (e := 2) (by decide)).mono ?_; rintro _ _ ⟨rfl, rfl⟩))
      exact ⟨rfl, rfl, ⟨_, hR1⟩, hg1⟩
    · cases h
end Go.Proofs.Ytlekjobicpnafaa.Cd
