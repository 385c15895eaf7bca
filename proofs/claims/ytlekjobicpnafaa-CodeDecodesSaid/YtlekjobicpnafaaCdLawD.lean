/- plaitlaw07.CodeDecodes returns true: the walk. Condition: the text takes fewer than 2^47 bytes. -/
import Derived.Test.YtlekjobicpnafaaCdAlive
namespace Go.Proofs.Ytlekjobicpnafaa.Cd
open Go Go.RowKit Base Pg
set_option linter.unusedVariables false
set_option linter.unusedSimpArgs false

theorem zeroAt (w : World) : PrgAt (Old w) w zeroL zeroP := ⟨RowAt.nil, RowAt.nil, RowAt.nil, Nat.le_refl _, Nat.le_refl _, Nat.le_refl _, by decide, by decide, by decide⟩
/-- Two that hold the same program are the same, in a later world too. -/
theorem same_later {w W : World} {p : Prg} {cA sA bA cA' sA' bA' : Option Addr} {cc sc bc cc' sc' bc' : Nat} (h1 : PrgAt (Old w) w ⟨cA, sA, bA, cc, sc, bc⟩ p) (h2 : PrgAt (Old w) w ⟨cA', sA', bA', cc', sc', bc'⟩ p) (hW : ∃ y : Ext w, W = w.ext y) :
    Calls Try.prog 11 #[.agg #[.slice cA p.caps.length cc, .int .i64 p.mutexes, .int .i64 p.onces, .int .i64 p.vars, .slice sA p.sels.length sc, .slice bA p.blocks.length bc], .agg #[.slice cA' p.caps.length cc', .int .i64 p.mutexes, .int .i64 p.onces, .int .i64 p.vars, .slice sA' p.sels.length sc', .slice bA' p.blocks.length bc']] W fun r w' => r = .returned (.bool true) ∧ ∃ y : Ext w, w' = w.ext y := by
  obtain ⟨y, rfl⟩ := hW
  have h := same_same y h1 h2
  simp only [Prg.val] at h
  exact h

theorem same_zero (W : World) : Calls Try.prog 11 #[.agg #[.slice none 0 0, .int .i64 0, .int .i64 0, .int .i64 0, .slice none 0 0, .slice none 0 0], .agg #[.slice none 0 0, .int .i64 0, .int .i64 0, .int .i64 0, .slice none 0 0, .slice none 0 0]] W fun r w' => r = .returned (.bool true) ∧ ∃ y : Ext W, w' = W.ext y :=
  same_later (p := zeroP) (cA := none) (sA := none) (bA := none) (cA' := none) (sA' := none) (bA' := none) (cc := 0) (sc := 0) (bc := 0) (cc' := 0) (sc' := 0) (bc' := 0) (zeroAt W) (zeroAt W) (ex_refl W)

set_option maxRecDepth 100000 in
set_option maxHeartbeats 2000000 in
theorem decodes_any (w : World) {t : ByteArray} (ht : t.size ≤ 140737488351232) : Calls Try.prog 3 #[.string t] w fun r w' => r = .returned (.bool true) ∧ ∃ y : Ext w, w' = w.ext y := by
  have hcut : (t.size ≤ 600 ∧ ∃ s, t = s ∧ s.size ≤ 140737488351232) ∨ (¬ t.size ≤ 600 ∧ ∃ s, t.extract 0 600 = s ∧ s.size ≤ 140737488351232) := by
    by_cases h6 : t.size ≤ 600
    · exact .inl ⟨h6, t, rfl, ht⟩
    · exact .inr ⟨h6, _, rfl, by simp; omega⟩
  rcases hcut with ⟨h6, s, hs, hz⟩ | ⟨h6, s, hs, hz⟩
  · subst hs
    cases hd : decF t with
    | error e =>
      have hD : ∀ W, Calls Try.prog 8 #[.string t] W fun r w' => r = .returned (.tuple #[.agg #[.slice none 0 0, .int .i64 0, .int .i64 0, .int .i64 0, .slice none 0 0, .slice none 0 0], .int .i64 e]) ∧ ∃ y : Ext W, w' = W.ext y := fun W => (decode_any W hz hd).mono fun r w' h => dec_err h
      have hR : ∀ W, Calls Try.prog 9 #[.string t] W fun r w' => r = .returned (.tuple #[.agg #[.slice none 0 0, .int .i64 0, .int .i64 0, .int .i64 0, .slice none 0 0, .slice none 0 0], .int .i64 e]) ∧ ∃ y : Ext W, w' = W.ext y := fun W => (rdecode_any W hz hd).mono fun r w' h => dec_err h
      have hA := alive_any
      have hS := same_zero
      clear hd
      go_enter Try.func3, Try.ntmps3
      go_wp2_with (first
        | (go_at_call 8; (with_reducible refine (hD _).mono ?_); rintro _ w1 ⟨rfl, hy1⟩; have b1 := heap_alloc_new w1 (.cells #[.slice none 0 0, .int .i64 0, .int .i64 0, .int .i64 0, .slice none 0 0, .slice none 0 0] 26); have B1 := Lib.hid b1; clear b1)
        | (go_at_call 9; (with_reducible refine (hR _).mono ?_); rintro _ w2 ⟨rfl, hy2⟩; have c1 : w2.heap[w1.heap.size]? = some (.cells #[.slice none 0 0, .int .i64 0, .int .i64 0, .int .i64 0, .slice none 0 0, .slice none 0 0] 26 (0, 0)) := (by obtain ⟨y, rfl⟩ := hy2; exact blk_ext B1.out y); have C1 := Lib.hid c1; have c2 := heap_alloc_new w2 (.cells #[.slice none 0 0, .int .i64 0, .int .i64 0, .int .i64 0, .slice none 0 0, .slice none 0 0] 26); have C2 := Lib.hid c2; clear c1 c2)
        | (go_at_call 10; (with_reducible refine (hA _).mono ?_); rintro _ w3 ⟨rfl, hy3⟩; have d1 : w3.heap[w1.heap.size]? = some (.cells #[.slice none 0 0, .int .i64 0, .int .i64 0, .int .i64 0, .slice none 0 0, .slice none 0 0] 26 (0, 0)) := (by obtain ⟨y, rfl⟩ := hy3; exact blk_ext (blk_alloc C1.out _) y); have d2 : w3.heap[w2.heap.size]? = some (.cells #[.slice none 0 0, .int .i64 0, .int .i64 0, .int .i64 0, .slice none 0 0, .slice none 0 0] 26 (0, 0)) := (by obtain ⟨y, rfl⟩ := hy3; exact blk_ext C2.out y); have e0 := blk_cell d1 (j := 0) rfl; have ef0 := blk_free d1 0; have e1 := blk_cell d1 (j := 1) rfl; have ef1 := blk_free d1 1; have e2 := blk_cell d1 (j := 2) rfl; have ef2 := blk_free d1 2; have e3 := blk_cell d1 (j := 3) rfl; have ef3 := blk_free d1 3; have e4 := blk_cell d1 (j := 4) rfl; have ef4 := blk_free d1 4; have e5 := blk_cell d1 (j := 5) rfl; have ef5 := blk_free d1 5; have f0 := blk_cell d2 (j := 0) rfl; have ff0 := blk_free d2 0; have f1 := blk_cell d2 (j := 1) rfl; have ff1 := blk_free d2 1; have f2 := blk_cell d2 (j := 2) rfl; have ff2 := blk_free d2 2; have f3 := blk_cell d2 (j := 3) rfl; have ff3 := blk_free d2 3; have f4 := blk_cell d2 (j := 4) rfl; have ff4 := blk_free d2 4; have f5 := blk_cell d2 (j := 5) rfl; have ff5 := blk_free d2 5; clear d1 d2)
        | (go_at_call 11; (with_reducible refine (hS _).mono ?_); rintro _ w4 ⟨rfl, hy4⟩))
      go_ret
      exact ⟨rfl, ex_trans hy1 (ex_trans (ex_alloc _ (ex_refl _)) (ex_trans hy2 (ex_trans (ex_alloc _ (ex_refl _)) (ex_trans hy3 hy4))))⟩
    | ok p =>
      have hD : ∀ W, Calls Try.prog 8 #[.string t] W fun r w' => ∃ cA sA bA cc sc bc, r = .returned (.tuple #[.agg #[.slice cA p.caps.length cc, .int .i64 p.mutexes, .int .i64 p.onces, .int .i64 p.vars, .slice sA p.sels.length sc, .slice bA p.blocks.length bc], .int .i64 0]) ∧ PrgAt (Old w') w' ⟨cA, sA, bA, cc, sc, bc⟩ p ∧ ∃ y : Ext W, w' = W.ext y := fun W => (decode_any W hz hd).mono fun r w' h => dec_ok h
      have hR : ∀ W, Calls Try.prog 9 #[.string t] W fun r w' => ∃ cA sA bA cc sc bc, r = .returned (.tuple #[.agg #[.slice cA p.caps.length cc, .int .i64 p.mutexes, .int .i64 p.onces, .int .i64 p.vars, .slice sA p.sels.length sc, .slice bA p.blocks.length bc], .int .i64 0]) ∧ PrgAt (Old w') w' ⟨cA, sA, bA, cc, sc, bc⟩ p ∧ ∃ y : Ext W, w' = W.ext y := fun W => (rdecode_any W hz hd).mono fun r w' h => dec_ok h
      have hA := alive_any
      clear hd
      go_enter Try.func3, Try.ntmps3
      go_wp2_with (first
        | (go_at_call 8; (with_reducible refine (hD _).mono ?_); rintro _ w1 ⟨cA, sA, bA, cc, sc, bc, rfl, hP1, hy1⟩; have b1 := heap_alloc_new w1 (.cells #[.slice cA p.caps.length cc, .int .i64 p.mutexes, .int .i64 p.onces, .int .i64 p.vars, .slice sA p.sels.length sc, .slice bA p.blocks.length bc] 26); have B1 := Lib.hid b1; clear b1)
        | (go_at_call 9; (with_reducible refine (hR _).mono ?_); rintro _ w2 ⟨cA', sA', bA', cc', sc', bc', rfl, hP2, hy2⟩; have hP1' : PrgAt (Old w2) w2 ⟨cA, sA, bA, cc, sc, bc⟩ p := hP1.mono (Agree.of_ex (ex_trans (ex_alloc _ (ex_refl _)) hy2)); have c1 : w2.heap[w1.heap.size]? = some (.cells #[.slice cA p.caps.length cc, .int .i64 p.mutexes, .int .i64 p.onces, .int .i64 p.vars, .slice sA p.sels.length sc, .slice bA p.blocks.length bc] 26 (0, 0)) := (by obtain ⟨y, rfl⟩ := hy2; exact blk_ext B1.out y); have C1 := Lib.hid c1; have c2 := heap_alloc_new w2 (.cells #[.slice cA' p.caps.length cc', .int .i64 p.mutexes, .int .i64 p.onces, .int .i64 p.vars, .slice sA' p.sels.length sc', .slice bA' p.blocks.length bc'] 26); have C2 := Lib.hid c2; clear c1 c2)
        | (go_at_call 10; (with_reducible refine (hA _).mono ?_); rintro _ w3 ⟨rfl, hy3⟩; have hS := same_later hP1' hP2 (ex_trans (ex_alloc _ (ex_refl _)) hy3); have d1 : w3.heap[w1.heap.size]? = some (.cells #[.slice cA p.caps.length cc, .int .i64 p.mutexes, .int .i64 p.onces, .int .i64 p.vars, .slice sA p.sels.length sc, .slice bA p.blocks.length bc] 26 (0, 0)) := (by obtain ⟨y, rfl⟩ := hy3; exact blk_ext (blk_alloc C1.out _) y); have d2 : w3.heap[w2.heap.size]? = some (.cells #[.slice cA' p.caps.length cc', .int .i64 p.mutexes, .int .i64 p.onces, .int .i64 p.vars, .slice sA' p.sels.length sc', .slice bA' p.blocks.length bc'] 26 (0, 0)) := (by obtain ⟨y, rfl⟩ := hy3; exact blk_ext C2.out y); have e0 := blk_cell d1 (j := 0) rfl; have ef0 := blk_free d1 0; have e1 := blk_cell d1 (j := 1) rfl; have ef1 := blk_free d1 1; have e2 := blk_cell d1 (j := 2) rfl; have ef2 := blk_free d1 2; have e3 := blk_cell d1 (j := 3) rfl; have ef3 := blk_free d1 3; have e4 := blk_cell d1 (j := 4) rfl; have ef4 := blk_free d1 4; have e5 := blk_cell d1 (j := 5) rfl; have ef5 := blk_free d1 5; have f0 := blk_cell d2 (j := 0) rfl; have ff0 := blk_free d2 0; have f1 := blk_cell d2 (j := 1) rfl; have ff1 := blk_free d2 1; have f2 := blk_cell d2 (j := 2) rfl; have ff2 := blk_free d2 2; have f3 := blk_cell d2 (j := 3) rfl; have ff3 := blk_free d2 3; have f4 := blk_cell d2 (j := 4) rfl; have ff4 := blk_free d2 4; have f5 := blk_cell d2 (j := 5) rfl; have ff5 := blk_free d2 5; clear d1 d2)
        | (go_at_call 11; (with_reducible refine hS.mono ?_); rintro _ w4 ⟨rfl, hy4⟩))
      go_ret
      exact ⟨rfl, ex_trans hy1 (ex_trans (ex_alloc _ (ex_refl _)) (ex_trans hy2 hy4))⟩
  · have hs' := hs
    clear hs'
    cases hd : decF s with
    | error e =>
      have hD : ∀ W, Calls Try.prog 8 #[.string s] W fun r w' => r = .returned (.tuple #[.agg #[.slice none 0 0, .int .i64 0, .int .i64 0, .int .i64 0, .slice none 0 0, .slice none 0 0], .int .i64 e]) ∧ ∃ y : Ext W, w' = W.ext y := fun W => (decode_any W hz hd).mono fun r w' h => dec_err h
      have hR : ∀ W, Calls Try.prog 9 #[.string s] W fun r w' => r = .returned (.tuple #[.agg #[.slice none 0 0, .int .i64 0, .int .i64 0, .int .i64 0, .slice none 0 0, .slice none 0 0], .int .i64 e]) ∧ ∃ y : Ext W, w' = W.ext y := fun W => (rdecode_any W hz hd).mono fun r w' h => dec_err h
      have hA := alive_any
      have hS := same_zero
      clear hd
      go_enter Try.func3, Try.ntmps3
      go_wp2_with (first
        | (go_at_call 8; (with_reducible refine (hD _).mono ?_); rintro _ w1 ⟨rfl, hy1⟩; have b1 := heap_alloc_new w1 (.cells #[.slice none 0 0, .int .i64 0, .int .i64 0, .int .i64 0, .slice none 0 0, .slice none 0 0] 26); have B1 := Lib.hid b1; clear b1)
        | (go_at_call 9; (with_reducible refine (hR _).mono ?_); rintro _ w2 ⟨rfl, hy2⟩; have c1 : w2.heap[w1.heap.size]? = some (.cells #[.slice none 0 0, .int .i64 0, .int .i64 0, .int .i64 0, .slice none 0 0, .slice none 0 0] 26 (0, 0)) := (by obtain ⟨y, rfl⟩ := hy2; exact blk_ext B1.out y); have C1 := Lib.hid c1; have c2 := heap_alloc_new w2 (.cells #[.slice none 0 0, .int .i64 0, .int .i64 0, .int .i64 0, .slice none 0 0, .slice none 0 0] 26); have C2 := Lib.hid c2; clear c1 c2)
        | (go_at_call 10; (with_reducible refine (hA _).mono ?_); rintro _ w3 ⟨rfl, hy3⟩; have d1 : w3.heap[w1.heap.size]? = some (.cells #[.slice none 0 0, .int .i64 0, .int .i64 0, .int .i64 0, .slice none 0 0, .slice none 0 0] 26 (0, 0)) := (by obtain ⟨y, rfl⟩ := hy3; exact blk_ext (blk_alloc C1.out _) y); have d2 : w3.heap[w2.heap.size]? = some (.cells #[.slice none 0 0, .int .i64 0, .int .i64 0, .int .i64 0, .slice none 0 0, .slice none 0 0] 26 (0, 0)) := (by obtain ⟨y, rfl⟩ := hy3; exact blk_ext C2.out y); have e0 := blk_cell d1 (j := 0) rfl; have ef0 := blk_free d1 0; have e1 := blk_cell d1 (j := 1) rfl; have ef1 := blk_free d1 1; have e2 := blk_cell d1 (j := 2) rfl; have ef2 := blk_free d1 2; have e3 := blk_cell d1 (j := 3) rfl; have ef3 := blk_free d1 3; have e4 := blk_cell d1 (j := 4) rfl; have ef4 := blk_free d1 4; have e5 := blk_cell d1 (j := 5) rfl; have ef5 := blk_free d1 5; have f0 := blk_cell d2 (j := 0) rfl; have ff0 := blk_free d2 0; have f1 := blk_cell d2 (j := 1) rfl; have ff1 := blk_free d2 1; have f2 := blk_cell d2 (j := 2) rfl; have ff2 := blk_free d2 2; have f3 := blk_cell d2 (j := 3) rfl; have ff3 := blk_free d2 3; have f4 := blk_cell d2 (j := 4) rfl; have ff4 := blk_free d2 4; have f5 := blk_cell d2 (j := 5) rfl; have ff5 := blk_free d2 5; clear d1 d2)
        | (go_at_call 11; (with_reducible refine (hS _).mono ?_); rintro _ w4 ⟨rfl, hy4⟩))
      go_ret
      exact ⟨rfl, ex_trans hy1 (ex_trans (ex_alloc _ (ex_refl _)) (ex_trans hy2 (ex_trans (ex_alloc _ (ex_refl _)) (ex_trans hy3 hy4))))⟩
    | ok p =>
      have hD : ∀ W, Calls Try.prog 8 #[.string s] W fun r w' => ∃ cA sA bA cc sc bc, r = .returned (.tuple #[.agg #[.slice cA p.caps.length cc, .int .i64 p.mutexes, .int .i64 p.onces, .int .i64 p.vars, .slice sA p.sels.length sc, .slice bA p.blocks.length bc], .int .i64 0]) ∧ PrgAt (Old w') w' ⟨cA, sA, bA, cc, sc, bc⟩ p ∧ ∃ y : Ext W, w' = W.ext y := fun W => (decode_any W hz hd).mono fun r w' h => dec_ok h
      have hR : ∀ W, Calls Try.prog 9 #[.string s] W fun r w' => ∃ cA sA bA cc sc bc, r = .returned (.tuple #[.agg #[.slice cA p.caps.length cc, .int .i64 p.mutexes, .int .i64 p.onces, .int .i64 p.vars, .slice sA p.sels.length sc, .slice bA p.blocks.length bc], .int .i64 0]) ∧ PrgAt (Old w') w' ⟨cA, sA, bA, cc, sc, bc⟩ p ∧ ∃ y : Ext W, w' = W.ext y := fun W => (rdecode_any W hz hd).mono fun r w' h => dec_ok h
      have hA := alive_any
      clear hd
      go_enter Try.func3, Try.ntmps3
      go_wp2_with (first
        | (go_at_call 8; (with_reducible refine (hD _).mono ?_); rintro _ w1 ⟨cA, sA, bA, cc, sc, bc, rfl, hP1, hy1⟩; have b1 := heap_alloc_new w1 (.cells #[.slice cA p.caps.length cc, .int .i64 p.mutexes, .int .i64 p.onces, .int .i64 p.vars, .slice sA p.sels.length sc, .slice bA p.blocks.length bc] 26); have B1 := Lib.hid b1; clear b1)
        | (go_at_call 9; (with_reducible refine (hR _).mono ?_); rintro _ w2 ⟨cA', sA', bA', cc', sc', bc', rfl, hP2, hy2⟩; have hP1' : PrgAt (Old w2) w2 ⟨cA, sA, bA, cc, sc, bc⟩ p := hP1.mono (Agree.of_ex (ex_trans (ex_alloc _ (ex_refl _)) hy2)); have c1 : w2.heap[w1.heap.size]? = some (.cells #[.slice cA p.caps.length cc, .int .i64 p.mutexes, .int .i64 p.onces, .int .i64 p.vars, .slice sA p.sels.length sc, .slice bA p.blocks.length bc] 26 (0, 0)) := (by obtain ⟨y, rfl⟩ := hy2; exact blk_ext B1.out y); have C1 := Lib.hid c1; have c2 := heap_alloc_new w2 (.cells #[.slice cA' p.caps.length cc', .int .i64 p.mutexes, .int .i64 p.onces, .int .i64 p.vars, .slice sA' p.sels.length sc', .slice bA' p.blocks.length bc'] 26); have C2 := Lib.hid c2; clear c1 c2)
        | (go_at_call 10; (with_reducible refine (hA _).mono ?_); rintro _ w3 ⟨rfl, hy3⟩; have hS := same_later hP1' hP2 (ex_trans (ex_alloc _ (ex_refl _)) hy3); have d1 : w3.heap[w1.heap.size]? = some (.cells #[.slice cA p.caps.length cc, .int .i64 p.mutexes, .int .i64 p.onces, .int .i64 p.vars, .slice sA p.sels.length sc, .slice bA p.blocks.length bc] 26 (0, 0)) := (by obtain ⟨y, rfl⟩ := hy3; exact blk_ext (blk_alloc C1.out _) y); have d2 : w3.heap[w2.heap.size]? = some (.cells #[.slice cA' p.caps.length cc', .int .i64 p.mutexes, .int .i64 p.onces, .int .i64 p.vars, .slice sA' p.sels.length sc', .slice bA' p.blocks.length bc'] 26 (0, 0)) := (by obtain ⟨y, rfl⟩ := hy3; exact blk_ext C2.out y); have e0 := blk_cell d1 (j := 0) rfl; have ef0 := blk_free d1 0; have e1 := blk_cell d1 (j := 1) rfl; have ef1 := blk_free d1 1; have e2 := blk_cell d1 (j := 2) rfl; have ef2 := blk_free d1 2; have e3 := blk_cell d1 (j := 3) rfl; have ef3 := blk_free d1 3; have e4 := blk_cell d1 (j := 4) rfl; have ef4 := blk_free d1 4; have e5 := blk_cell d1 (j := 5) rfl; have ef5 := blk_free d1 5; have f0 := blk_cell d2 (j := 0) rfl; have ff0 := blk_free d2 0; have f1 := blk_cell d2 (j := 1) rfl; have ff1 := blk_free d2 1; have f2 := blk_cell d2 (j := 2) rfl; have ff2 := blk_free d2 2; have f3 := blk_cell d2 (j := 3) rfl; have ff3 := blk_free d2 3; have f4 := blk_cell d2 (j := 4) rfl; have ff4 := blk_free d2 4; have f5 := blk_cell d2 (j := 5) rfl; have ff5 := blk_free d2 5; clear d1 d2)
        | (go_at_call 11; (with_reducible refine hS.mono ?_); rintro _ w4 ⟨rfl, hy4⟩))
      go_ret
      exact ⟨rfl, ex_trans hy1 (ex_trans (ex_alloc _ (ex_refl _)) (ex_trans hy2 hy4))⟩
end Go.Proofs.Ytlekjobicpnafaa.Cd
