/- code's reader: block, walked. Condition: the reader lies in a block of its own. -/
import Derived.Test.YtlekjobicpnafaaCdBlk
import Derived.LoopN
namespace Go.Proofs.Ytlekjobicpnafaa.Cd
open Go Go.RowKit Base Pg
set_option linter.unusedVariables false
set_option linter.unusedSimpArgs false

def BlkPost (w : World) (R : Nat) (s : ByteArray) (res : Except Int (List Ins × Nat)) (r : Ending) (w' : World) : Prop := match res with
  | .ok (l, b) => (∃ A cap, r = .returned (.slice A l.length cap) ∧ l.length ≤ cap ∧ RowAt 3 InsE (Fresh w w') w' A l) ∧ RdAt w' R s b ∧ w.grownBy w' (some R)
  | .error e => r = .panicked (failV e) ∧ w.grownBy w' (some R)

theorem BlkInv.done {w wr : World} {R : Nat} {s : ByteArray} {base : Nat} {acc : List Ins} {v : Value} {a' : Nat} (h : BlkInv w wr R s base acc v a') :
    (∃ A cap, Ending.returned v = .returned (.slice A acc.length cap) ∧ acc.length ≤ cap ∧ RowAt 3 InsE (Fresh w wr) wr A acc) ∧ RdAt wr R s a' ∧ w.grownBy wr (some R) := by
  have h2 := h.hwb
  have ho := h.own
  rw [List.flatMap_def] at ho
  obtain ⟨A, cap, hv, hc, hr⟩ := own_row (E := InsE) (S := Fresh w wr) (by intro cs hcs; simp at hcs; obtain ⟨c, _, rfl⟩ := hcs; rfl) (fun i x hi => ⟨insV x, by simp [hi], rfl⟩) (fun b hb hb2 => ⟨by omega, hb2⟩) ho
  exact ⟨⟨A, cap, by rw [hv], hc, hr⟩, h.rd, h.grown⟩

set_option maxHeartbeats 16000000 in
theorem block_loop {w : World} {R : Nat} {s : ByteArray} {a : Nat} (hR : RdAt w R s a) (ha : a ≤ s.size) (hs : s.size ≤ 140737488351232) {m : Int} {a1 : Nat} (hm : manyR s 1 24 a = .ok (m, a1)) (ha1 : a1 ≤ s.size) (hm0 : 0 ≤ m) (hm4 : m ≤ 24) {res : Except Int (List Ins × Nat)} (hl : loopR (insR s) m.toNat [] a1 = res) :
    Calls Try.prog 34 #[.pointer (some ⟨R, 0, none⟩)] w (BlkPost w R s res) := by
  obtain ⟨N, hN⟩ := Int.eq_ofNat_of_zero_le hm0
  subst hN
  obtain ⟨i0, hi, hz0, hz1, hz2⟩ := info_parts Try.infoI
  have hM := many0_ok hR ha hs hm (by decide) (by decide)
  simp only [Int.toNat_natCast, Int.ediv_one] at hl hM
  have hRw := hR.lt
  have HL := Lib.hid hl
  clear hl hm
  go_enter Try.func34, Try.ntmps34
  go_wp2_with (go_at_call 31; refine hM.mono ?_; rintro _ w1 ⟨rfl, hR1, hg1⟩)
  clear hM
  have I0 : BlkInv w w1 R s w1.heap.size [] (.slice none 0 0) a1 := ⟨hR1, World.ownsRow_nil _ _ _ _, hg1, Nat.le_refl _, hRw, hg1.size⟩
  clear hR1 hg1 hR
  generalize w1.heap.size = base at *
  go_loopw [3, 15] (fun lv i wr => ∃ (a' : Nat) (acc : List Ins), acc.length ≤ N ∧ i = .int .i64 acc.length ∧ loopR (insR s) (N - acc.length) acc a' = res ∧ a' ≤ s.size ∧ BlkInv w wr R s base acc lv a') (fun _ i _ => N - (intOf i).toNat)
  case atStart => exact ⟨a1, [], Nat.zero_le _, rfl, HL.out, ha1, I0⟩
  case round =>
    obtain ⟨a', acc, hj, rfl, hI, ha', I⟩ := hrel
    have HI := Lib.hid hI
    clear hI
    by_cases hlt : acc.length < N
    · have HS : Hid (loopR (insR s) ((N - (acc.length + 1)) + 1) acc a' = res) := by
        have := HI.out
        rw [show N - acc.length = (N - (acc.length + 1)) + 1 by omega] at this
        exact this
      clear HI
      cases hn : nextR s a' with
      | error e =>
        have HJ := HS.out
        rw [loopR_err (insR_e hn)] at HJ
        subst HJ
        have hX := next_no I.rd ha' hs hn
        clear hn HS
        go_wp2_with (go_at_call 32; refine hX.mono ?_; rintro _ w2 ⟨rfl, hR2, hg2⟩)
        exact ⟨rfl, rfl, grown_trans I.grown hg2⟩
      | ok x =>
        obtain ⟨op, b1⟩ := x
        obtain ⟨_, n0, n1, _, hb1⟩ := nextR_ok hn ha'
        have hX := next_ok I.rd ha' hs hn
        by_cases h0 : op = 0
        · subst h0
          have HJ : Hid (loopR (insR s) (N - (acc.length + 1)) (acc ++ [⟨0, 0, 0⟩]) b1 = res) := by
            have := HS.out
            rw [loopR_ok (insR_0 hn)] at this
            exact this
          clear HS hn
          go_wp2_with (first
            | (go_at_call 32; refine hX.mono ?_; rintro _ w2 ⟨rfl, hR2, hg2⟩; have I2 := I.next hR2 hg2)
            | (go_at_call 41; refine (operands_0 _).mono ?_; rintro _ _ ⟨rfl, rfl⟩))
          have hB3 := blk_alloc (heap_alloc_new w2 (.cells #[.int .i64 0, .int .i64 0, .int .i64 0] 44)) (.cells #[.pointer (some ⟨w2.heap.size, 1, none⟩), .pointer (some ⟨w2.heap.size, 2, none⟩)] 72)
          have hQ3 := heap_alloc_new (w2.alloc (.cells #[.int .i64 0, .int .i64 0, .int .i64 0] 44)) (.cells #[.pointer (some ⟨w2.heap.size, 1, none⟩), .pointer (some ⟨w2.heap.size, 2, none⟩)] 72)
          have I3 := (I2.alloc (.cells #[.int .i64 0, .int .i64 0, .int .i64 0] 44)).alloc (.cells #[.pointer (some ⟨w2.heap.size, 1, none⟩), .pointer (some ⟨w2.heap.size, 2, none⟩)] 72)
          have hrow := I2.rowLt (Nat.le_refl _)
          have hbI := I2.size
          have hQn : (w2.alloc (.cells #[.int .i64 0, .int .i64 0, .int .i64 0] 44)).heap.size = w2.heap.size + 1 := by simp
          rw [hQn] at hQ3
          generalize (w2.alloc (.cells #[.int .i64 0, .int .i64 0, .int .i64 0] 44)).alloc (.cells #[.pointer (some ⟨w2.heap.size, 1, none⟩), .pointer (some ⟨w2.heap.size, 2, none⟩)] 72) = W3 at *
          generalize w2.heap.size = B at *
          refine wp_loop_rounds 1 ?_
          rw [rounds_succ]
          have hcell := blk_cell hB3 (j := 0) rfl
          have hcell1 := blk_cell hB3 (j := 1) rfl
          have hcell2 := blk_cell hB3 (j := 2) rfl
          go_wp2_with (at_builtin; refine wpList_append_lies _ rfl (.tmp 37) (.tmp 39) 42 rfl base 44 i0 _ 3 24 Try.underlying42 hi hz0 hz1 hz2 rfl (by omega) _ acc.length _ rfl (I3.own.alloc _) ⟨W3.heap.size, 0, none⟩ 1 1 [.int .i64 0, .int .i64 0, .int .i64 0] rfl rfl (World.news_of_block (heap_alloc_new W3 _)) (by simp [Value.oneCell']) (by omega) (by unfold maxLen; omega) (by omega) (by have := I3.size; simp; omega) (W3.heap.size + 1) (by simp) ?_; intro g cap w9 hown9 hgr9 hat9 hlt9)
          have I9 := I3.stored (i := ⟨0, 0, 0⟩) hown9 hgr9
          clear hX hcell hcell1 hcell2 I I2 I3 hown9 hgr9
          go_roundw
          case rel => exact ⟨b1, acc ++ [⟨0, 0, 0⟩], by simp; omega, by simp, by simpa using HJ.out, hb1, I9⟩
          case measure => simp [intOf]; omega
        · by_cases h7 : op = 7
          · subst h7
            cases hn2 : nextR s b1 with
            | error e =>
              have HJ := HS.out
              rw [loopR_err (insR_e1 hn h0 hn2)] at HJ
              subst HJ
              clear HS hn
              go_wp2_with (first
                | (go_at_call 32; refine hX.mono ?_; rintro _ w2 ⟨rfl, hR2, hg2⟩; have I2 := I.next hR2 hg2)
                | (go_at_call 41; refine (operands_7 _).mono ?_; rintro _ _ ⟨rfl, rfl⟩))
              have hB3 := blk_alloc (heap_alloc_new w2 (.cells #[.int .i64 7, .int .i64 0, .int .i64 0] 44)) (.cells #[.pointer (some ⟨w2.heap.size, 1, none⟩), .pointer (some ⟨w2.heap.size, 2, none⟩)] 72)
              have hQ3 := heap_alloc_new (w2.alloc (.cells #[.int .i64 7, .int .i64 0, .int .i64 0] 44)) (.cells #[.pointer (some ⟨w2.heap.size, 1, none⟩), .pointer (some ⟨w2.heap.size, 2, none⟩)] 72)
              have I3 := (I2.alloc (.cells #[.int .i64 7, .int .i64 0, .int .i64 0] 44)).alloc (.cells #[.pointer (some ⟨w2.heap.size, 1, none⟩), .pointer (some ⟨w2.heap.size, 2, none⟩)] 72)
              have hrow := I2.rowLt (Nat.le_refl _)
              have hbI := I2.size
              have hQn : (w2.alloc (.cells #[.int .i64 7, .int .i64 0, .int .i64 0] 44)).heap.size = w2.heap.size + 1 := by simp
              rw [hQn] at hQ3
              generalize (w2.alloc (.cells #[.int .i64 7, .int .i64 0, .int .i64 0] 44)).alloc (.cells #[.pointer (some ⟨w2.heap.size, 1, none⟩), .pointer (some ⟨w2.heap.size, 2, none⟩)] 72) = W3 at *
              generalize w2.heap.size = B at *
              have hX2 := next_no I3.rd hb1 hs hn2
              have hc0 := blk_cell hQ3 (j := 0) rfl
              refine wp_loop_rounds 1 ?_
              rw [rounds_succ]
              go_wp2_with (go_at_call 32; refine hX2.mono ?_; rintro _ w5 ⟨rfl, hR5, hg5⟩)
              exact ⟨rfl, rfl, grown_trans I3.grown hg5⟩
            | ok y =>
              obtain ⟨x, b2⟩ := y
              obtain ⟨_, _, _, _, hb2⟩ := nextR_ok hn2 hb1
              cases hn3 : nextR s b2 with
              | error e =>
                have HJ := HS.out
                rw [loopR_err (insR_e2 hn hn2 hn3)] at HJ
                subst HJ
                clear HS hn
                go_wp2_with (first
                  | (go_at_call 32; refine hX.mono ?_; rintro _ w2 ⟨rfl, hR2, hg2⟩; have I2 := I.next hR2 hg2)
                  | (go_at_call 41; refine (operands_7 _).mono ?_; rintro _ _ ⟨rfl, rfl⟩))
                have hB3 := blk_alloc (heap_alloc_new w2 (.cells #[.int .i64 7, .int .i64 0, .int .i64 0] 44)) (.cells #[.pointer (some ⟨w2.heap.size, 1, none⟩), .pointer (some ⟨w2.heap.size, 2, none⟩)] 72)
                have hQ3 := heap_alloc_new (w2.alloc (.cells #[.int .i64 7, .int .i64 0, .int .i64 0] 44)) (.cells #[.pointer (some ⟨w2.heap.size, 1, none⟩), .pointer (some ⟨w2.heap.size, 2, none⟩)] 72)
                have I3 := (I2.alloc (.cells #[.int .i64 7, .int .i64 0, .int .i64 0] 44)).alloc (.cells #[.pointer (some ⟨w2.heap.size, 1, none⟩), .pointer (some ⟨w2.heap.size, 2, none⟩)] 72)
                have hrow := I2.rowLt (Nat.le_refl _)
                have hbI := I2.size
                have hQn : (w2.alloc (.cells #[.int .i64 7, .int .i64 0, .int .i64 0] 44)).heap.size = w2.heap.size + 1 := by simp
                rw [hQn] at hQ3
                generalize (w2.alloc (.cells #[.int .i64 7, .int .i64 0, .int .i64 0] 44)).alloc (.cells #[.pointer (some ⟨w2.heap.size, 1, none⟩), .pointer (some ⟨w2.heap.size, 2, none⟩)] 72) = W3 at *
                generalize w2.heap.size = B at *
                have hX2 := next_ok I3.rd hb1 hs hn2
                have hc0 := blk_cell hQ3 (j := 0) rfl
                have hRB : R ≠ B := by have := I3.hRw; have := I3.hwb; omega
                have hRQ : R ≠ B + 1 := by have := I3.hRw; have := I3.hwb; omega
                refine wp_loop_rounds 3 ?_
                rw [rounds_succ]
                go_wp2_with (go_at_call 32; refine hX2.mono ?_; rintro _ w5 ⟨rfl, hR5, hg5⟩; have hB5 := blk_grown hB3 hg5 (by simpa using hRB); have hQ5 := blk_grown hQ3 hg5 (by simpa using hRQ); have hcell5 := blk_cell hB5 (j := 1) rfl; have hfree5 := blk_free hB5 1)
                have I5 := (I3.next hR5 hg5).set (I := B) (j := 1) hbI hrow (.int .i64 x)
                have hB6 := blk_set hB5 1 (.int .i64 x)
                have hQ6 := blk_set_other (j := 1) hQ5 (show B + 1 ≠ B by omega) (.int .i64 x)
                generalize w5.setCell ⟨B, 1, none⟩ (.int .i64 x) = W6 at *
                have hc1 := blk_cell hQ6 (j := 1) rfl
                clear hcell5 hfree5
                have hX3 := next_no I5.rd hb2 hs hn3
                rw [rounds_succ]
                go_wp2_with (go_at_call 32; refine hX3.mono ?_; rintro _ w7 ⟨rfl, hR7, hg7⟩)
                exact ⟨rfl, rfl, grown_trans I5.grown hg7⟩
              | ok z =>
                obtain ⟨y, b3⟩ := z
                obtain ⟨_, _, _, _, hb3⟩ := nextR_ok hn3 hb2
                have HJ : Hid (loopR (insR s) (N - (acc.length + 1)) (acc ++ [⟨7, x, y⟩]) b3 = res) := by
                  have := HS.out
                  rw [loopR_ok (insR_2 hn hn2 hn3)] at this
                  exact this
                clear HS hn
                go_wp2_with (first
                  | (go_at_call 32; refine hX.mono ?_; rintro _ w2 ⟨rfl, hR2, hg2⟩; have I2 := I.next hR2 hg2)
                  | (go_at_call 41; refine (operands_7 _).mono ?_; rintro _ _ ⟨rfl, rfl⟩))
                have hB3 := blk_alloc (heap_alloc_new w2 (.cells #[.int .i64 7, .int .i64 0, .int .i64 0] 44)) (.cells #[.pointer (some ⟨w2.heap.size, 1, none⟩), .pointer (some ⟨w2.heap.size, 2, none⟩)] 72)
                have hQ3 := heap_alloc_new (w2.alloc (.cells #[.int .i64 7, .int .i64 0, .int .i64 0] 44)) (.cells #[.pointer (some ⟨w2.heap.size, 1, none⟩), .pointer (some ⟨w2.heap.size, 2, none⟩)] 72)
                have I3 := (I2.alloc (.cells #[.int .i64 7, .int .i64 0, .int .i64 0] 44)).alloc (.cells #[.pointer (some ⟨w2.heap.size, 1, none⟩), .pointer (some ⟨w2.heap.size, 2, none⟩)] 72)
                have hrow := I2.rowLt (Nat.le_refl _)
                have hbI := I2.size
                have hQn : (w2.alloc (.cells #[.int .i64 7, .int .i64 0, .int .i64 0] 44)).heap.size = w2.heap.size + 1 := by simp
                rw [hQn] at hQ3
                generalize (w2.alloc (.cells #[.int .i64 7, .int .i64 0, .int .i64 0] 44)).alloc (.cells #[.pointer (some ⟨w2.heap.size, 1, none⟩), .pointer (some ⟨w2.heap.size, 2, none⟩)] 72) = W3 at *
                generalize w2.heap.size = B at *
                have hX2 := next_ok I3.rd hb1 hs hn2
                have hc0 := blk_cell hQ3 (j := 0) rfl
                have hRB : R ≠ B := by have := I3.hRw; have := I3.hwb; omega
                have hRQ : R ≠ B + 1 := by have := I3.hRw; have := I3.hwb; omega
                refine wp_loop_rounds 3 ?_
                rw [rounds_succ]
                go_wp2_with (go_at_call 32; refine hX2.mono ?_; rintro _ w5 ⟨rfl, hR5, hg5⟩; have hB5 := blk_grown hB3 hg5 (by simpa using hRB); have hQ5 := blk_grown hQ3 hg5 (by simpa using hRQ); have hcell5 := blk_cell hB5 (j := 1) rfl; have hfree5 := blk_free hB5 1)
                have I5 := (I3.next hR5 hg5).set (I := B) (j := 1) hbI hrow (.int .i64 x)
                have hB6 := blk_set hB5 1 (.int .i64 x)
                have hQ6 := blk_set_other (j := 1) hQ5 (show B + 1 ≠ B by omega) (.int .i64 x)
                generalize w5.setCell ⟨B, 1, none⟩ (.int .i64 x) = W6 at *
                have hc1 := blk_cell hQ6 (j := 1) rfl
                clear hcell5 hfree5
                have hX3 := next_ok I5.rd hb2 hs hn3
                rw [rounds_succ]
                go_wp2_with (go_at_call 32; refine hX3.mono ?_; rintro _ w7 ⟨rfl, hR7, hg7⟩; have hB7 := blk_grown hB6 hg7 (by simpa using hRB); have hcell7 := blk_cell hB7 (j := 2) rfl; have hfree7 := blk_free hB7 2)
                have I7 := (I5.next hR7 hg7).set (I := B) (j := 2) hbI hrow (.int .i64 y)
                have hB8 := blk_set hB7 2 (.int .i64 y)
                generalize w7.setCell ⟨B, 2, none⟩ (.int .i64 y) = W8 at *
                have hcell := blk_cell hB8 (j := 0) rfl
                have hcell1 := blk_cell hB8 (j := 1) rfl
                have hcell2 := blk_cell hB8 (j := 2) rfl
                clear hcell7 hfree7
                rw [rounds_succ]
                go_wp2_with (at_builtin; refine wpList_append_lies _ rfl (.tmp 37) (.tmp 39) 42 rfl base 44 i0 _ 3 24 Try.underlying42 hi hz0 hz1 hz2 rfl (by omega) _ acc.length _ rfl (I7.own.alloc _) ⟨W8.heap.size, 0, none⟩ 1 1 [.int .i64 7, .int .i64 x, .int .i64 y] rfl rfl (World.news_of_block (heap_alloc_new W8 _)) (by simp [Value.oneCell']) (by omega) (by unfold maxLen; omega) (by omega) (by have := I7.size; simp; omega) (W8.heap.size + 1) (by simp) ?_; intro g cap w9 hown9 hgr9 hat9 hlt9)
                have I9 := I7.stored (i := ⟨7, x, y⟩) hown9 hgr9
                clear hX hX2 hX3 hcell hcell1 hcell2 I I2 I3 I5 I7 hown9 hgr9
                go_roundw
                case rel => exact ⟨b3, acc ++ [⟨7, x, y⟩], by simp; omega, by simp, by simpa using HJ.out, hb3, I9⟩
                case measure => simp [intOf]; omega
          · have q0 : (op == 0) = false := by simpa using h0
            have q7 : (op == 7) = false := by simpa using h7
            cases hn2 : nextR s b1 with
            | error e =>
              have HJ := HS.out
              rw [loopR_err (insR_e1 hn h0 hn2)] at HJ
              subst HJ
              clear HS hn
              go_wp2_with (first
                | (go_at_call 32; refine hX.mono ?_; rintro _ w2 ⟨rfl, hR2, hg2⟩; have I2 := I.next hR2 hg2)
                | (go_at_call 41; refine (operands_1 _ q0 q7).mono ?_; rintro _ _ ⟨rfl, rfl⟩))
              have hB3 := blk_alloc (heap_alloc_new w2 (.cells #[.int .i64 op, .int .i64 0, .int .i64 0] 44)) (.cells #[.pointer (some ⟨w2.heap.size, 1, none⟩), .pointer (some ⟨w2.heap.size, 2, none⟩)] 72)
              have hQ3 := heap_alloc_new (w2.alloc (.cells #[.int .i64 op, .int .i64 0, .int .i64 0] 44)) (.cells #[.pointer (some ⟨w2.heap.size, 1, none⟩), .pointer (some ⟨w2.heap.size, 2, none⟩)] 72)
              have I3 := (I2.alloc (.cells #[.int .i64 op, .int .i64 0, .int .i64 0] 44)).alloc (.cells #[.pointer (some ⟨w2.heap.size, 1, none⟩), .pointer (some ⟨w2.heap.size, 2, none⟩)] 72)
              have hrow := I2.rowLt (Nat.le_refl _)
              have hbI := I2.size
              have hQn : (w2.alloc (.cells #[.int .i64 op, .int .i64 0, .int .i64 0] 44)).heap.size = w2.heap.size + 1 := by simp
              rw [hQn] at hQ3
              generalize (w2.alloc (.cells #[.int .i64 op, .int .i64 0, .int .i64 0] 44)).alloc (.cells #[.pointer (some ⟨w2.heap.size, 1, none⟩), .pointer (some ⟨w2.heap.size, 2, none⟩)] 72) = W3 at *
              generalize w2.heap.size = B at *
              have hX2 := next_no I3.rd hb1 hs hn2
              have hc0 := blk_cell hQ3 (j := 0) rfl
              refine wp_loop_rounds 1 ?_
              rw [rounds_succ]
              go_wp2_with (go_at_call 32; refine hX2.mono ?_; rintro _ w5 ⟨rfl, hR5, hg5⟩)
              exact ⟨rfl, rfl, grown_trans I3.grown hg5⟩
            | ok y =>
              obtain ⟨x, b2⟩ := y
              obtain ⟨_, _, _, _, hb2⟩ := nextR_ok hn2 hb1
              have HJ : Hid (loopR (insR s) (N - (acc.length + 1)) (acc ++ [⟨op, x, 0⟩]) b2 = res) := by
                have := HS.out
                rw [loopR_ok (insR_1 hn h0 h7 hn2)] at this
                exact this
              clear HS hn
              go_wp2_with (first
                | (go_at_call 32; refine hX.mono ?_; rintro _ w2 ⟨rfl, hR2, hg2⟩; have I2 := I.next hR2 hg2)
                | (go_at_call 41; refine (operands_1 _ q0 q7).mono ?_; rintro _ _ ⟨rfl, rfl⟩))
              have hB3 := blk_alloc (heap_alloc_new w2 (.cells #[.int .i64 op, .int .i64 0, .int .i64 0] 44)) (.cells #[.pointer (some ⟨w2.heap.size, 1, none⟩), .pointer (some ⟨w2.heap.size, 2, none⟩)] 72)
              have hQ3 := heap_alloc_new (w2.alloc (.cells #[.int .i64 op, .int .i64 0, .int .i64 0] 44)) (.cells #[.pointer (some ⟨w2.heap.size, 1, none⟩), .pointer (some ⟨w2.heap.size, 2, none⟩)] 72)
              have I3 := (I2.alloc (.cells #[.int .i64 op, .int .i64 0, .int .i64 0] 44)).alloc (.cells #[.pointer (some ⟨w2.heap.size, 1, none⟩), .pointer (some ⟨w2.heap.size, 2, none⟩)] 72)
              have hrow := I2.rowLt (Nat.le_refl _)
              have hbI := I2.size
              have hQn : (w2.alloc (.cells #[.int .i64 op, .int .i64 0, .int .i64 0] 44)).heap.size = w2.heap.size + 1 := by simp
              rw [hQn] at hQ3
              generalize (w2.alloc (.cells #[.int .i64 op, .int .i64 0, .int .i64 0] 44)).alloc (.cells #[.pointer (some ⟨w2.heap.size, 1, none⟩), .pointer (some ⟨w2.heap.size, 2, none⟩)] 72) = W3 at *
              generalize w2.heap.size = B at *
              have hX2 := next_ok I3.rd hb1 hs hn2
              have hc0 := blk_cell hQ3 (j := 0) rfl
              have hRB : R ≠ B := by have := I3.hRw; have := I3.hwb; omega
              have hRQ : R ≠ B + 1 := by have := I3.hRw; have := I3.hwb; omega
              refine wp_loop_rounds 2 ?_
              rw [rounds_succ]
              go_wp2_with (go_at_call 32; refine hX2.mono ?_; rintro _ w5 ⟨rfl, hR5, hg5⟩; have hB5 := blk_grown hB3 hg5 (by simpa using hRB); have hcell5 := blk_cell hB5 (j := 1) rfl; have hfree5 := blk_free hB5 1)
              have I5 := (I3.next hR5 hg5).set (I := B) (j := 1) hbI hrow (.int .i64 x)
              have hB6 := blk_set hB5 1 (.int .i64 x)
              generalize w5.setCell ⟨B, 1, none⟩ (.int .i64 x) = W6 at *
              have hcell := blk_cell hB6 (j := 0) rfl
              have hcell1 := blk_cell hB6 (j := 1) rfl
              have hcell2 := blk_cell hB6 (j := 2) rfl
              clear hcell5 hfree5
              rw [rounds_succ]
              go_wp2_with (at_builtin; refine wpList_append_lies _ rfl (.tmp 37) (.tmp 39) 42 rfl base 44 i0 _ 3 24 Try.underlying42 hi hz0 hz1 hz2 rfl (by omega) _ acc.length _ rfl (I5.own.alloc _) ⟨W6.heap.size, 0, none⟩ 1 1 [.int .i64 op, .int .i64 x, .int .i64 0] rfl rfl (World.news_of_block (heap_alloc_new W6 _)) (by simp [Value.oneCell']) (by omega) (by unfold maxLen; omega) (by omega) (by have := I5.size; simp; omega) (W6.heap.size + 1) (by simp) ?_; intro g cap w9 hown9 hgr9 hat9 hlt9)
              have I9 := I5.stored (i := ⟨op, x, 0⟩) hown9 hgr9
              clear hX hX2 hcell hcell1 hcell2 I I2 I3 I5 hown9 hgr9
              go_roundw
              case rel => exact ⟨b2, acc ++ [⟨op, x, 0⟩], by simp; omega, by simp, by simpa using HJ.out, hb2, I9⟩
              case measure => simp [intOf]; omega
    · have hE : Except.ok (acc, a') = res := by
        have := HI.out
        rw [show N - acc.length = 0 by omega] at this
        exact this
      subst hE
      clear HI HL
      have hlt : ¬ ((acc.length : Int) < N) := by omega
      go_wp2
      go_ret
      exact I.done

/-- reader.block. -/
theorem block_any {w : World} {R : Nat} {s : ByteArray} {a : Nat} (hR : RdAt w R s a) (ha : a ≤ s.size) (hs : s.size ≤ 140737488351232) :
    Calls Try.prog 34 #[.pointer (some ⟨R, 0, none⟩)] w (BlkPost w R s (blkR s a)) := by
  unfold blkR
  cases hm : manyR s 1 24 a with
  | error e =>
    have hM := many0_no hR ha hs hm (by decide) (by decide)
    clear hm
    go_enter Try.func34, Try.ntmps34
    go_wp2_with (go_at_call 31; refine hM.mono ?_; rintro _ w1 ⟨rfl, hR1, hg1⟩)
    exact ⟨rfl, rfl, hg1⟩
  | ok x =>
    obtain ⟨m, a1⟩ := x
    obtain ⟨h0, h1, h2⟩ := manyR_ok hm ha
    exact block_loop hR ha hs hm h2 h0 (by simpa using h1) rfl
end Go.Proofs.Ytlekjobicpnafaa.Cd
