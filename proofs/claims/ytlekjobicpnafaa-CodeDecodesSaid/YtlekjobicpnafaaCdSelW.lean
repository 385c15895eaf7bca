/- code's reader: sel, walked. Condition: the reader lies in a block of its own. -/
import Derived.Test.YtlekjobicpnafaaCdSel
namespace Go.Proofs.Ytlekjobicpnafaa.Cd
open Go Go.RowKit Base Pg
set_option linter.unusedVariables false
set_option linter.unusedSimpArgs false

theorem cseR_ok {s : ByteArray} {a : Nat} {n : Int} {b : Nat} (h : nextR s a = .ok (n, b)) : cseR s a = .ok (⟨n % 2 == 1, n / 2⟩, b) := by simp only [cseR, h]
theorem cseR_err {s : ByteArray} {a : Nat} {e : Int} (h : nextR s a = .error e) : cseR s a = .error e := by simp only [cseR, h]
theorem loopR_ok {α : Type} {p : Rd α} {n : Nat} {acc : List α} {a : Nat} {x : α} {b : Nat} (h : p a = .ok (x, b)) : loopR p (n + 1) acc a = loopR p n (acc ++ [x]) b := by simp only [loopR, h]
theorem loopR_err {α : Type} {p : Rd α} {n : Nat} {acc : List α} {a : Nat} {e : Int} (h : p a = .error e) : loopR p (n + 1) acc a = .error e := by simp only [loopR, h]

/-- What comes of reading a select. -/
def SelPost (w : World) (R : Nat) (s : ByteArray) (d : Bool) (res : Except Int (List Cse × Nat)) (r : Ending) (w' : World) : Prop := match res with
  | .ok (l, b) => (∃ A cap, r = .returned (.agg #[.slice A l.length cap, .bool d]) ∧ l.length ≤ cap ∧ RowAt 2 CseE (Fresh w w') w' A l) ∧ RdAt w' R s b ∧ w.grownBy w' (some R)
  | .error e => r = .panicked (failV e) ∧ w.grownBy w' (some R)

set_option maxHeartbeats 4000000 in
theorem sel_loop {w : World} {R : Nat} {s : ByteArray} {a : Nat} (hR : RdAt w R s a) (ha : a ≤ s.size) (hs : s.size ≤ 140737488351232) {m : Int} {a1 : Nat} (hm : manyR s 2 4 a = .ok (m, a1)) (ha1 : a1 ≤ s.size) (hm0 : 0 ≤ m / 2) (hm4 : m / 2 ≤ 4) {res : Except Int (List Cse × Nat)} (hl : loopR (cseR s) (m / 2).toNat [] a1 = res) :
    Calls Try.prog 33 #[.pointer (some ⟨R, 0, none⟩)] w (SelPost w R s (m % 2 == 1) res) := by
  obtain ⟨N, hN⟩ := Int.eq_ofNat_of_zero_le hm0
  obtain ⟨i0, hi, hz0, hz1, hz2⟩ := info_parts Try.infoC
  have hM := many1_ok (w := w.alloc (.cells #[.slice none 0 0, .bool false] 63)) (blk_alloc hR _) ha hs hm (by decide) (by decide)
  rw [hN] at hM hl
  simp only [Int.toNat_natCast] at hl
  generalize (m % 2 == 1) = d at hM ⊢
  have hRw := hR.lt
  have HL := Lib.hid hl
  clear hl hm
  go_enter Try.func33, Try.ntmps33
  go_wp2_with (go_at_call 31; refine hM.mono ?_; rintro _ w1 ⟨rfl, hR1, hg1⟩)
  clear hM
  have hT1 : w1.heap[w.heap.size]? = some (.cells #[.slice none 0 0, .bool false] 63 (0, 0)) := blk_grown (heap_alloc_new w _) hg1 (by simp; omega)
  have hsz1 : w.heap.size < w1.heap.size := lt_of_block hT1
  have I0 : SelInv w (w1.alloc (.cells #[.slice none 0 0, .bool d] 63)) R s w.heap.size w1.heap.size (w1.heap.size + 1) d [] (.slice none 0 0) a1 :=
    ⟨blk_alloc hR1 _, blk_alloc hT1 _, heap_alloc_new w1 _, World.ownsRow_nil _ _ _ _, grown_new (grown_trans (World.grownBy_alloc w _ (some R)) hg1) (World.grownBy_alloc _ _ none) (by simp), by simp, by omega, by omega, hRw, Nat.le_refl _, by omega, by omega⟩
  clear hT1 hR1 hg1 hR
  generalize hBe : w1.heap.size = B at *
  obtain ⟨T, hTe⟩ : ∃ T, w.heap.size = T := ⟨_, rfl⟩
  have HTe := Lib.hid hTe
  rw [hTe] at I0
  simp only [hTe]
  clear hTe
  go_loopw [15] (fun i wr => ∃ (a' : Nat) (acc : List Cse) (v : Value), acc.length ≤ N ∧ i = .int .i64 acc.length ∧ loopR (cseR s) (N - acc.length) acc a' = res ∧ a' ≤ s.size ∧ SelInv w wr R s T B (B + 1) d acc v a') (fun i _ => N - (intOf i).toNat)
  case atStart => exact ⟨a1, [], _, Nat.zero_le _, rfl, HL.out, ha1, I0⟩
  case round =>
    obtain ⟨a', acc, v, hj, rfl, hI, ha', I⟩ := hrel
    have HI := Lib.hid hI
    clear hI
    by_cases hlt : acc.length < N
    · cases hn : nextR s a' with
      | error e =>
        have HJ := HI.out
        rw [show N - acc.length = (N - (acc.length + 1)) + 1 by omega, loopR_err (cseR_err hn)] at HJ
        subst HJ
        have hX := next_no I.rd ha' hs hn
        clear hn HI
        go_wp2_with (go_at_call 32; refine hX.mono ?_; rintro _ w2 ⟨rfl, hR2, hg2⟩)
        exact ⟨rfl, rfl, grown_trans I.grown hg2⟩
      | ok x =>
        obtain ⟨n, b1⟩ := x
        obtain ⟨_, n0, n1, _, hb1⟩ := nextR_ok hn ha'
        have HJ : Hid (loopR (cseR s) (N - (acc.length + 1)) (acc ++ [⟨n % 2 == 1, n / 2⟩]) b1 = res) := by
          have := HI.out
          rw [show N - acc.length = (N - (acc.length + 1)) + 1 by omega, loopR_ok (cseR_ok hn)] at this
          exact this
        have hX := next_ok I.rd ha' hs hn
        have hand := and_one n0 n1
        obtain ⟨q, hq⟩ : ∃ q : Bool, (n % 2 == 1) = q := ⟨_, rfl⟩
        rw [hq] at HJ
        clear hn HI
        go_wp2_with (first
          | (go_at_call 32; refine hX.mono ?_; rintro _ w2 ⟨rfl, hR2, hg2⟩; have I2 := I.next hR2 hg2; have hcell := blk_cell I2.b (j := 0) rfl; have hfree := blk_free I2.b 0)
          | (at_builtin; refine wpList_append_lies _ rfl (.tmp 20) (.tmp 27) 61 rfl (B + 1) 83 i0 _ 2 16 Try.underlying61 hi hz0 hz1 hz2 rfl (by omega) v acc.length _ rfl (I2.own.alloc _) ⟨w2.heap.size, 0, none⟩ 1 1 [.bool q, .int .i64 (n / 2)] rfl rfl (World.news_of_block (heap_alloc_new w2 _)) (by simp [Value.oneCell']) (by omega) (by unfold maxLen; omega) (by omega) (by have := I2.size; simp; omega) (w2.heap.size + 1) (by simp) ?_; intro g cap w3 hown3 hgr3 hat3 hlt3; have hne3 := I2.rowB; have hb3 := blk_grown (blk_alloc I2.b _) hgr3 hne3; have hcell3 := blk_cell hb3 (j := 0) rfl; have hfree3 := blk_free hb3 0))
        have I3 := I2.stored (c := ⟨q, n / 2⟩) hown3 hgr3 hat3
        clear hX hand hcell hfree hcell3 hfree3 I I2 hown3 hgr3
        go_roundw
        case rel => exact ⟨b1, acc ++ [⟨q, n / 2⟩], _, by simp; omega, by simp, by simpa using HJ.out, hb1, I3⟩
        case measure => simp [intOf]; omega
    · have hE : Except.ok (acc, a') = res := by
        have := HI.out
        rw [show N - acc.length = 0 by omega] at this
        exact this
      subst hE
      clear HI HL
      obtain ⟨A, cap, rfl⟩ := own_shape I.own
      have hc0 := blk_cell I.b (j := 0) rfl
      have hc1 := blk_cell I.b (j := 1) rfl
      have ht0 := blk_cell I.t (j := 0) rfl
      have ht1 := blk_cell I.t (j := 1) rfl
      have hf0 := blk_free I.t 0
      have hf1 := blk_free I.t 1
      have hW := blk_set (blk_set I.t 0 (.slice A acc.length cap)) 1 (.bool d)
      have hlt : ¬ ((acc.length : Int) < N) := by omega
      go_wp2
      (try simp only [Exit.inBlock, Exit.then])
      refine bodyPost_ret (results_cell_row rfl _ _ T 63 #[.slice A acc.length cap, .bool d] (0, 0) _ rfl (by simpa using hW) Try.underlying63 rfl (by kernel_rfl)) rfl ?_
      obtain ⟨r1, r2, r3, r4⟩ := I.done
      exact ⟨r1, r2, r3⟩

theorem manyR_ok {s : ByteArray} {k most : Int} {a : Nat} {m : Int} {b : Nat} (h : manyR s k most a = .ok (m, b)) (ha : a ≤ s.size) : 0 ≤ m ∧ m / k ≤ most ∧ b ≤ s.size := by
  unfold manyR at h
  cases hn : nextR s a with
  | error e => rw [hn] at h; cases h
  | ok x =>
    obtain ⟨m', c⟩ := x
    rw [hn] at h
    simp only at h
    split at h
    · cases h
    · simp only [Except.ok.injEq, Prod.mk.injEq] at h
      obtain ⟨rfl, rfl⟩ := h
      obtain ⟨_, h0, h1, h2, h3⟩ := nextR_ok hn ha
      exact ⟨h0, by omega, h3⟩

/-- reader.sel. -/
theorem sel_any {w : World} {R : Nat} {s : ByteArray} {a : Nat} (hR : RdAt w R s a) (ha : a ≤ s.size) (hs : s.size ≤ 140737488351232) :
    Calls Try.prog 33 #[.pointer (some ⟨R, 0, none⟩)] w fun r w' => match selR s a with
      | .ok (x, b) => (∃ A cap, r = .returned (.agg #[.slice A x.cases.length cap, .bool x.dflt]) ∧ x.cases.length ≤ cap ∧ RowAt 2 CseE (Fresh w w') w' A x.cases) ∧ RdAt w' R s b ∧ w.grownBy w' (some R)
      | .error e => r = .panicked (failV e) ∧ w.grownBy w' (some R) := by
  unfold selR
  cases hm : manyR s 2 4 a with
  | error e =>
    simp only
    have hM := many1_no (w := w.alloc (.cells #[.slice none 0 0, .bool false] 63)) (blk_alloc hR _) ha hs hm (by decide) (by decide)
    clear hm
    go_enter Try.func33, Try.ntmps33
    go_wp2_with (go_at_call 31; refine hM.mono ?_; rintro _ w1 ⟨rfl, hR1, hg1⟩)
    exact ⟨rfl, rfl, grown_trans (World.grownBy_alloc w _ (some R)) hg1⟩
  | ok x =>
    obtain ⟨m, a1⟩ := x
    obtain ⟨h0, h1, h2⟩ := manyR_ok hm ha
    simp only
    refine (sel_loop hR ha hs hm h2 (by omega) h1 rfl).mono ?_
    intro r w' h
    unfold SelPost at h
    cases hl : loopR (cseR s) (m / 2).toNat [] a1 with
    | error e => rw [hl] at h; exact h
    | ok y =>
      obtain ⟨l, b⟩ := y
      rw [hl] at h
      exact h
end Go.Proofs.Ytlekjobicpnafaa.Cd
