/- The document's Get. Condition: the place lies in the text. -/
import Derived.Test.YtlekjobicpnafaaCdGetW
namespace Go.Proofs.Ytlekjobicpnafaa.Cd
open Go Go.RowKit Base
set_option linter.unusedVariables false
set_option linter.unusedSimpArgs false

def endGo (s : ByteArray) : Nat → Nat → Nat × Bool
  | 0, j => (j, false)
  | d + 1, j => if j < s.size then (if by8 s j < 128 then (j + 1, true) else endGo s d (j + 1)) else (j, false)
def endF (s : ByteArray) (a : Nat) : Nat × Bool := endGo s 5 a
def valB (s : ByteArray) (a : Nat) : Nat → Int
  | 0 => 0
  | j + 1 => valB s a j + (by8 s (a + j) % 128 : Nat) * 128 ^ j
def rgetOf (s : ByteArray) (a : Nat) (x : Nat × Bool) : Int × Int × Int :=
  if x.2 = false then (if x.1 = a + 5 then (0, 0, 10) else (0, 0, 9))
  else if a + 1 < x.1 ∧ by8 s (x.1 - 1) = 0 then (0, 0, 10)
  else if 2147483647 < valB s a (x.1 - a) then (0, 0, 8) else (valB s a (x.1 - a), x.1, 0)

theorem rget_go (s : ByteArray) (a : Nat) : ∀ d k : Nat, d + k = 5 → a + k ≤ s.size → getGo s a d k (valB s a k) = rgetOf s a (endGo s d (a + k))
  | 0, k, h, _ => by
    obtain rfl : k = 5 := by omega
    simp [getGo, rgetOf, endGo]
  | d + 1, k, h, hk => by
    by_cases h1 : a + k = s.size
    · rw [getGo_end h1, endGo, if_neg (by omega)]
      simp only [rgetOf, if_true]
      rw [if_neg (by omega)]
    · rw [endGo, if_pos (show a + k < s.size by omega)]
      by_cases h2 : 128 ≤ by8 s (a + k)
      · rw [if_neg (by omega), getGo_more h1 rfl rfl rfl h2]
        exact rget_go s a d (k + 1) (by omega) (by omega)
      · rw [if_pos (by omega)]
        have e1 : a + k + 1 - 1 = a + k := by omega
        have e2 : a + k + 1 - a = k + 1 := by omega
        simp only [rgetOf, e1, e2, Bool.true_eq_false, if_false]
        by_cases h3 : by8 s (a + k) = 0 ∧ 0 < k
        · rw [getGo_long h1 rfl h2 h3, if_pos ⟨by omega, h3.1⟩]
        · rw [if_neg (fun h => h3 ⟨h.2, by omega⟩)]
          by_cases h4 : 2147483647 < valB s a k + (by8 s (a + k) % 128 : Nat) * 128 ^ k
          · rw [getGo_over h1 rfl rfl rfl h2 h3 h4, valB, if_pos h4]
          · rw [getGo_done h1 rfl rfl rfl h2 h3 h4, valB, if_neg h4]; rfl
theorem rget_eq {s : ByteArray} {a : Nat} (h : a ≤ s.size) : getF s a = rgetOf s a (endF s a) := rget_go s a 5 0 rfl h

theorem endGo_le (s : ByteArray) : ∀ d j, j ≤ (endGo s d j).1 ∧ (endGo s d j).1 ≤ j + d ∧ (j ≤ s.size → (endGo s d j).1 ≤ s.size) ∧ ((endGo s d j).2 = true → j < (endGo s d j).1)
  | 0, j => by simp [endGo]
  | d + 1, j => by
    unfold endGo
    split
    · split
      · simp; omega
      · have := endGo_le s d (j + 1)
        refine ⟨by omega, by omega, fun _ => this.2.2.1 (by omega), fun h => by have := this.2.2.2 h; omega⟩
    · simp
theorem valB_nonneg (s : ByteArray) (a : Nat) : ∀ j, 0 ≤ valB s a j
  | 0 => by simp [valB]
  | j + 1 => by
    have := valB_nonneg s a j
    have h2 : (0 : Int) ≤ (by8 s (a + j) % 128 : Nat) * 128 ^ j := Int.mul_nonneg (by omega) (Int.le_of_lt (Int.pow_pos (by decide)))
    unfold valB; omega

set_option maxRecDepth 20000 in
set_option maxHeartbeats 4000000 in
theorem end_any (w : World) (s : ByteArray) (a : Nat) (h1 : a ≤ s.size) (hs : s.size ≤ 140737488351232) :
    Calls Try.prog 61 #[.string s, .int .i64 a] w fun r w' => r = .returned (.tuple #[.int .i64 (endF s a).1, .bool (endF s a).2]) ∧ w' = w := by
  go_enter Try.func61, Try.ntmps61
  go_wp2
  go_loopw [6] (fun i wr => ∃ j : Nat, a ≤ j ∧ j ≤ a + 5 ∧ j ≤ s.size ∧ i = .int .i64 j ∧ wr = w ∧ endF s a = endGo s (a + 5 - j) j) (fun i _ => a + 5 - (intOf i).toNat)
  case atStart => exact ⟨a, by omega, by omega, h1, rfl, rfl, by rw [endF, show a + 5 - a = 5 by omega]⟩
  case round =>
    obtain ⟨j, h2, h3, h4, rfl, rfl, hI⟩ := hrel
    by_cases h5 : j < s.size
    · by_cases h6 : j < a + 5
      · obtain ⟨c, hc⟩ : ∃ c : Nat, s[j].toNat = c := ⟨_, rfl⟩
        have HS : Hid (endGo s (a + 5 - j) j = if c < 128 then (j + 1, true) else endGo s (a + 5 - (j + 1)) (j + 1)) := by
          simp only [Hid]
          rw [show a + 5 - j = (a + 5 - (j + 1)) + 1 by omega, endGo, if_pos h5, by8, dif_pos h5, hc]
        have HI := Lib.hid hI
        clear hI
        have hc1 : c < 256 := hc ▸ UInt8.toNat_lt _
        by_cases h7 : c < 128
        · have HE : Hid (endF s a = (j + 1, true)) := by simp only [Hid]; rw [HI.out, HS.out, if_pos h7]
          clear HI HS
          go_wp2
          go_ret2
          refine ⟨?_, rfl⟩
          rw [HE.out]; rfl
        · have HE : Hid (endF s a = endGo s (a + 5 - (j + 1)) (j + 1)) := by simp only [Hid]; rw [HI.out, HS.out, if_neg h7]
          clear HI HS
          go_wp2
          go_roundw
          case rel => exact ⟨j + 1, by omega, by omega, by omega, by go_num, by trivial, HE.out⟩
          case measure => simp [intOf]; omega
      · have HE : Hid (endF s a = (j, false)) := by simp only [Hid]; rw [hI, show a + 5 - j = 0 by omega]; rfl
        clear hI
        go_wp2
        go_ret2
        refine ⟨?_, rfl⟩
        rw [HE.out]; rfl
    · have HE : Hid (endF s a = (j, false)) := by
        simp only [Hid]; rw [hI]
        cases a + 5 - j with
        | zero => rfl
        | succ d => rw [endGo, if_neg h5]
      clear hI
      go_wp2
      go_ret2
      refine ⟨?_, rfl⟩
      rw [HE.out]; rfl

theorem rgetOf_val {s : ByteArray} {a t : Nat} (h1 : ¬ (a + 1 < t ∧ by8 s (t - 1) = 0)) : rgetOf s a (t, true) = if 2147483647 < valB s a (t - a) then (0, 0, 8) else (valB s a (t - a), (t : Int), 0) := by
  simp only [rgetOf, Bool.true_eq_false, if_false]; rw [if_neg h1]

theorem valB_le (s : ByteArray) (a : Nat) : ∀ j, valB s a j < 128 ^ j
  | 0 => by simp [valB]
  | j + 1 => by
    have := valB_le s a j
    have h2 : ((by8 s (a + j) % 128 : Nat) : Int) * 128 ^ j ≤ 127 * 128 ^ j := Int.mul_le_mul_of_nonneg_right (by omega) (Int.le_of_lt (Int.pow_pos (by decide)))
    have h3 : (128 : Int) ^ (j + 1) = 128 * 128 ^ j := by rw [Int.pow_succ, Int.mul_comm]
    unfold valB; omega

set_option maxRecDepth 20000 in
set_option maxHeartbeats 4000000 in
theorem rget_any (w : World) (s : ByteArray) (a : Nat) (h1 : a ≤ s.size) (hs : s.size ≤ 140737488351232) {n to e : Int} (hg : getF s a = (n, to, e)) :
    Calls Try.prog 50 #[.string s, .int .i64 a] w fun r w' => r = .returned (.tuple #[.int .i64 n, .int .i64 to, .int .i64 e]) ∧ w' = w := by
  have hE := end_any w s a h1 hs
  rw [rget_eq h1] at hg
  obtain ⟨q1, q2, q3, q4⟩ := endGo_le s 5 a
  rw [show endGo s 5 a = endF s a from rfl] at q1 q2 q3 q4
  generalize endF s a = x at *
  obtain ⟨t, b⟩ := x
  replace q3 : t ≤ s.size := q3 h1
  replace q1 : a ≤ t := q1
  replace q2 : t ≤ a + 5 := q2
  replace q4 : b = true → a < t := q4
  simp only at hE
  have HG := Lib.hid hg
  clear hg
  cases b
  · by_cases h5 : t = a + 5
    · have HE : Hid (rgetOf s a (t, false) = (0, 0, 10)) := by simp only [Hid, rgetOf, if_true]; rw [if_pos h5]
      have h5 : (t : Int) = (a : Int) + 5 := by omega
      clear q4
      go_enter Try.func50, Try.ntmps50
      go_wp2_with (go_at_call 61; refine hE.mono ?_; rintro _ _ ⟨rfl, rfl⟩)
      go_ret3
      exact ⟨ret_iii' (HE.out.symm.trans HG.out), rfl⟩
    · have HE : Hid (rgetOf s a (t, false) = (0, 0, 9)) := by simp only [Hid, rgetOf, if_true]; rw [if_neg h5]
      have h5 : ¬ (t : Int) = (a : Int) + 5 := by omega
      clear q4
      go_enter Try.func50, Try.ntmps50
      go_wp2_with (go_at_call 61; refine hE.mono ?_; rintro _ _ ⟨rfl, rfl⟩)
      go_ret3
      exact ⟨ret_iii' (HE.out.symm.trans HG.out), rfl⟩
  · have q4 := q4 rfl
    obtain ⟨t, rfl⟩ : ∃ t', t = t' + 1 := ⟨t - 1, by omega⟩
    have ht : t < s.size := by omega
    obtain ⟨c, hc⟩ : ∃ c : Nat, s[t].toNat = c := ⟨_, rfl⟩
    have HC : Hid (by8 s t = c) := by simp only [Hid, by8]; rw [dif_pos ht]; exact hc
    have hc1 : c < 256 := hc ▸ UInt8.toNat_lt _
    have e1 : t + 1 - 1 = t := by omega
    by_cases h6 : a < t ∧ c = 0
    · have HE : Hid (rgetOf s a (t + 1, true) = (0, 0, 10)) := by
        simp only [Hid, rgetOf, e1, Bool.true_eq_false, if_false]; rw [if_pos ⟨by omega, by rw [HC.out]; exact h6.2⟩]
      obtain ⟨h6, rfl⟩ := h6
      clear HC
      go_enter Try.func50, Try.ntmps50
      go_wp2_with (go_at_call 61; refine hE.mono ?_; rintro _ _ ⟨rfl, rfl⟩)
      go_ret3
      exact ⟨ret_iii' (HE.out.symm.trans HG.out), rfl⟩
    · have HE := Lib.hid (rgetOf_val (s := s) (a := a) (t := t + 1) (by rw [e1, HC.out]; intro h; exact h6 ⟨by omega, h.2⟩))
      clear e1
      have h6' : ¬ ((a : Int) + 1 < (t : Int) + 1 ∧ c = 0) := fun h => h6 ⟨by omega, h.2⟩
      obtain ⟨V, hV⟩ : ∃ V, valB s a (t + 1 - a) = V := ⟨_, rfl⟩
      have hV1 : V < 34359738368 := by
        have h8 := valB_le s a (t + 1 - a)
        have h9 : (128 : Nat) ^ (t + 1 - a) ≤ 128 ^ 5 := Nat.pow_le_pow_right (by decide) (by omega)
        have h10 : (128 : Int) ^ (t + 1 - a) ≤ 34359738368 := by
          have h11 := Int.ofNat_le.2 h9
          rw [Int.natCast_pow] at h11
          exact Int.le_trans h11 (by decide)
        omega
      rw [hV] at HE
      have HV := Lib.hid hV
      have hta : a ≤ t := by omega
      have q2' : t ≤ a + 4 := by omega
      clear hV q1 q2 q3 q4 h6
      have ec : ((t + 1 : Nat) : Int) = (t : Int) + 1 := by omega
      rw [ec] at hE
      by_cases hat : a < t
      · have hc0 : ((c : Int) == 0) = false := by simp; exact fun h => h6' ⟨by omega, h⟩
        have hatd : decide ((a : Int) < t) = true := decide_eq_true (by omega)
        have hatd2 : decide (a < t) = true := decide_eq_true hat
        clear h6' ec
        go_enter Try.func50, Try.ntmps50
        go_wp2_with (go_at_call 61; refine hE.mono ?_; rintro _ w' ⟨rfl, hw⟩; obtain rfl := hw.symm)
        go_loopw [9, 10] (fun n i wr => ∃ (j : Nat) (m x : Int), j ≤ t + 1 - a ∧ n = .int .i64 m ∧ i = .int .i64 x ∧ x + 1 = (a : Int) + j ∧ wr = w ∧ 0 ≤ m ∧ m * 128 ^ j ≤ V ∧ valB s a j + m * 128 ^ j = V) (fun _ i _ => (intOf i + 1 - a).toNat)
        case atStart => exact ⟨t + 1 - a, 0, t, by omega, by go_num, by go_num, by omega, rfl, by omega, by rw [Int.zero_mul]; exact HV.out ▸ valB_nonneg _ _ _, by rw [HV.out]; omega⟩
        case round =>
          obtain ⟨j, m, x, hj, rfl, rfl, hx, rfl, hm0, hm1, hm2⟩ := hrel
          cases j with
          | zero =>
            have hx' : ¬ (a : Int) ≤ x := by omega
            obtain rfl : m = V := by simp [valB] at hm2; exact hm2
            clear hm2 hm1 hx
            by_cases hV2 : 2147483647 < m
            · have HE' : Hid (rgetOf s a (t + 1, true) = (0, 0, 8)) := by simp only [Hid]; rw [HE.out, if_pos hV2]
              go_wp2
              go_ret3
              exact ⟨ret_iii' (HE'.out.symm.trans HG.out), rfl⟩
            · have HE' : Hid (rgetOf s a (t + 1, true) = (m, ((t + 1 : Nat) : Int), 0)) := by simp only [Hid]; rw [HE.out, if_neg hV2]
              go_wp2
              go_ret3
              exact ⟨ret_iii' (HE'.out.symm.trans HG.out), rfl⟩
          | succ j =>
            obtain rfl : x = ((a + j : Nat) : Int) := by omega
            have hl : a + j < s.size := by omega
            obtain ⟨b, hb⟩ : ∃ b : Nat, s[a + j].toNat = b := ⟨_, rfl⟩
            have hb1 : b < 256 := hb ▸ UInt8.toNat_lt _
            have HB : Hid (by8 s (a + j) = b) := by simp only [Hid, by8]; rw [dif_pos hl]; exact hb
            have htm : (b : Int).tmod 128 = (b % 128 : Nat) := by rw [Int.tmod_eq_emod_of_nonneg (by omega)]; omega
            obtain ⟨d, hd⟩ : ∃ d : Int, ((b % 128 : Nat) : Int) = d := ⟨_, rfl⟩
            rw [hd] at htm
            have hd0 : 0 ≤ d := by omega
            have hd1 : d < 128 := by omega
            have hp : (0 : Int) < 128 ^ j := Int.pow_pos (by decide)
            have HN : Hid (valB s a j + (128 * m + d) * 128 ^ j = V) := by
              simp only [Hid]
              rw [← hm2, valB, HB.out, hd, Int.add_mul, Int.pow_succ]
              rw [Int.mul_comm 128 m, Int.mul_assoc, Int.mul_comm (128 ^ j) 128, Int.mul_comm 128 (128 ^ j)] 
              simp only [Int.mul_comm, Int.mul_left_comm]
              omega
            have HN1 : Hid ((128 * m + d) * 128 ^ j ≤ V) := by
              have := valB_nonneg s a j
              have := HN.out
              simp only [Hid]; omega
            have hn0 : 128 * m + d ≤ 34359738368 := by
              have h9 : (128 * m + d) * 1 ≤ (128 * m + d) * 128 ^ j := Int.mul_le_mul_of_nonneg_left (by omega) (by omega)
              have := HN1.out
              omega
            clear hm1 hm2 hd hp hx
            have hx' : (a : Int) ≤ ((a + j : Nat) : Int) := by omega
            go_wp2
            go_roundw
            case rel => exact ⟨j, 128 * m + d, (a : Int) + j - 1, by omega, by go_num, by go_num, by omega, by trivial, by omega, HN1.out, HN.out⟩
            case measure => simp [intOf]; omega
      · clear h6'
        go_enter Try.func50, Try.ntmps50
        go_wp2_with (go_at_call 61; refine hE.mono ?_; rintro _ w' ⟨rfl, hw⟩; obtain rfl := hw.symm)
        go_loopw [9, 10] (fun n i wr => ∃ (j : Nat) (m x : Int), j ≤ t + 1 - a ∧ n = .int .i64 m ∧ i = .int .i64 x ∧ x + 1 = (a : Int) + j ∧ wr = w ∧ 0 ≤ m ∧ m * 128 ^ j ≤ V ∧ valB s a j + m * 128 ^ j = V) (fun _ i _ => (intOf i + 1 - a).toNat)
        case atStart => exact ⟨t + 1 - a, 0, t, by omega, by go_num, by go_num, by omega, rfl, by omega, by rw [Int.zero_mul]; exact HV.out ▸ valB_nonneg _ _ _, by rw [HV.out]; omega⟩
        case round =>
          obtain ⟨j, m, x, hj, rfl, rfl, hx, rfl, hm0, hm1, hm2⟩ := hrel
          cases j with
          | zero =>
            have hx' : ¬ (a : Int) ≤ x := by omega
            obtain rfl : m = V := by simp [valB] at hm2; exact hm2
            clear hm2 hm1 hx
            by_cases hV2 : 2147483647 < m
            · have HE' : Hid (rgetOf s a (t + 1, true) = (0, 0, 8)) := by simp only [Hid]; rw [HE.out, if_pos hV2]
              go_wp2
              go_ret3
              exact ⟨ret_iii' (HE'.out.symm.trans HG.out), rfl⟩
            · have HE' : Hid (rgetOf s a (t + 1, true) = (m, ((t + 1 : Nat) : Int), 0)) := by simp only [Hid]; rw [HE.out, if_neg hV2]
              go_wp2
              go_ret3
              exact ⟨ret_iii' (HE'.out.symm.trans HG.out), rfl⟩
          | succ j =>
            obtain rfl : x = ((a + j : Nat) : Int) := by omega
            have hl : a + j < s.size := by omega
            obtain ⟨b, hb⟩ : ∃ b : Nat, s[a + j].toNat = b := ⟨_, rfl⟩
            have hb1 : b < 256 := hb ▸ UInt8.toNat_lt _
            have HB : Hid (by8 s (a + j) = b) := by simp only [Hid, by8]; rw [dif_pos hl]; exact hb
            have htm : (b : Int).tmod 128 = (b % 128 : Nat) := by rw [Int.tmod_eq_emod_of_nonneg (by omega)]; omega
            obtain ⟨d, hd⟩ : ∃ d : Int, ((b % 128 : Nat) : Int) = d := ⟨_, rfl⟩
            rw [hd] at htm
            have hd0 : 0 ≤ d := by omega
            have hd1 : d < 128 := by omega
            have hp : (0 : Int) < 128 ^ j := Int.pow_pos (by decide)
            have HN : Hid (valB s a j + (128 * m + d) * 128 ^ j = V) := by
              simp only [Hid]
              rw [← hm2, valB, HB.out, hd, Int.add_mul, Int.pow_succ]
              rw [Int.mul_comm 128 m, Int.mul_assoc, Int.mul_comm (128 ^ j) 128, Int.mul_comm 128 (128 ^ j)] 
              simp only [Int.mul_comm, Int.mul_left_comm]
              omega
            have HN1 : Hid ((128 * m + d) * 128 ^ j ≤ V) := by
              have := valB_nonneg s a j
              have := HN.out
              simp only [Hid]; omega
            have hn0 : 128 * m + d ≤ 34359738368 := by
              have h9 : (128 * m + d) * 1 ≤ (128 * m + d) * 128 ^ j := Int.mul_le_mul_of_nonneg_left (by omega) (by omega)
              have := HN1.out
              omega
            clear hm1 hm2 hd hp hx
            have hx' : (a : Int) ≤ ((a + j : Nat) : Int) := by omega
            go_wp2
            go_roundw
            case rel => exact ⟨j, 128 * m + d, (a : Int) + j - 1, by omega, by go_num, by go_num, by omega, by trivial, by omega, HN1.out, HN.out⟩
            case measure => simp [intOf]; omega
end Go.Proofs.Ytlekjobicpnafaa.Cd
