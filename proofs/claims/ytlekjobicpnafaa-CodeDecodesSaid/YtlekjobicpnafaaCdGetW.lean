/- varint.Get, walked. Condition: the place lies in the text. -/
import Derived.Test.YtlekjobicpnafaaCdGet
namespace Go.Proofs.Ytlekjobicpnafaa.Cd
open Go Go.RowKit Base
set_option linter.unusedVariables false
set_option linter.unusedSimpArgs false

set_option maxRecDepth 20000 in
set_option maxHeartbeats 8000000 in
theorem get_any (w : World) (s : ByteArray) (a : Nat) (h1 : a ≤ s.size) (hs : s.size ≤ 140737488351232) {n to e : Int} (hg : getF s a = (n, to, e)) :
    Calls Try.prog 49 #[.string s, .int .i64 a] w fun r w' => r = .returned (.tuple #[.int .i64 n, .int .i64 to, .int .i64 e]) ∧ w' = w := by
  have HG := Lib.hid hg
  clear hg
  have d0 : decide ((a : Int) < 0) = false := decide_eq_false (by omega)
  have d1 : decide (s.size < a) = false := decide_eq_false (by omega)
  go_enter Try.func49, Try.ntmps49
  go_wp2
  go_loopw [7, 18] (fun n i wr => ∃ (k : Nat) (m : Int), k ≤ 5 ∧ n = .int .i64 m ∧ i = .int .i64 k ∧ wr = w ∧ getF s a = getGo s a (5 - k) k m ∧ 0 ≤ m ∧ m < 128 ^ k ∧ a + k ≤ s.size) (fun _ i _ => 5 - (intOf i).toNat)
  case atStart => exact ⟨0, 0, by omega, rfl, rfl, rfl, rfl, by omega, by omega, by omega⟩
  case round =>
    obtain ⟨k, m, hk, rfl, rfl, rfl, hgo, hm0, hm1, hak⟩ := hrel
    have HO := Lib.hid hgo
    clear hgo
    rcases (show k = 0 ∨ k = 1 ∨ k = 2 ∨ k = 3 ∨ k = 4 ∨ k = 5 by omega) with rfl | rfl | rfl | rfl | rfl | rfl
    · by_cases hz : a < s.size
      · obtain ⟨c, hc⟩ : ∃ c : Nat, s[a].toNat = c := ⟨_, rfl⟩
        have HC : Hid (by8 s (a + 0) = c) := by simp only [Hid, by8]; rw [dif_pos (show a + 0 < s.size by omega)]; exact hc
        have hc1 : c < 256 := hc ▸ UInt8.toNat_lt _
        have hand := and127 hc1
        have hlt : c % 128 < 128 := Nat.mod_lt _ (by decide)
        obtain ⟨b, hb⟩ : ∃ b : Int, ((c % 128 : Nat) : Int) = b := ⟨_, rfl⟩
        have hb0 : 0 ≤ b := by omega
        have hb1 : b < 128 := by omega
        have hor := or_high (m := m) (x := b) (i := 0) (p := 1) (by decide) (by decide) hm0 (by simpa using hm1) hb0 hb1
        have HM : Hid (m + ((c % 128 : Nat) : Int) * 1 = m + b * 1) := by rw [hb]; rfl
        obtain ⟨m', hm'⟩ : ∃ m' : Int, m + b * 1 = m' := ⟨_, rfl⟩
        rw [hm'] at HM hor
        rw [hb] at hand
        have hm0' : 0 ≤ m' := by omega
        have hm2 : m < 1 := by simpa using hm1
        have HB : Hid (m' < 128 ^ 1) := by simp only [Hid]; omega
        have hne : ¬ ((a : Int) = s.size) := by omega
        have HN : Hid (¬ a + 0 = s.size) := by simp only [Hid]; omega
        have HK : Hid (a + 1 ≤ s.size) := by simp only [Hid]; omega
        clear hb hm' hm2 hlt
        simp only [Int.mul_one] at hor
        by_cases h2 : 128 ≤ c
        · have HE := Lib.hid (getGo_more (d := 4) HN.out HC.out (show (1 : Int) = 128 ^ 0 by decide) HM.out h2)
          have h2i : (128 : Int) ≤ c := by omega
          clear h2
          go_wp2
          go_roundw
          case rel => exact ⟨1, m', by omega, by go_num, by go_num, by trivial, by rw [HO.out, HE.out], hm0', HB.out, HK.out⟩
          case measure => simp [intOf]
        · by_cases h3 : c = 0
          · subst h3
            obtain rfl : m = 0 := by omega
            have hor0 : bits BinOp.or IntKind.i64 0 0 = 0 := by decide
            have hand0 : bits BinOp.and IntKind.u8 0 127 = 0 := by decide
            have HE := Lib.hid (getGo_done (d := 4) (m := 0) (p := 1) (m' := 0) HN.out HC.out (by decide) (by decide) h2 (fun h => absurd h.2 (by omega)) (by decide))
            clear h2 hor hand HM HB hm0' hb0 hb1
            go_wp2
            go_ret3
            exact ⟨ret_iii' ((HE.out.symm.trans HO.out.symm).trans HG.out), rfl⟩
          · by_cases h4 : 2147483647 < m'
            · have HE := Lib.hid (getGo_over (d := 4) HN.out HC.out (show (1 : Int) = 128 ^ 0 by decide) HM.out h2 (fun h => absurd h.2 (by omega)) h4)
              have h2i : ¬ (128 : Int) ≤ c := by omega
              have h3i : ¬ (c : Int) = 0 := by omega
              clear h2
              go_wp2
              go_ret3
              exact ⟨ret_iii' ((HE.out.symm.trans HO.out.symm).trans HG.out), rfl⟩
            · have HE := Lib.hid (getGo_done (d := 4) HN.out HC.out (show (1 : Int) = 128 ^ 0 by decide) HM.out h2 (fun h => absurd h.2 (by omega)) h4)
              have h2i : ¬ (128 : Int) ≤ c := by omega
              have h3i : ¬ (c : Int) = 0 := by omega
              clear h2
              go_wp2
              go_ret3
              exact ⟨ret_iii' ((HE.out.symm.trans HO.out.symm).trans HG.out), rfl⟩
      · have HE := Lib.hid (getGo_end (s := s) (a := a) (d := 4) (k := 0) (m := m) (by omega))
        have hz' : (a : Int) = s.size := by omega
        go_wp2
        go_ret3
        exact ⟨ret_iii' ((HE.out.symm.trans HO.out.symm).trans HG.out), rfl⟩
    · by_cases hz : a + 1 < s.size
      · obtain ⟨c, hc⟩ : ∃ c : Nat, s[a + 1].toNat = c := ⟨_, rfl⟩
        have HC : Hid (by8 s (a + 1) = c) := by simp only [Hid, by8]; rw [dif_pos (show a + 1 < s.size by omega)]; exact hc
        have hc1 : c < 256 := hc ▸ UInt8.toNat_lt _
        have hand := and127 hc1
        have hlt : c % 128 < 128 := Nat.mod_lt _ (by decide)
        obtain ⟨b, hb⟩ : ∃ b : Int, ((c % 128 : Nat) : Int) = b := ⟨_, rfl⟩
        have hb0 : 0 ≤ b := by omega
        have hb1 : b < 128 := by omega
        have hor := or_high (m := m) (x := b) (i := 7) (p := 128) (by decide) (by decide) hm0 (by simpa using hm1) hb0 hb1
        have HM : Hid (m + ((c % 128 : Nat) : Int) * 128 = m + b * 128) := by rw [hb]; rfl
        obtain ⟨m', hm'⟩ : ∃ m' : Int, m + b * 128 = m' := ⟨_, rfl⟩
        rw [hm'] at HM hor
        rw [hb] at hand
        have hm0' : 0 ≤ m' := by omega
        have hm2 : m < 128 := by simpa using hm1
        have HB : Hid (m' < 128 ^ 2) := by simp only [Hid]; omega
        have hne : ¬ ((a : Int) + 1 = s.size) := by omega
        have HN : Hid (¬ a + 1 = s.size) := by simp only [Hid]; omega
        have HK : Hid (a + 2 ≤ s.size) := by simp only [Hid]; omega
        clear hb hm' hm1 hm2 hlt
        by_cases h2 : 128 ≤ c
        · have HE := Lib.hid (getGo_more (d := 3) HN.out HC.out (show (128 : Int) = 128 ^ 1 by decide) HM.out h2)
          have h2i : (128 : Int) ≤ c := by omega
          clear h2
          go_wp2
          go_roundw
          case rel => exact ⟨2, m', by omega, by go_num, by go_num, by trivial, by rw [HO.out, HE.out], hm0', HB.out, HK.out⟩
          case measure => simp [intOf]
        · by_cases h3 : c = 0
          · have HE := Lib.hid (getGo_long (d := 3) (m := m) HN.out HC.out h2 ⟨h3, by omega⟩)
            clear h2 HM
            subst h3
            go_wp2
            go_ret3
            exact ⟨ret_iii' ((HE.out.symm.trans HO.out.symm).trans HG.out), rfl⟩
          · by_cases h4 : 2147483647 < m'
            · have HE := Lib.hid (getGo_over (d := 3) HN.out HC.out (show (128 : Int) = 128 ^ 1 by decide) HM.out h2 (fun h => h3 h.1) h4)
              have h2i : ¬ (128 : Int) ≤ c := by omega
              have h3i : ¬ (c : Int) = 0 := by omega
              clear h2
              go_wp2
              go_ret3
              exact ⟨ret_iii' ((HE.out.symm.trans HO.out.symm).trans HG.out), rfl⟩
            · have HE := Lib.hid (getGo_done (d := 3) HN.out HC.out (show (128 : Int) = 128 ^ 1 by decide) HM.out h2 (fun h => h3 h.1) h4)
              have h2i : ¬ (128 : Int) ≤ c := by omega
              have h3i : ¬ (c : Int) = 0 := by omega
              clear h2
              go_wp2
              go_ret3
              exact ⟨ret_iii' ((HE.out.symm.trans HO.out.symm).trans HG.out), rfl⟩
      · have HE := Lib.hid (getGo_end (s := s) (a := a) (d := 3) (k := 1) (m := m) (by omega))
        have hz' : (a : Int) + 1 = s.size := by omega
        go_wp2
        go_ret3
        exact ⟨ret_iii' ((HE.out.symm.trans HO.out.symm).trans HG.out), rfl⟩
    · by_cases hz : a + 2 < s.size
      · obtain ⟨c, hc⟩ : ∃ c : Nat, s[a + 2].toNat = c := ⟨_, rfl⟩
        have HC : Hid (by8 s (a + 2) = c) := by simp only [Hid, by8]; rw [dif_pos (show a + 2 < s.size by omega)]; exact hc
        have hc1 : c < 256 := hc ▸ UInt8.toNat_lt _
        have hand := and127 hc1
        have hlt : c % 128 < 128 := Nat.mod_lt _ (by decide)
        obtain ⟨b, hb⟩ : ∃ b : Int, ((c % 128 : Nat) : Int) = b := ⟨_, rfl⟩
        have hb0 : 0 ≤ b := by omega
        have hb1 : b < 128 := by omega
        have hor := or_high (m := m) (x := b) (i := 14) (p := 16384) (by decide) (by decide) hm0 (by simpa using hm1) hb0 hb1
        have HM : Hid (m + ((c % 128 : Nat) : Int) * 16384 = m + b * 16384) := by rw [hb]; rfl
        obtain ⟨m', hm'⟩ : ∃ m' : Int, m + b * 16384 = m' := ⟨_, rfl⟩
        rw [hm'] at HM hor
        rw [hb] at hand
        have hm0' : 0 ≤ m' := by omega
        have hm2 : m < 16384 := by simpa using hm1
        have HB : Hid (m' < 128 ^ 3) := by simp only [Hid]; omega
        have hne : ¬ ((a : Int) + 2 = s.size) := by omega
        have HN : Hid (¬ a + 2 = s.size) := by simp only [Hid]; omega
        have HK : Hid (a + 3 ≤ s.size) := by simp only [Hid]; omega
        clear hb hm' hm1 hm2 hlt
        by_cases h2 : 128 ≤ c
        · have HE := Lib.hid (getGo_more (d := 2) HN.out HC.out (show (16384 : Int) = 128 ^ 2 by decide) HM.out h2)
          have h2i : (128 : Int) ≤ c := by omega
          clear h2
          go_wp2
          go_roundw
          case rel => exact ⟨3, m', by omega, by go_num, by go_num, by trivial, by rw [HO.out, HE.out], hm0', HB.out, HK.out⟩
          case measure => simp [intOf]
        · by_cases h3 : c = 0
          · have HE := Lib.hid (getGo_long (d := 2) (m := m) HN.out HC.out h2 ⟨h3, by omega⟩)
            clear h2 HM
            subst h3
            go_wp2
            go_ret3
            exact ⟨ret_iii' ((HE.out.symm.trans HO.out.symm).trans HG.out), rfl⟩
          · by_cases h4 : 2147483647 < m'
            · have HE := Lib.hid (getGo_over (d := 2) HN.out HC.out (show (16384 : Int) = 128 ^ 2 by decide) HM.out h2 (fun h => h3 h.1) h4)
              have h2i : ¬ (128 : Int) ≤ c := by omega
              have h3i : ¬ (c : Int) = 0 := by omega
              clear h2
              go_wp2
              go_ret3
              exact ⟨ret_iii' ((HE.out.symm.trans HO.out.symm).trans HG.out), rfl⟩
            · have HE := Lib.hid (getGo_done (d := 2) HN.out HC.out (show (16384 : Int) = 128 ^ 2 by decide) HM.out h2 (fun h => h3 h.1) h4)
              have h2i : ¬ (128 : Int) ≤ c := by omega
              have h3i : ¬ (c : Int) = 0 := by omega
              clear h2
              go_wp2
              go_ret3
              exact ⟨ret_iii' ((HE.out.symm.trans HO.out.symm).trans HG.out), rfl⟩
      · have HE := Lib.hid (getGo_end (s := s) (a := a) (d := 2) (k := 2) (m := m) (by omega))
        have hz' : (a : Int) + 2 = s.size := by omega
        go_wp2
        go_ret3
        exact ⟨ret_iii' ((HE.out.symm.trans HO.out.symm).trans HG.out), rfl⟩
    · by_cases hz : a + 3 < s.size
      · obtain ⟨c, hc⟩ : ∃ c : Nat, s[a + 3].toNat = c := ⟨_, rfl⟩
        have HC : Hid (by8 s (a + 3) = c) := by simp only [Hid, by8]; rw [dif_pos (show a + 3 < s.size by omega)]; exact hc
        have hc1 : c < 256 := hc ▸ UInt8.toNat_lt _
        have hand := and127 hc1
        have hlt : c % 128 < 128 := Nat.mod_lt _ (by decide)
        obtain ⟨b, hb⟩ : ∃ b : Int, ((c % 128 : Nat) : Int) = b := ⟨_, rfl⟩
        have hb0 : 0 ≤ b := by omega
        have hb1 : b < 128 := by omega
        have hor := or_high (m := m) (x := b) (i := 21) (p := 2097152) (by decide) (by decide) hm0 (by simpa using hm1) hb0 hb1
        have HM : Hid (m + ((c % 128 : Nat) : Int) * 2097152 = m + b * 2097152) := by rw [hb]; rfl
        obtain ⟨m', hm'⟩ : ∃ m' : Int, m + b * 2097152 = m' := ⟨_, rfl⟩
        rw [hm'] at HM hor
        rw [hb] at hand
        have hm0' : 0 ≤ m' := by omega
        have hm2 : m < 2097152 := by simpa using hm1
        have HB : Hid (m' < 128 ^ 4) := by simp only [Hid]; omega
        have hne : ¬ ((a : Int) + 3 = s.size) := by omega
        have HN : Hid (¬ a + 3 = s.size) := by simp only [Hid]; omega
        have HK : Hid (a + 4 ≤ s.size) := by simp only [Hid]; omega
        clear hb hm' hm1 hm2 hlt
        by_cases h2 : 128 ≤ c
        · have HE := Lib.hid (getGo_more (d := 1) HN.out HC.out (show (2097152 : Int) = 128 ^ 3 by decide) HM.out h2)
          have h2i : (128 : Int) ≤ c := by omega
          clear h2
          go_wp2
          go_roundw
          case rel => exact ⟨4, m', by omega, by go_num, by go_num, by trivial, by rw [HO.out, HE.out], hm0', HB.out, HK.out⟩
          case measure => simp [intOf]
        · by_cases h3 : c = 0
          · have HE := Lib.hid (getGo_long (d := 1) (m := m) HN.out HC.out h2 ⟨h3, by omega⟩)
            clear h2 HM
            subst h3
            go_wp2
            go_ret3
            exact ⟨ret_iii' ((HE.out.symm.trans HO.out.symm).trans HG.out), rfl⟩
          · by_cases h4 : 2147483647 < m'
            · have HE := Lib.hid (getGo_over (d := 1) HN.out HC.out (show (2097152 : Int) = 128 ^ 3 by decide) HM.out h2 (fun h => h3 h.1) h4)
              have h2i : ¬ (128 : Int) ≤ c := by omega
              have h3i : ¬ (c : Int) = 0 := by omega
              clear h2
              go_wp2
              go_ret3
              exact ⟨ret_iii' ((HE.out.symm.trans HO.out.symm).trans HG.out), rfl⟩
            · have HE := Lib.hid (getGo_done (d := 1) HN.out HC.out (show (2097152 : Int) = 128 ^ 3 by decide) HM.out h2 (fun h => h3 h.1) h4)
              have h2i : ¬ (128 : Int) ≤ c := by omega
              have h3i : ¬ (c : Int) = 0 := by omega
              clear h2
              go_wp2
              go_ret3
              exact ⟨ret_iii' ((HE.out.symm.trans HO.out.symm).trans HG.out), rfl⟩
      · have HE := Lib.hid (getGo_end (s := s) (a := a) (d := 1) (k := 3) (m := m) (by omega))
        have hz' : (a : Int) + 3 = s.size := by omega
        go_wp2
        go_ret3
        exact ⟨ret_iii' ((HE.out.symm.trans HO.out.symm).trans HG.out), rfl⟩
    · by_cases hz : a + 4 < s.size
      · obtain ⟨c, hc⟩ : ∃ c : Nat, s[a + 4].toNat = c := ⟨_, rfl⟩
        have HC : Hid (by8 s (a + 4) = c) := by simp only [Hid, by8]; rw [dif_pos (show a + 4 < s.size by omega)]; exact hc
        have hc1 : c < 256 := hc ▸ UInt8.toNat_lt _
        have hand := and127 hc1
        have hlt : c % 128 < 128 := Nat.mod_lt _ (by decide)
        obtain ⟨b, hb⟩ : ∃ b : Int, ((c % 128 : Nat) : Int) = b := ⟨_, rfl⟩
        have hb0 : 0 ≤ b := by omega
        have hb1 : b < 128 := by omega
        have hor := or_high (m := m) (x := b) (i := 28) (p := 268435456) (by decide) (by decide) hm0 (by simpa using hm1) hb0 hb1
        have HM : Hid (m + ((c % 128 : Nat) : Int) * 268435456 = m + b * 268435456) := by rw [hb]; rfl
        obtain ⟨m', hm'⟩ : ∃ m' : Int, m + b * 268435456 = m' := ⟨_, rfl⟩
        rw [hm'] at HM hor
        rw [hb] at hand
        have hm0' : 0 ≤ m' := by omega
        have hm2 : m < 268435456 := by simpa using hm1
        have HB : Hid (m' < 128 ^ 5) := by simp only [Hid]; omega
        have hne : ¬ ((a : Int) + 4 = s.size) := by omega
        have HN : Hid (¬ a + 4 = s.size) := by simp only [Hid]; omega
        have HK : Hid (a + 5 ≤ s.size) := by simp only [Hid]; omega
        clear hb hm' hm1 hm2 hlt
        by_cases h2 : 128 ≤ c
        · have HE := Lib.hid (getGo_more (d := 0) HN.out HC.out (show (268435456 : Int) = 128 ^ 4 by decide) HM.out h2)
          have h2i : (128 : Int) ≤ c := by omega
          clear h2
          go_wp2
          go_roundw
          case rel => exact ⟨5, m', by omega, by go_num, by go_num, by trivial, by rw [HO.out, HE.out], hm0', HB.out, HK.out⟩
          case measure => simp [intOf]
        · by_cases h3 : c = 0
          · have HE := Lib.hid (getGo_long (d := 0) (m := m) HN.out HC.out h2 ⟨h3, by omega⟩)
            clear h2 HM
            subst h3
            go_wp2
            go_ret3
            exact ⟨ret_iii' ((HE.out.symm.trans HO.out.symm).trans HG.out), rfl⟩
          · by_cases h4 : 2147483647 < m'
            · have HE := Lib.hid (getGo_over (d := 0) HN.out HC.out (show (268435456 : Int) = 128 ^ 4 by decide) HM.out h2 (fun h => h3 h.1) h4)
              have h2i : ¬ (128 : Int) ≤ c := by omega
              have h3i : ¬ (c : Int) = 0 := by omega
              clear h2
              go_wp2
              go_ret3
              exact ⟨ret_iii' ((HE.out.symm.trans HO.out.symm).trans HG.out), rfl⟩
            · have HE := Lib.hid (getGo_done (d := 0) HN.out HC.out (show (268435456 : Int) = 128 ^ 4 by decide) HM.out h2 (fun h => h3 h.1) h4)
              have h2i : ¬ (128 : Int) ≤ c := by omega
              have h3i : ¬ (c : Int) = 0 := by omega
              clear h2
              go_wp2
              go_ret3
              exact ⟨ret_iii' ((HE.out.symm.trans HO.out.symm).trans HG.out), rfl⟩
      · have HE := Lib.hid (getGo_end (s := s) (a := a) (d := 0) (k := 4) (m := m) (by omega))
        have hz' : (a : Int) + 4 = s.size := by omega
        go_wp2
        go_ret3
        exact ⟨ret_iii' ((HE.out.symm.trans HO.out.symm).trans HG.out), rfl⟩
    · go_wp2
      go_ret3
      exact ⟨ret_iii' (HO.out.symm.trans HG.out), rfl⟩
end Go.Proofs.Ytlekjobicpnafaa.Cd
