/- The document's bad, Wrong and Caps; trace.Last and trace.Count. Condition: the capacities and the events lie in memory. -/
import Derived.Test.YtnjnmoehjaikkaaTrP1
namespace Go.Proofs.Ytnjnmoehjaikkaa.Tr
open Go Go.RowKit Base
set_option linter.unusedVariables false
set_option linter.unusedSimpArgs false

theorem shape_ok {i : Int} {e : Ev} (h : rshapeF i e = false) : -1 ≤ e.start ∧ e.start < i ∧ 0 ≤ e.kind ∧ e.kind ≤ 17 := by
  simp [rshapeF] at h; omega
theorem fields_ok {caps : List Int} {l : List Ev} {i : Int} {e : Ev} (h : rfieldsF caps l i e = false) (hk : e.kind = 3 ∨ (5 ≤ e.kind ∧ e.kind ≤ 7)) : 0 ≤ e.obj ∧ e.obj < caps.length := by
  have hm : rmostF caps e.kind = caps.length := by
    unfold rmostF
    rw [if_pos (by simp; omega), if_pos (by simp; omega)]
  rw [rfieldsF, if_neg (by simp; omega)] at h
  unfold rfieldsNF at h
  rw [hm] at h
  have k0 : (e.kind != 0) = true := by simp; omega
  simp only [k0, if_true] at h
  repeat' split at h
  all_goals first | (cases h; done) | (simp only [decide_eq_true_eq, decide_eq_false_iff_not, Bool.false_eq_true] at *; omega)

section
variable {w : World}

set_option maxHeartbeats 4000000 in
theorem rbad_any (x0 : Ext w) {A : Option Addr} {l : List Ev} {lc : Nat} (hE : EvsAt w A l) (hlc : l.length ≤ lc) (hll : l.length ≤ 140737488351232) {i : Int} (h0 : 0 ≤ i) (h1 : i < l.length) {cA : Option Addr} {caps : List Int} {cc : Nat} (hC : IntsAt w cA caps) (hcl : caps.length ≤ 4) (hcc : caps.length ≤ cc)
    (hcap : ∀ k : Int, 0 ≤ k → k < caps.length → -1 ≤ rdI caps k ∧ rdI caps k ≤ 3) {v : Bool} (hv : rbadF caps l i (evAt l i) = v) :
    Calls Try.prog 36 #[.slice cA caps.length cc, .slice A l.length lc, .int .i64 i] (w.ext x0) fun r w' => r = .returned (.bool v) ∧ ∃ x : Ext w, w' = w.ext x := by
  subst hv
  have s1 := fun x : Ext w => rshape_any x hE hlc hll h0 h1
  cases a1 : rshapeF i (evAt l i)
  · rw [a1] at s1
    obtain ⟨z0, z1, _, _⟩ := shape_ok a1
    have s2 := fun x : Ext w => rbegun_any x hE hlc hll h0 h1 z0 z1
    cases a2 : rbegunF l i (evAt l i)
    · rw [a2] at s2
      have s3 := fun x : Ext w => rfields_any x hE hlc hll h0 h1 hC hcl hcc
      cases a3 : rfieldsF caps l i (evAt l i)
      · rw [a3] at s3
        have s4 := fun x : Ext w => rbegan_any x hE hlc hll h0 h1 z0 z1
        have s5 := fun x : Ext w => rchannel_any x hE hlc hll h0 h1 hC hcl hcc hcap (fun hk => fields_ok a3 hk)
        have s6 := fun x : Ext w => rsync_any x hE hlc hll h0 h1
        cases a4 : rbeganF l i (evAt l i)
        · rw [a4] at s4
          cases a5 : rchannelF caps l i (evAt l i)
          · rw [a5] at s5
            have HF : Hid (rbadF caps l i (evAt l i) = rsyncF l i (evAt l i)) := by simp only [Hid, rbadF, a1, a2, a3, a4, a5, Bool.false_eq_true, if_false]
            clear a1 a2 a3 a4 a5 z0 z1 hcap
            go_enter Try.func36, Try.ntmps36
            go_wp2_with (first | (go_at_call 61; refine (s1 _).mono ?_; rintro _ _ ⟨rfl, z, rfl⟩) | (go_at_call 62; refine (s2 _).mono ?_; rintro _ _ ⟨rfl, z, rfl⟩) | (go_at_call 63; refine (s3 _).mono ?_; rintro _ _ ⟨rfl, z, rfl⟩) | (go_at_call 64; refine (s4 _).mono ?_; rintro _ _ ⟨rfl, z, rfl⟩) | (go_at_call 65; refine (s5 _).mono ?_; rintro _ _ ⟨rfl, z, rfl⟩) | (go_at_call 66; refine (s6 _).mono ?_; rintro _ _ ⟨rfl, z, rfl⟩))
            go_ret
            exact ⟨ret_bool HF.out.symm, _, rfl⟩
          · rw [a5] at s5
            have HF : Hid (rbadF caps l i (evAt l i) = true) := by simp only [Hid, rbadF, a1, a2, a3, a4, a5, Bool.false_eq_true, if_false, if_true]
            clear a1 a2 a3 a4 a5 z0 z1 hcap
            go_enter Try.func36, Try.ntmps36
            go_wp2_with (first | (go_at_call 61; refine (s1 _).mono ?_; rintro _ _ ⟨rfl, z, rfl⟩) | (go_at_call 62; refine (s2 _).mono ?_; rintro _ _ ⟨rfl, z, rfl⟩) | (go_at_call 63; refine (s3 _).mono ?_; rintro _ _ ⟨rfl, z, rfl⟩) | (go_at_call 64; refine (s4 _).mono ?_; rintro _ _ ⟨rfl, z, rfl⟩) | (go_at_call 65; refine (s5 _).mono ?_; rintro _ _ ⟨rfl, z, rfl⟩))
            go_ret
            exact ⟨ret_bool HF.out.symm, _, rfl⟩
        · rw [a4] at s4
          have HF : Hid (rbadF caps l i (evAt l i) = true) := by simp only [Hid, rbadF, a1, a2, a3, a4, Bool.false_eq_true, if_false, if_true]
          clear a1 a2 a3 a4 z0 z1 hcap s5 s6
          go_enter Try.func36, Try.ntmps36
          go_wp2_with (first | (go_at_call 61; refine (s1 _).mono ?_; rintro _ _ ⟨rfl, z, rfl⟩) | (go_at_call 62; refine (s2 _).mono ?_; rintro _ _ ⟨rfl, z, rfl⟩) | (go_at_call 63; refine (s3 _).mono ?_; rintro _ _ ⟨rfl, z, rfl⟩) | (go_at_call 64; refine (s4 _).mono ?_; rintro _ _ ⟨rfl, z, rfl⟩))
          go_ret
          exact ⟨ret_bool HF.out.symm, _, rfl⟩
      · rw [a3] at s3
        have HF : Hid (rbadF caps l i (evAt l i) = true) := by simp only [Hid, rbadF, a1, a2, a3, Bool.false_eq_true, if_false, if_true]
        clear a1 a2 a3 z0 z1 hcap
        go_enter Try.func36, Try.ntmps36
        go_wp2_with (first | (go_at_call 61; refine (s1 _).mono ?_; rintro _ _ ⟨rfl, z, rfl⟩) | (go_at_call 62; refine (s2 _).mono ?_; rintro _ _ ⟨rfl, z, rfl⟩) | (go_at_call 63; refine (s3 _).mono ?_; rintro _ _ ⟨rfl, z, rfl⟩))
        go_ret
        exact ⟨ret_bool HF.out.symm, _, rfl⟩
    · rw [a2] at s2
      have HF : Hid (rbadF caps l i (evAt l i) = true) := by simp only [Hid, rbadF, a1, a2, Bool.false_eq_true, if_false, if_true]
      clear a1 a2 z0 z1 hcap
      go_enter Try.func36, Try.ntmps36
      go_wp2_with (first | (go_at_call 61; refine (s1 _).mono ?_; rintro _ _ ⟨rfl, z, rfl⟩) | (go_at_call 62; refine (s2 _).mono ?_; rintro _ _ ⟨rfl, z, rfl⟩))
      go_ret
      exact ⟨ret_bool HF.out.symm, _, rfl⟩
  · rw [a1] at s1
    have HF : Hid (rbadF caps l i (evAt l i) = true) := by simp only [Hid, rbadF, a1, if_true]
    clear a1 hcap
    go_enter Try.func36, Try.ntmps36
    go_wp2_with (go_at_call 61; refine (s1 _).mono ?_; rintro _ _ ⟨rfl, z, rfl⟩)
    go_ret
    exact ⟨ret_bool HF.out.symm, _, rfl⟩

set_option maxHeartbeats 4000000 in
theorem rwrong_any (x0 : Ext w) {A : Option Addr} {l : List Ev} {lc : Nat} (hE : EvsAt w A l) (hlc : l.length ≤ lc) (hll : l.length ≤ 140737488351232) {cA : Option Addr} {caps : List Int} {cc : Nat} (hC : IntsAt w cA caps) (hcl : caps.length ≤ 4) (hcc : caps.length ≤ cc)
    (hcap : ∀ k : Int, 0 ≤ k → k < caps.length → -1 ≤ rdI caps k ∧ rdI caps k ≤ 3) :
    Calls Try.prog 13 #[.slice cA caps.length cc, .slice A l.length lc] (w.ext x0) fun r w' => r = .returned (.int .i64 (rwrongF caps l l.length 0)) ∧ ∃ x : Ext w, w' = w.ext x := by
  go_enter Try.func13, Try.ntmps13
  go_wp2
  go_loopw [8] (fun i wr => ∃ k : Nat, k ≤ l.length ∧ i = .int .i64 k ∧ (∃ x : Ext w, wr = w.ext x) ∧ rwrongF caps l l.length 0 = rwrongF caps l (l.length - k) k) (fun i _ => l.length - (intOf i).toNat)
  case atStart => exact ⟨0, Nat.zero_le _, rfl, ⟨_, rfl⟩, rfl⟩
  case round =>
    obtain ⟨k, hk, rfl, ⟨x, rfl⟩, hI⟩ := hrel
    by_cases hlt : k < l.length
    · have HS : Hid (rwrongF caps l (l.length - k) k = if rbadF caps l k (evAt l k) = true then (k : Int) else rwrongF caps l (l.length - (k + 1)) (k + 1)) := by
        rw [show l.length - k = (l.length - (k + 1)) + 1 by omega]; rfl
      have HI := Lib.hid hI
      clear hI
      cases hv : rbadF caps l k (evAt l k)
      · have s := fun x : Ext w => rbad_any x hE hlc hll (i := k) (by omega) (by omega) hC hcl hcc hcap hv
        have HV := Lib.hid hv
        clear hv hcap
        go_wp2_with (go_at_call 36; refine (s _).mono ?_; rintro _ _ ⟨rfl, z, rfl⟩)
        go_roundw
        case rel => exact ⟨k + 1, by omega, by go_num, ⟨_, rfl⟩, by rw [HI.out, HS.out, HV.out]; rfl⟩
        case measure => simp [intOf]; omega
      · have s := fun x : Ext w => rbad_any x hE hlc hll (i := k) (by omega) (by omega) hC hcl hcc hcap hv
        have HV := Lib.hid hv
        clear hv hcap
        go_wp2_with (go_at_call 36; refine (s _).mono ?_; rintro _ _ ⟨rfl, z, rfl⟩)
        go_ret
        exact ⟨ret_i64 (by rw [HI.out, HS.out, HV.out]; rfl), _, rfl⟩
    · have HI : Hid (rwrongF caps l l.length 0 = -1) := by
        rw [show l.length - k = 0 by omega] at hI; exact hI
      clear hI hcap
      go_wp2
      go_ret
      exact ⟨ret_i64 HI.out.symm, _, rfl⟩

theorem any_drop {caps : List Int} {k : Nat} (hk : k < caps.length) : (caps.drop k).any capBad = (capBad (rdI caps k) || (caps.drop (k + 1)).any capBad) := by
  have e : rdI caps k = caps[k] := by simp [rdI, List.getD_eq_getElem?_getD, hk]
  rw [List.drop_eq_getElem_cons hk, List.any_cons, e]

set_option maxHeartbeats 4000000 in
theorem rcaps_any (x0 : Ext w) {cA : Option Addr} {caps : List Int} {cc : Nat} (hC : IntsAt w cA caps) (hcl : caps.length ≤ 140737488351232) {v : Bool} (hv : capsOk caps = v) :
    Calls Try.prog 12 #[.slice cA caps.length cc] (w.ext x0) fun r w' => r = .returned (.bool v) ∧ ∃ x : Ext w, w' = w.ext x := by
  have HV := Lib.hid hv
  clear hv
  go_enter Try.func12, Try.ntmps12
  go_wp2
  go_loopw [7] (fun i wr => ∃ k : Nat, k ≤ caps.length ∧ i = .int .i64 k ∧ (∃ x : Ext w, wr = w.ext x) ∧ caps.any capBad = (caps.drop k).any capBad) (fun i _ => caps.length - (intOf i).toNat)
  case atStart => exact ⟨0, Nat.zero_le _, rfl, ⟨_, rfl⟩, rfl⟩
  case round =>
    obtain ⟨k, hk, rfl, ⟨x, rfl⟩, hI⟩ := hrel
    by_cases hlt : k < caps.length
    · obtain ⟨bc, oc, rfl, g⟩ := hC.at hlt
      have HS := Lib.hid (any_drop hlt)
      have HI := Lib.hid hI
      clear hI
      generalize rdI caps k = n at *
      cases h1 : decide (n < -1)
      · cases h2 : decide (3 < n)
        · have HN : Hid (capBad n = false) := by simp [Hid, capBad, inB] at h1 h2 ⊢; omega
          go_wp2
          go_roundw
          case rel => exact ⟨k + 1, by omega, by go_num, ⟨_, rfl⟩, by rw [HI.out, HS.out, HN.out]; rfl⟩
          case measure => simp [intOf]; omega
        · have HN : Hid (capBad n = true) := by simp [Hid, capBad, inB] at h1 h2 ⊢; omega
          go_wp2
          go_ret
          exact ⟨ret_bool (by rw [← HV.out, capsOk, HI.out, HS.out, HN.out]; simp), _, rfl⟩
      · have HN : Hid (capBad n = true) := by simp [Hid, capBad, inB] at h1 ⊢; omega
        go_wp2
        go_ret
        exact ⟨ret_bool (by rw [← HV.out, capsOk, HI.out, HS.out, HN.out]; simp), _, rfl⟩
    · have HI : Hid (caps.any capBad = false) := by
        rw [List.drop_eq_nil_of_le (by omega)] at hI; exact hI
      clear hI
      go_wp2
      go_ret
      exact ⟨ret_bool (by rw [← HV.out, capsOk, HI.out, Bool.not_false, Bool.and_true]; exact decide_eq_decide.2 (by omega)), _, rfl⟩
end
end Go.Proofs.Ytnjnmoehjaikkaa.Tr
