/- The document's answer for traces: fields, ender, sync, bad, and the first that is wrong. Condition: the capacities and the events lie in memory. -/
import Derived.Test.YtnjnmoehjaikkaaTrR1
import Derived.Test.YtnjnmoehjaikkaaBase2
namespace Go.Proofs.Ytnjnmoehjaikkaa.Tr
open Go Go.RowKit Base
set_option linter.unusedVariables false
set_option linter.unusedSimpArgs false

/-- How many of a kind are ahead. -/
def cntK (l : List Ev) (k : Int) : Nat → Int
  | 0 => 0
  | n + 1 => cntK l k n + if ((evAt l n).kind == k) = true then 1 else 0

theorem cntK_le (l : List Ev) (k : Int) : ∀ n : Nat, 0 ≤ cntK l k n ∧ cntK l k n ≤ n
  | 0 => by simp [cntK]
  | n + 1 => by
    have := cntK_le l k n
    unfold cntK
    split <;> omega

def isDo (o : Int) (x : Ev) : Bool := x.kind == 13 && x.obj == o
/-- The first one that comes to a once, from k on, of n. -/
def firstDo (l : List Ev) (o : Int) : Nat → Nat → Option Ev
  | 0, _ => none
  | d + 1, k => if isDo o (evAt l k) = true then some (evAt l k) else firstDo l o d (k + 1)

def renderF (l : List Ev) (i : Int) (e : Ev) : Bool := if (e.kind == 15) = true then cntTo l 14 e.obj i.toNat == 0 else match firstDo l e.obj i.toNat 0 with | none => true | some x => if (x.g != e.g) = true then true else decide (0 < cntTo l 14 e.obj i.toNat)

section
variable {w : World}
attribute [local go_sem] ext_ext ext_drew ext_drewN

set_option maxHeartbeats 4000000 in
theorem render_any (x0 : Ext w) {A : Option Addr} {l : List Ev} {lc : Nat} (hE : EvsAt w A l) (hlc : l.length ≤ lc) (hll : l.length ≤ 140737488351232) {i : Int} (h0 : 0 ≤ i) (h1 : i < l.length) :
    Calls Try.prog 86 #[.slice A l.length lc, .int .i64 i] (w.ext x0) fun r w' => r = .returned (.bool (renderF l i (evAt l i))) ∧ ∃ x : Ext w, w' = w.ext x := by
  obtain ⟨eb, eo, rfl⟩ := hE.some (by omega)
  obtain ⟨_, q0, q1, q2, q3, q4⟩ := hE.at2 h0 h1
  generalize he : evAt l i = e at *
  obtain ⟨w1, x1, hw1, ⟨y, hy⟩, hsz, f1_0, f1_1, f1_2, f1_3, f1_4⟩ := boxEv' (w.ext x0) e
  have E1 : EvsAt w1 _ l := hy ▸ (hE.ext x0).ext y
  have hy1 : ∃ y : Ext w, w1 = w.ext y := ⟨x0.trans y, hy⟩
  clear hy he
  have hlw : ∀ z : Ext w1, (w.ext x0).heap.size < (w1.ext z).heap.size := fun z => World.ext_lt w1 z hsz
  have hic : i ≤ lc := by omega
  obtain ⟨n, rfl⟩ := Int.eq_ofNat_of_zero_le h0
  simp only [Int.toNat_natCast] at *
  have hnl : n < l.length := by omega
  have hnc : n ≤ lc := by omega
  cases h15 : (e.kind == 15)
  · go_enter Try.func86, Try.ntmps86
    go_wp2
    go_loopw [25] (fun i wr => ∃ (k : Nat), k ≤ n ∧ i = .int .i64 k ∧ (∃ x : Ext w1, wr = w1.ext x) ∧ firstDo l e.obj n 0 = firstDo l e.obj (n - k) k) (fun i _ => n - (intOf i).toNat)
    case atStart => exact ⟨0, Nat.zero_le _, rfl, ⟨x1, rfl⟩, rfl⟩
    case round =>
      obtain ⟨k, hk, rfl, ⟨x, rfl⟩, hI⟩ := hrel
      by_cases hlt : k < n
      · obtain ⟨_, p0, p1, p2, p3, p4⟩ := E1.at2 (i := k) (by omega) (by omega)
        simp only [Int.toNat_natCast] at p0 p1 p2 p3 p4
        have hkl : k < l.length := by omega
        have HS : Hid (firstDo l e.obj (n - k) k = if isDo e.obj (evAt l k) = true then some (evAt l k) else firstDo l e.obj (n - (k + 1)) (k + 1)) := by
          rw [show n - k = (n - (k + 1)) + 1 by omega]; rfl
        generalize evAt l k = X at *
        have HI := Lib.hid hI
        clear hI
        cases hc : (X.kind == 13)
        · go_wp2
          go_roundw
          case rel => exact ⟨k + 1, by omega, by go_num, ex_alloc _ ⟨x, rfl⟩, by rw [HI.out, HS.out, if_neg (by simp [isDo, hc])]⟩
          case measure => simp [intOf]; omega
        · cases hd : (X.obj == e.obj)
          · go_wp2
            go_roundw
            case rel => exact ⟨k + 1, by omega, by go_num, ex_alloc _ ⟨x, rfl⟩, by rw [HI.out, HS.out, if_neg (by simp [isDo, hc, hd])]⟩
            case measure => simp [intOf]; omega
          · have HF : Hid (firstDo l e.obj n 0 = some X) := by
              refine (HI.out).trans ((HS.out).trans ?_)
              rw [if_pos (by simp [isDo, hc, hd])]
            have hC : ∀ z : Ext w1, Calls Try.prog 15 #[.slice (some ⟨eb, eo, none⟩) l.length lc, .int .i64 n, .int .i64 14, .int .i64 e.obj] (w1.ext z) fun r w' => r = .returned (.int .i64 (cntTo l 14 e.obj n)) ∧ ∃ z : Ext w1, w' = w1.ext z := fun z => by
              have := rcount_any z E1 hlc hll h0 h1 14 e.obj
              simpa using this
            cases hg : (X.g != e.g)
            all_goals
              go_wp2_with (go_at_call 15; refine (calls_of_ex hC (ex_alloc _ ⟨_, rfl⟩)).mono ?_; rintro _ _ ⟨rfl, z, rfl⟩)
              go_ret
              exact ⟨ret_bool (by rw [renderF, h15, if_neg Bool.false_ne_true, Int.toNat_natCast, HF.out]; simp only [hg]; try rfl), by first | exact ex_ext _ hy1 | exact ex_alloc _ (ex_ext _ hy1)⟩
      · have HF : Hid (firstDo l e.obj n 0 = none) := by
          rw [show n - k = 0 by omega] at hI; exact hI
        clear hI
        go_wp2
        go_ret
        exact ⟨ret_bool (by rw [renderF, h15, if_neg Bool.false_ne_true, Int.toNat_natCast, HF.out]), ex_ext _ hy1⟩
  · have hC : ∀ z : Ext w1, Calls Try.prog 15 #[.slice (some ⟨eb, eo, none⟩) l.length lc, .int .i64 n, .int .i64 14, .int .i64 e.obj] (w1.ext z) fun r w' => r = .returned (.int .i64 (cntTo l 14 e.obj n)) ∧ ∃ z : Ext w1, w' = w1.ext z := fun z => by
      have := rcount_any z E1 hlc hll h0 h1 14 e.obj
      simpa using this
    go_enter Try.func86, Try.ntmps86
    go_wp2_with (go_at_call 15; refine (hC _).mono ?_; rintro _ _ ⟨rfl, z, rfl⟩)
    go_ret
    exact ⟨ret_bool (by rw [renderF, h15, if_pos rfl, Int.toNat_natCast]), ex_ext _ hy1⟩

def rfieldsNF (caps : List Int) (e : Ev) : Bool := if rnumberedF e.kind = true then (if rbeginsF e.kind = true then (if (e.kind != 0) = true then (if decide (e.obj < 0) = true then true else (decide (rmostF caps e.kind ≤ e.obj))) else false) else (if (e.start != (-1)) = true then true else (if (e.kind != 0) = true then (if decide (e.obj < 0) = true then true else (decide (rmostF caps e.kind ≤ e.obj))) else false))) else (if (e.no != 0) = true then true else (if rbeginsF e.kind = true then (if (e.kind != 0) = true then (if decide (e.obj < 0) = true then true else (decide (rmostF caps e.kind ≤ e.obj))) else false) else (if (e.start != (-1)) = true then true else (if (e.kind != 0) = true then (if decide (e.obj < 0) = true then true else (decide (rmostF caps e.kind ≤ e.obj))) else false))))

set_option maxHeartbeats 4000000 in
theorem rfieldsN_any (x0 : Ext w) {A : Option Addr} {l : List Ev} {lc : Nat} (hE : EvsAt w A l) (hlc : l.length ≤ lc) (hll : l.length ≤ 140737488351232) {i : Int} (h0 : 0 ≤ i) (h1 : i < l.length) {cA : Option Addr} {caps : List Int} {cc : Nat} (hC : IntsAt w cA caps) (hcl : caps.length ≤ 4) (hcc : caps.length ≤ cc) (hk1 : ((evAt l i).kind == 1) = false) :
    Calls Try.prog 63 #[.slice cA caps.length cc, .slice A l.length lc, .int .i64 i] (w.ext x0) fun r w' => r = .returned (.bool (rfieldsNF caps (evAt l i))) ∧ ∃ x : Ext w, w' = w.ext x := by
  obtain ⟨eb, eo, rfl⟩ := hE.some (by omega)
  obtain ⟨_, q0, q1, q2, q3, q4⟩ := hE.at2 h0 h1
  generalize he : evAt l i = e at *
  obtain ⟨w1, x1, hw1, ⟨y, hy⟩, hsz, f1_0, f1_1, f1_2, f1_3, f1_4⟩ := boxEv' (w.ext x0) e
  have E1 : EvsAt w1 _ l := hy ▸ (hE.ext x0).ext y
  have C1 : IntsAt w1 cA caps := hy ▸ (hC.ext x0).ext y
  have hy1 : ∃ y : Ext w, w1 = w.ext y := ⟨x0.trans y, hy⟩
  clear hy he
  cases h_0 : rnumberedF e.kind
  · cases h_1 : (e.no != 0)
    · have p_h_1 := bne_le h_1
      cases h_2 : rbeginsF e.kind
      · cases h_3 : (e.start != (-1))
        · have p_h_3 := bne_le h_3
          cases h_4 : (e.kind != 0)
          · have p_h_4 := bne_le h_4
            clear p_h_1 p_h_3 p_h_4
            go_enter Try.func63, Try.ntmps63
            go_wp2_with ((first | (go_at_call 82; refine (rnumbered_is _ _ h_0).mono ?_; rintro _ _ ⟨rfl, z, rfl⟩) | (go_at_call 83; refine (rbegins_is _ _ h_2).mono ?_; rintro _ _ ⟨rfl, z, rfl⟩) | (go_at_call 84; refine (rmost_any _ hcl _).mono ?_; rintro _ _ ⟨rfl, z, rfl⟩)))
            refine region_at (by kernel_rfl) (by kernel_rfl) ?_
            repeat (go_big_quiet_step ((first | (go_at_call 82; exact rnumbered_is _ _ h_0) | (go_at_call 83; exact rbegins_is _ _ h_2) | (go_at_call 84; exact rmost_any _ hcl _))))
            refine wpQuiet_nil ?_
            rintro _ ⟨x, rfl⟩
            go_wp2_with ((first | (go_at_call 82; refine (rnumbered_is _ _ h_0).mono ?_; rintro _ _ ⟨rfl, z, rfl⟩) | (go_at_call 83; refine (rbegins_is _ _ h_2).mono ?_; rintro _ _ ⟨rfl, z, rfl⟩) | (go_at_call 84; refine (rmost_any _ hcl _).mono ?_; rintro _ _ ⟨rfl, z, rfl⟩)))
            go_ret
            exact ⟨ret_bool (by simp only [rfieldsNF, h_0, h_1, h_2, h_3, h_4, hk1, Bool.false_eq_true, if_true, if_false]; try rfl), by first | exact ⟨_, rfl⟩ | exact ex_ext _ hy1 | exact ex_alloc _ (ex_ext _ hy1) | exact ex_alloc _ (ex_alloc _ (ex_ext _ hy1)) | exact ex_ext _ (ex_ext _ (ex_ext _ hy1))⟩
          · have p_h_4 := bne_ne h_4
            cases h_5 : decide (e.obj < 0)
            · have p_h_5 := of_decide_eq_false h_5
              clear p_h_1 p_h_3 p_h_4 p_h_5
              go_enter Try.func63, Try.ntmps63
              go_wp2_with ((first | (go_at_call 82; refine (rnumbered_is _ _ h_0).mono ?_; rintro _ _ ⟨rfl, z, rfl⟩) | (go_at_call 83; refine (rbegins_is _ _ h_2).mono ?_; rintro _ _ ⟨rfl, z, rfl⟩) | (go_at_call 84; refine (rmost_any _ hcl _).mono ?_; rintro _ _ ⟨rfl, z, rfl⟩)))
              refine region_at (by kernel_rfl) (by kernel_rfl) ?_
              repeat (go_big_quiet_step ((first | (go_at_call 82; exact rnumbered_is _ _ h_0) | (go_at_call 83; exact rbegins_is _ _ h_2) | (go_at_call 84; exact rmost_any _ hcl _))))
              refine wpQuiet_nil ?_
              rintro _ ⟨x, rfl⟩
              go_wp2_with ((first | (go_at_call 82; refine (rnumbered_is _ _ h_0).mono ?_; rintro _ _ ⟨rfl, z, rfl⟩) | (go_at_call 83; refine (rbegins_is _ _ h_2).mono ?_; rintro _ _ ⟨rfl, z, rfl⟩) | (go_at_call 84; refine (rmost_any _ hcl _).mono ?_; rintro _ _ ⟨rfl, z, rfl⟩)))
              go_ret
              exact ⟨ret_bool (by simp only [rfieldsNF, h_0, h_1, h_2, h_3, h_4, h_5, hk1, Bool.false_eq_true, if_true, if_false]; try rfl), by first | exact ⟨_, rfl⟩ | exact ex_ext _ hy1 | exact ex_alloc _ (ex_ext _ hy1) | exact ex_alloc _ (ex_alloc _ (ex_ext _ hy1)) | exact ex_ext _ (ex_ext _ (ex_ext _ hy1))⟩
            · have p_h_5 := of_decide_eq_true h_5
              clear p_h_1 p_h_3 p_h_4 p_h_5
              go_enter Try.func63, Try.ntmps63
              go_wp2_with ((first | (go_at_call 82; refine (rnumbered_is _ _ h_0).mono ?_; rintro _ _ ⟨rfl, z, rfl⟩) | (go_at_call 83; refine (rbegins_is _ _ h_2).mono ?_; rintro _ _ ⟨rfl, z, rfl⟩) | (go_at_call 84; refine (rmost_any _ hcl _).mono ?_; rintro _ _ ⟨rfl, z, rfl⟩)))
              refine region_at (by kernel_rfl) (by kernel_rfl) ?_
              repeat (go_big_quiet_step ((first | (go_at_call 82; exact rnumbered_is _ _ h_0) | (go_at_call 83; exact rbegins_is _ _ h_2) | (go_at_call 84; exact rmost_any _ hcl _))))
              refine wpQuiet_nil ?_
              rintro _ ⟨x, rfl⟩
              go_wp2_with ((first | (go_at_call 82; refine (rnumbered_is _ _ h_0).mono ?_; rintro _ _ ⟨rfl, z, rfl⟩) | (go_at_call 83; refine (rbegins_is _ _ h_2).mono ?_; rintro _ _ ⟨rfl, z, rfl⟩) | (go_at_call 84; refine (rmost_any _ hcl _).mono ?_; rintro _ _ ⟨rfl, z, rfl⟩)))
              go_ret
              exact ⟨ret_bool (by simp only [rfieldsNF, h_0, h_1, h_2, h_3, h_4, h_5, hk1, Bool.false_eq_true, if_true, if_false]; try rfl), by first | exact ⟨_, rfl⟩ | exact ex_ext _ hy1 | exact ex_alloc _ (ex_ext _ hy1) | exact ex_alloc _ (ex_alloc _ (ex_ext _ hy1)) | exact ex_ext _ (ex_ext _ (ex_ext _ hy1))⟩
        · have p_h_3 := bne_ne h_3
          clear p_h_1 p_h_3
          go_enter Try.func63, Try.ntmps63
          go_wp2_with ((first | (go_at_call 82; refine (rnumbered_is _ _ h_0).mono ?_; rintro _ _ ⟨rfl, z, rfl⟩) | (go_at_call 83; refine (rbegins_is _ _ h_2).mono ?_; rintro _ _ ⟨rfl, z, rfl⟩) | (go_at_call 84; refine (rmost_any _ hcl _).mono ?_; rintro _ _ ⟨rfl, z, rfl⟩)))
          go_ret
          exact ⟨ret_bool (by simp only [rfieldsNF, h_0, h_1, h_2, h_3, hk1, Bool.false_eq_true, if_true, if_false]; try rfl), by first | exact ⟨_, rfl⟩ | exact ex_ext _ hy1 | exact ex_alloc _ (ex_ext _ hy1) | exact ex_alloc _ (ex_alloc _ (ex_ext _ hy1)) | exact ex_ext _ (ex_ext _ (ex_ext _ hy1))⟩
      · cases h_3 : (e.kind != 0)
        · have p_h_3 := bne_le h_3
          clear p_h_1 p_h_3
          go_enter Try.func63, Try.ntmps63
          go_wp2_with ((first | (go_at_call 82; refine (rnumbered_is _ _ h_0).mono ?_; rintro _ _ ⟨rfl, z, rfl⟩) | (go_at_call 83; refine (rbegins_is _ _ h_2).mono ?_; rintro _ _ ⟨rfl, z, rfl⟩) | (go_at_call 84; refine (rmost_any _ hcl _).mono ?_; rintro _ _ ⟨rfl, z, rfl⟩)))
          refine region_at (by kernel_rfl) (by kernel_rfl) ?_
          repeat (go_big_quiet_step ((first | (go_at_call 82; exact rnumbered_is _ _ h_0) | (go_at_call 83; exact rbegins_is _ _ h_2) | (go_at_call 84; exact rmost_any _ hcl _))))
          refine wpQuiet_nil ?_
          rintro _ ⟨x, rfl⟩
          go_wp2_with ((first | (go_at_call 82; refine (rnumbered_is _ _ h_0).mono ?_; rintro _ _ ⟨rfl, z, rfl⟩) | (go_at_call 83; refine (rbegins_is _ _ h_2).mono ?_; rintro _ _ ⟨rfl, z, rfl⟩) | (go_at_call 84; refine (rmost_any _ hcl _).mono ?_; rintro _ _ ⟨rfl, z, rfl⟩)))
          go_ret
          exact ⟨ret_bool (by simp only [rfieldsNF, h_0, h_1, h_2, h_3, hk1, Bool.false_eq_true, if_true, if_false]; try rfl), by first | exact ⟨_, rfl⟩ | exact ex_ext _ hy1 | exact ex_alloc _ (ex_ext _ hy1) | exact ex_alloc _ (ex_alloc _ (ex_ext _ hy1)) | exact ex_ext _ (ex_ext _ (ex_ext _ hy1))⟩
        · have p_h_3 := bne_ne h_3
          cases h_4 : decide (e.obj < 0)
          · have p_h_4 := of_decide_eq_false h_4
            clear p_h_1 p_h_3 p_h_4
            go_enter Try.func63, Try.ntmps63
            go_wp2_with ((first | (go_at_call 82; refine (rnumbered_is _ _ h_0).mono ?_; rintro _ _ ⟨rfl, z, rfl⟩) | (go_at_call 83; refine (rbegins_is _ _ h_2).mono ?_; rintro _ _ ⟨rfl, z, rfl⟩) | (go_at_call 84; refine (rmost_any _ hcl _).mono ?_; rintro _ _ ⟨rfl, z, rfl⟩)))
            refine region_at (by kernel_rfl) (by kernel_rfl) ?_
            repeat (go_big_quiet_step ((first | (go_at_call 82; exact rnumbered_is _ _ h_0) | (go_at_call 83; exact rbegins_is _ _ h_2) | (go_at_call 84; exact rmost_any _ hcl _))))
            refine wpQuiet_nil ?_
            rintro _ ⟨x, rfl⟩
            go_wp2_with ((first | (go_at_call 82; refine (rnumbered_is _ _ h_0).mono ?_; rintro _ _ ⟨rfl, z, rfl⟩) | (go_at_call 83; refine (rbegins_is _ _ h_2).mono ?_; rintro _ _ ⟨rfl, z, rfl⟩) | (go_at_call 84; refine (rmost_any _ hcl _).mono ?_; rintro _ _ ⟨rfl, z, rfl⟩)))
            go_ret
            exact ⟨ret_bool (by simp only [rfieldsNF, h_0, h_1, h_2, h_3, h_4, hk1, Bool.false_eq_true, if_true, if_false]; try rfl), by first | exact ⟨_, rfl⟩ | exact ex_ext _ hy1 | exact ex_alloc _ (ex_ext _ hy1) | exact ex_alloc _ (ex_alloc _ (ex_ext _ hy1)) | exact ex_ext _ (ex_ext _ (ex_ext _ hy1))⟩
          · have p_h_4 := of_decide_eq_true h_4
            clear p_h_1 p_h_3 p_h_4
            go_enter Try.func63, Try.ntmps63
            go_wp2_with ((first | (go_at_call 82; refine (rnumbered_is _ _ h_0).mono ?_; rintro _ _ ⟨rfl, z, rfl⟩) | (go_at_call 83; refine (rbegins_is _ _ h_2).mono ?_; rintro _ _ ⟨rfl, z, rfl⟩) | (go_at_call 84; refine (rmost_any _ hcl _).mono ?_; rintro _ _ ⟨rfl, z, rfl⟩)))
            refine region_at (by kernel_rfl) (by kernel_rfl) ?_
            repeat (go_big_quiet_step ((first | (go_at_call 82; exact rnumbered_is _ _ h_0) | (go_at_call 83; exact rbegins_is _ _ h_2) | (go_at_call 84; exact rmost_any _ hcl _))))
            refine wpQuiet_nil ?_
            rintro _ ⟨x, rfl⟩
            go_wp2_with ((first | (go_at_call 82; refine (rnumbered_is _ _ h_0).mono ?_; rintro _ _ ⟨rfl, z, rfl⟩) | (go_at_call 83; refine (rbegins_is _ _ h_2).mono ?_; rintro _ _ ⟨rfl, z, rfl⟩) | (go_at_call 84; refine (rmost_any _ hcl _).mono ?_; rintro _ _ ⟨rfl, z, rfl⟩)))
            go_ret
            exact ⟨ret_bool (by simp only [rfieldsNF, h_0, h_1, h_2, h_3, h_4, hk1, Bool.false_eq_true, if_true, if_false]; try rfl), by first | exact ⟨_, rfl⟩ | exact ex_ext _ hy1 | exact ex_alloc _ (ex_ext _ hy1) | exact ex_alloc _ (ex_alloc _ (ex_ext _ hy1)) | exact ex_ext _ (ex_ext _ (ex_ext _ hy1))⟩
    · have p_h_1 := bne_ne h_1
      clear p_h_1
      go_enter Try.func63, Try.ntmps63
      go_wp2_with ((first | (go_at_call 82; refine (rnumbered_is _ _ h_0).mono ?_; rintro _ _ ⟨rfl, z, rfl⟩) | (go_at_call 83; refine (rbegins_is _ _ rfl).mono ?_; rintro _ _ ⟨rfl, z, rfl⟩) | (go_at_call 84; refine (rmost_any _ hcl _).mono ?_; rintro _ _ ⟨rfl, z, rfl⟩)))
      go_ret
      exact ⟨ret_bool (by simp only [rfieldsNF, h_0, h_1, hk1, Bool.false_eq_true, if_true, if_false]; try rfl), by first | exact ⟨_, rfl⟩ | exact ex_ext _ hy1 | exact ex_alloc _ (ex_ext _ hy1) | exact ex_alloc _ (ex_alloc _ (ex_ext _ hy1)) | exact ex_ext _ (ex_ext _ (ex_ext _ hy1))⟩
  · cases h_1 : rbeginsF e.kind
    · cases h_2 : (e.start != (-1))
      · have p_h_2 := bne_le h_2
        cases h_3 : (e.kind != 0)
        · have p_h_3 := bne_le h_3
          clear p_h_2 p_h_3
          go_enter Try.func63, Try.ntmps63
          go_wp2_with ((first | (go_at_call 82; refine (rnumbered_is _ _ h_0).mono ?_; rintro _ _ ⟨rfl, z, rfl⟩) | (go_at_call 83; refine (rbegins_is _ _ h_1).mono ?_; rintro _ _ ⟨rfl, z, rfl⟩) | (go_at_call 84; refine (rmost_any _ hcl _).mono ?_; rintro _ _ ⟨rfl, z, rfl⟩)))
          refine region_at (by kernel_rfl) (by kernel_rfl) ?_
          repeat (go_big_quiet_step ((first | (go_at_call 82; exact rnumbered_is _ _ h_0) | (go_at_call 83; exact rbegins_is _ _ h_1) | (go_at_call 84; exact rmost_any _ hcl _))))
          refine wpQuiet_nil ?_
          rintro _ ⟨x, rfl⟩
          go_wp2_with ((first | (go_at_call 82; refine (rnumbered_is _ _ h_0).mono ?_; rintro _ _ ⟨rfl, z, rfl⟩) | (go_at_call 83; refine (rbegins_is _ _ h_1).mono ?_; rintro _ _ ⟨rfl, z, rfl⟩) | (go_at_call 84; refine (rmost_any _ hcl _).mono ?_; rintro _ _ ⟨rfl, z, rfl⟩)))
          go_ret
          exact ⟨ret_bool (by simp only [rfieldsNF, h_0, h_1, h_2, h_3, hk1, Bool.false_eq_true, if_true, if_false]; try rfl), by first | exact ⟨_, rfl⟩ | exact ex_ext _ hy1 | exact ex_alloc _ (ex_ext _ hy1) | exact ex_alloc _ (ex_alloc _ (ex_ext _ hy1)) | exact ex_ext _ (ex_ext _ (ex_ext _ hy1))⟩
        · have p_h_3 := bne_ne h_3
          cases h_4 : decide (e.obj < 0)
          · have p_h_4 := of_decide_eq_false h_4
            clear p_h_2 p_h_3 p_h_4
            go_enter Try.func63, Try.ntmps63
            go_wp2_with ((first | (go_at_call 82; refine (rnumbered_is _ _ h_0).mono ?_; rintro _ _ ⟨rfl, z, rfl⟩) | (go_at_call 83; refine (rbegins_is _ _ h_1).mono ?_; rintro _ _ ⟨rfl, z, rfl⟩) | (go_at_call 84; refine (rmost_any _ hcl _).mono ?_; rintro _ _ ⟨rfl, z, rfl⟩)))
            refine region_at (by kernel_rfl) (by kernel_rfl) ?_
            repeat (go_big_quiet_step ((first | (go_at_call 82; exact rnumbered_is _ _ h_0) | (go_at_call 83; exact rbegins_is _ _ h_1) | (go_at_call 84; exact rmost_any _ hcl _))))
            refine wpQuiet_nil ?_
            rintro _ ⟨x, rfl⟩
            go_wp2_with ((first | (go_at_call 82; refine (rnumbered_is _ _ h_0).mono ?_; rintro _ _ ⟨rfl, z, rfl⟩) | (go_at_call 83; refine (rbegins_is _ _ h_1).mono ?_; rintro _ _ ⟨rfl, z, rfl⟩) | (go_at_call 84; refine (rmost_any _ hcl _).mono ?_; rintro _ _ ⟨rfl, z, rfl⟩)))
            go_ret
            exact ⟨ret_bool (by simp only [rfieldsNF, h_0, h_1, h_2, h_3, h_4, hk1, Bool.false_eq_true, if_true, if_false]; try rfl), by first | exact ⟨_, rfl⟩ | exact ex_ext _ hy1 | exact ex_alloc _ (ex_ext _ hy1) | exact ex_alloc _ (ex_alloc _ (ex_ext _ hy1)) | exact ex_ext _ (ex_ext _ (ex_ext _ hy1))⟩
          · have p_h_4 := of_decide_eq_true h_4
            clear p_h_2 p_h_3 p_h_4
            go_enter Try.func63, Try.ntmps63
            go_wp2_with ((first | (go_at_call 82; refine (rnumbered_is _ _ h_0).mono ?_; rintro _ _ ⟨rfl, z, rfl⟩) | (go_at_call 83; refine (rbegins_is _ _ h_1).mono ?_; rintro _ _ ⟨rfl, z, rfl⟩) | (go_at_call 84; refine (rmost_any _ hcl _).mono ?_; rintro _ _ ⟨rfl, z, rfl⟩)))
            refine region_at (by kernel_rfl) (by kernel_rfl) ?_
            repeat (go_big_quiet_step ((first | (go_at_call 82; exact rnumbered_is _ _ h_0) | (go_at_call 83; exact rbegins_is _ _ h_1) | (go_at_call 84; exact rmost_any _ hcl _))))
            refine wpQuiet_nil ?_
            rintro _ ⟨x, rfl⟩
            go_wp2_with ((first | (go_at_call 82; refine (rnumbered_is _ _ h_0).mono ?_; rintro _ _ ⟨rfl, z, rfl⟩) | (go_at_call 83; refine (rbegins_is _ _ h_1).mono ?_; rintro _ _ ⟨rfl, z, rfl⟩) | (go_at_call 84; refine (rmost_any _ hcl _).mono ?_; rintro _ _ ⟨rfl, z, rfl⟩)))
            go_ret
            exact ⟨ret_bool (by simp only [rfieldsNF, h_0, h_1, h_2, h_3, h_4, hk1, Bool.false_eq_true, if_true, if_false]; try rfl), by first | exact ⟨_, rfl⟩ | exact ex_ext _ hy1 | exact ex_alloc _ (ex_ext _ hy1) | exact ex_alloc _ (ex_alloc _ (ex_ext _ hy1)) | exact ex_ext _ (ex_ext _ (ex_ext _ hy1))⟩
      · have p_h_2 := bne_ne h_2
        clear p_h_2
        go_enter Try.func63, Try.ntmps63
        go_wp2_with ((first | (go_at_call 82; refine (rnumbered_is _ _ h_0).mono ?_; rintro _ _ ⟨rfl, z, rfl⟩) | (go_at_call 83; refine (rbegins_is _ _ h_1).mono ?_; rintro _ _ ⟨rfl, z, rfl⟩) | (go_at_call 84; refine (rmost_any _ hcl _).mono ?_; rintro _ _ ⟨rfl, z, rfl⟩)))
        go_ret
        exact ⟨ret_bool (by simp only [rfieldsNF, h_0, h_1, h_2, hk1, Bool.false_eq_true, if_true, if_false]; try rfl), by first | exact ⟨_, rfl⟩ | exact ex_ext _ hy1 | exact ex_alloc _ (ex_ext _ hy1) | exact ex_alloc _ (ex_alloc _ (ex_ext _ hy1)) | exact ex_ext _ (ex_ext _ (ex_ext _ hy1))⟩
    · cases h_2 : (e.kind != 0)
      · have p_h_2 := bne_le h_2
        clear p_h_2
        go_enter Try.func63, Try.ntmps63
        go_wp2_with ((first | (go_at_call 82; refine (rnumbered_is _ _ h_0).mono ?_; rintro _ _ ⟨rfl, z, rfl⟩) | (go_at_call 83; refine (rbegins_is _ _ h_1).mono ?_; rintro _ _ ⟨rfl, z, rfl⟩) | (go_at_call 84; refine (rmost_any _ hcl _).mono ?_; rintro _ _ ⟨rfl, z, rfl⟩)))
        refine region_at (by kernel_rfl) (by kernel_rfl) ?_
        repeat (go_big_quiet_step ((first | (go_at_call 82; exact rnumbered_is _ _ h_0) | (go_at_call 83; exact rbegins_is _ _ h_1) | (go_at_call 84; exact rmost_any _ hcl _))))
        refine wpQuiet_nil ?_
        rintro _ ⟨x, rfl⟩
        go_wp2_with ((first | (go_at_call 82; refine (rnumbered_is _ _ h_0).mono ?_; rintro _ _ ⟨rfl, z, rfl⟩) | (go_at_call 83; refine (rbegins_is _ _ h_1).mono ?_; rintro _ _ ⟨rfl, z, rfl⟩) | (go_at_call 84; refine (rmost_any _ hcl _).mono ?_; rintro _ _ ⟨rfl, z, rfl⟩)))
        go_ret
        exact ⟨ret_bool (by simp only [rfieldsNF, h_0, h_1, h_2, hk1, Bool.false_eq_true, if_true, if_false]; try rfl), by first | exact ⟨_, rfl⟩ | exact ex_ext _ hy1 | exact ex_alloc _ (ex_ext _ hy1) | exact ex_alloc _ (ex_alloc _ (ex_ext _ hy1)) | exact ex_ext _ (ex_ext _ (ex_ext _ hy1))⟩
      · have p_h_2 := bne_ne h_2
        cases h_3 : decide (e.obj < 0)
        · have p_h_3 := of_decide_eq_false h_3
          clear p_h_2 p_h_3
          go_enter Try.func63, Try.ntmps63
          go_wp2_with ((first | (go_at_call 82; refine (rnumbered_is _ _ h_0).mono ?_; rintro _ _ ⟨rfl, z, rfl⟩) | (go_at_call 83; refine (rbegins_is _ _ h_1).mono ?_; rintro _ _ ⟨rfl, z, rfl⟩) | (go_at_call 84; refine (rmost_any _ hcl _).mono ?_; rintro _ _ ⟨rfl, z, rfl⟩)))
          refine region_at (by kernel_rfl) (by kernel_rfl) ?_
          repeat (go_big_quiet_step ((first | (go_at_call 82; exact rnumbered_is _ _ h_0) | (go_at_call 83; exact rbegins_is _ _ h_1) | (go_at_call 84; exact rmost_any _ hcl _))))
          refine wpQuiet_nil ?_
          rintro _ ⟨x, rfl⟩
          go_wp2_with ((first | (go_at_call 82; refine (rnumbered_is _ _ h_0).mono ?_; rintro _ _ ⟨rfl, z, rfl⟩) | (go_at_call 83; refine (rbegins_is _ _ h_1).mono ?_; rintro _ _ ⟨rfl, z, rfl⟩) | (go_at_call 84; refine (rmost_any _ hcl _).mono ?_; rintro _ _ ⟨rfl, z, rfl⟩)))
          go_ret
          exact ⟨ret_bool (by simp only [rfieldsNF, h_0, h_1, h_2, h_3, hk1, Bool.false_eq_true, if_true, if_false]; try rfl), by first | exact ⟨_, rfl⟩ | exact ex_ext _ hy1 | exact ex_alloc _ (ex_ext _ hy1) | exact ex_alloc _ (ex_alloc _ (ex_ext _ hy1)) | exact ex_ext _ (ex_ext _ (ex_ext _ hy1))⟩
        · have p_h_3 := of_decide_eq_true h_3
          clear p_h_2 p_h_3
          go_enter Try.func63, Try.ntmps63
          go_wp2_with ((first | (go_at_call 82; refine (rnumbered_is _ _ h_0).mono ?_; rintro _ _ ⟨rfl, z, rfl⟩) | (go_at_call 83; refine (rbegins_is _ _ h_1).mono ?_; rintro _ _ ⟨rfl, z, rfl⟩) | (go_at_call 84; refine (rmost_any _ hcl _).mono ?_; rintro _ _ ⟨rfl, z, rfl⟩)))
          refine region_at (by kernel_rfl) (by kernel_rfl) ?_
          repeat (go_big_quiet_step ((first | (go_at_call 82; exact rnumbered_is _ _ h_0) | (go_at_call 83; exact rbegins_is _ _ h_1) | (go_at_call 84; exact rmost_any _ hcl _))))
          refine wpQuiet_nil ?_
          rintro _ ⟨x, rfl⟩
          go_wp2_with ((first | (go_at_call 82; refine (rnumbered_is _ _ h_0).mono ?_; rintro _ _ ⟨rfl, z, rfl⟩) | (go_at_call 83; refine (rbegins_is _ _ h_1).mono ?_; rintro _ _ ⟨rfl, z, rfl⟩) | (go_at_call 84; refine (rmost_any _ hcl _).mono ?_; rintro _ _ ⟨rfl, z, rfl⟩)))
          go_ret
          exact ⟨ret_bool (by simp only [rfieldsNF, h_0, h_1, h_2, h_3, hk1, Bool.false_eq_true, if_true, if_false]; try rfl), by first | exact ⟨_, rfl⟩ | exact ex_ext _ hy1 | exact ex_alloc _ (ex_ext _ hy1) | exact ex_alloc _ (ex_alloc _ (ex_ext _ hy1)) | exact ex_ext _ (ex_ext _ (ex_ext _ hy1))⟩

set_option maxHeartbeats 4000000 in
theorem rfields1_any (x0 : Ext w) {A : Option Addr} {l : List Ev} {lc : Nat} (hE : EvsAt w A l) (hlc : l.length ≤ lc) (hll : l.length ≤ 140737488351232) {i : Int} (h0 : 0 ≤ i) (h1 : i < l.length) {cA : Option Addr} {caps : List Int} {cc : Nat} (hC : IntsAt w cA caps) (hcl : caps.length ≤ 4) (hcc : caps.length ≤ cc) (hk1 : ((evAt l i).kind == 1) = true) :
    Calls Try.prog 63 #[.slice cA caps.length cc, .slice A l.length lc, .int .i64 i] (w.ext x0) fun r w' => r = .returned (.bool (if ((evAt l i).no != 0) = true then true else if ((evAt l i).start != -1) = true then true else (evAt l i).obj != cntK l 0 i.toNat)) ∧ ∃ x : Ext w, w' = w.ext x := by
  obtain ⟨eb, eo, rfl⟩ := hE.some (by omega)
  obtain ⟨_, q0, q1, q2, q3, q4⟩ := hE.at2 h0 h1
  generalize he : evAt l i = e at *
  obtain ⟨w1, x1, hw1, ⟨y, hy⟩, hsz, f1_0, f1_1, f1_2, f1_3, f1_4⟩ := boxEv' (w.ext x0) e
  have E1 : EvsAt w1 _ l := hy ▸ (hE.ext x0).ext y
  have hy1 : ∃ y : Ext w, w1 = w.ext y := ⟨x0.trans y, hy⟩
  clear hy he
  have hlw : ∀ z : Ext w1, (w.ext x0).heap.size < (w1.ext z).heap.size := fun z => World.ext_lt w1 z hsz
  have hn : rnumberedF e.kind = false := by have := beq_le hk1; rw [show e.kind = 1 by omega]; rfl
  have hb : rbeginsF e.kind = false := by have := beq_le hk1; rw [show e.kind = 1 by omega]; rfl
  obtain ⟨n, rfl⟩ := Int.eq_ofNat_of_zero_le h0
  simp only [Int.toNat_natCast] at *
  have hnl : n < l.length := by omega
  have hnc : n ≤ lc := by omega
  cases hno : (e.no != 0)
  · cases hst : (e.start != -1)
    · go_enter Try.func63, Try.ntmps63
      go_wp2_with (first | (go_at_call 82; refine (rnumbered_is _ _ hn).mono ?_; rintro _ _ ⟨rfl, z, rfl⟩) | (go_at_call 83; refine (rbegins_is _ _ hb).mono ?_; rintro _ _ ⟨rfl, z, rfl⟩))
      go_loopw [8, 42] (fun out i wr => ∃ (k : Nat), k ≤ n ∧ i = .int .i64 k ∧ (∃ x : Ext w1, wr = w1.ext x) ∧ out = .int .i64 (cntK l 0 k)) (fun _ i _ => n - (intOf i).toNat)
      case atStart => exact ⟨0, Nat.zero_le _, rfl, ⟨_, rfl⟩, rfl⟩
      case round =>
        obtain ⟨k, hk, rfl, ⟨x, rfl⟩, rfl⟩ := hrel
        by_cases hlt : k < n
        · obtain ⟨_, p0, p1, p2, p3, p4⟩ := E1.at2 (i := k) (by omega) (by omega)
          simp only [Int.toNat_natCast] at p0 p1 p2 p3 p4
          have hkl : k < l.length := by omega
          have HS : Hid (cntK l 0 (k + 1) = cntK l 0 k + if ((evAt l k).kind == 0) = true then 1 else 0) := rfl
          have hbd := cntK_le l 0 k
          generalize evAt l k = X at *
          cases hc : (X.kind == 0)
          all_goals
            go_wp2
            go_roundw
            case rel => exact ⟨k + 1, by omega, by go_num, ex_alloc _ ⟨x, rfl⟩, by rw [HS.out, hc]; simp⟩
            case measure => simp [intOf]; omega
        · obtain rfl : k = n := by omega
          go_wp2
          go_ret
          exact ⟨ret_bool (by simp only [Bool.false_eq_true, if_false]; try rfl), ex_ext _ hy1⟩
    · go_enter Try.func63, Try.ntmps63
      go_wp2_with (first | (go_at_call 82; refine (rnumbered_is _ _ hn).mono ?_; rintro _ _ ⟨rfl, z, rfl⟩) | (go_at_call 83; refine (rbegins_is _ _ hb).mono ?_; rintro _ _ ⟨rfl, z, rfl⟩))
      go_ret
      exact ⟨ret_bool (by simp only [Bool.false_eq_true, if_false, if_true]; try rfl), ex_ext _ hy1⟩
  · go_enter Try.func63, Try.ntmps63
    go_wp2_with (first | (go_at_call 82; refine (rnumbered_is _ _ hn).mono ?_; rintro _ _ ⟨rfl, z, rfl⟩) | (go_at_call 83; refine (rbegins_is _ _ hb).mono ?_; rintro _ _ ⟨rfl, z, rfl⟩))
    go_ret
    exact ⟨ret_bool (by simp only [if_true]; try rfl), ex_ext _ hy1⟩

def rfieldsF (caps : List Int) (l : List Ev) (i : Int) (e : Ev) : Bool := if (e.kind == 1) = true then (if (e.no != 0) = true then true else if (e.start != -1) = true then true else e.obj != cntK l 0 i.toNat) else rfieldsNF caps e
theorem rfields_any (x0 : Ext w) {A : Option Addr} {l : List Ev} {lc : Nat} (hE : EvsAt w A l) (hlc : l.length ≤ lc) (hll : l.length ≤ 140737488351232) {i : Int} (h0 : 0 ≤ i) (h1 : i < l.length) {cA : Option Addr} {caps : List Int} {cc : Nat} (hC : IntsAt w cA caps) (hcl : caps.length ≤ 4) (hcc : caps.length ≤ cc) :
    Calls Try.prog 63 #[.slice cA caps.length cc, .slice A l.length lc, .int .i64 i] (w.ext x0) fun r w' => r = .returned (.bool (rfieldsF caps l i (evAt l i))) ∧ ∃ x : Ext w, w' = w.ext x := by
  unfold rfieldsF
  cases hk : ((evAt l i).kind == 1)
  · exact rfieldsN_any x0 hE hlc hll h0 h1 hC hcl hcc hk
  · exact rfields1_any x0 hE hlc hll h0 h1 hC hcl hcc hk

def rsyncF (l : List Ev) (i : Int) (e : Ev) : Bool := if (e.kind == 11) = true then (((cntTo l 11 e.obj i.toNat) - (cntTo l 12 e.obj i.toNat)) != 0) else (if (e.kind == 12) = true then (((cntTo l 11 e.obj i.toNat) - (cntTo l 12 e.obj i.toNat)) != 1) else (if (e.kind == 14) = true then (renderF l i e) else (if (e.kind == 15) = true then (renderF l i e) else false)))

set_option maxHeartbeats 4000000 in
theorem rsync_any (x0 : Ext w) {A : Option Addr} {l : List Ev} {lc : Nat} (hE : EvsAt w A l) (hlc : l.length ≤ lc) (hll : l.length ≤ 140737488351232) {i : Int} (h0 : 0 ≤ i) (h1 : i < l.length) :
    Calls Try.prog 66 #[.slice A l.length lc, .int .i64 i] (w.ext x0) fun r w' => r = .returned (.bool (rsyncF l i (evAt l i))) ∧ ∃ x : Ext w, w' = w.ext x := by
  obtain ⟨eb, eo, rfl⟩ := hE.some (by omega)
  obtain ⟨_, q0, q1, q2, q3, q4⟩ := hE.at2 h0 h1
  generalize he : evAt l i = e at *
  obtain ⟨w1, x1, hw1, ⟨y, hy⟩, hsz, f1_0, f1_1, f1_2, f1_3, f1_4⟩ := boxEv' (w.ext x0) e
  have E1 : EvsAt w1 _ l := hy ▸ (hE.ext x0).ext y
  have hy1 : ∃ y : Ext w, w1 = w.ext y := ⟨x0.trans y, hy⟩
  have hN1 : ∀ (x : Ext w1) {c : Bool}, renderF l i e = c → Calls Try.prog 86 #[.slice (some ⟨eb, eo, none⟩) l.length lc, .int .i64 i] (w1.ext x) fun r w' => r = .returned (.bool c) ∧ ∃ z : Ext w1, w' = w1.ext z := fun x c hc => by have := render_any x E1 hlc hll h0 h1; rw [he, hc] at this; exact this
  have hb11 := cntTo_le l 11 e.obj i.toNat
  have hb12 := cntTo_le l 12 e.obj i.toNat
  clear hy he
  cases h_0 : (e.kind == 11)
  · have p_h_0 := beq_ne h_0
    cases h_1 : (e.kind == 12)
    · have p_h_1 := beq_ne h_1
      cases h_2 : (e.kind == 14)
      · have p_h_2 := beq_ne h_2
        cases h_3 : (e.kind == 15)
        · have p_h_3 := beq_ne h_3
          clear p_h_0 p_h_1 p_h_2 p_h_3
          go_enter Try.func66, Try.ntmps66
          go_wp2_with ((first | (go_at_call 15; refine (rcount_any _ E1 hlc hll h0 h1 _ _).mono ?_; rintro _ _ ⟨rfl, z, rfl⟩) | (go_at_call 86; refine (hN1 _ rfl).mono ?_; rintro _ _ ⟨rfl, z, rfl⟩)))
          refine region_at (by kernel_rfl) (by kernel_rfl) ?_
          repeat (go_big_quiet_step ((first | (go_at_call 15; exact rcount_any _ E1 hlc hll h0 h1 _ _) | (go_at_call 86; exact hN1 _ rfl))))
          refine wpQuiet_nil ?_
          rintro _ ⟨x, rfl⟩
          go_wp2_with ((first | (go_at_call 15; refine (rcount_any _ E1 hlc hll h0 h1 _ _).mono ?_; rintro _ _ ⟨rfl, z, rfl⟩) | (go_at_call 86; refine (hN1 _ rfl).mono ?_; rintro _ _ ⟨rfl, z, rfl⟩)))
          go_ret
          exact ⟨ret_bool (by simp only [rsyncF, h_0, h_1, h_2, h_3, Bool.false_eq_true, if_true, if_false]; try rfl), by first | exact ⟨_, rfl⟩ | exact ex_ext _ hy1 | exact ex_alloc _ (ex_ext _ hy1) | exact ex_alloc _ (ex_alloc _ (ex_ext _ hy1)) | exact ex_ext _ (ex_ext _ (ex_ext _ hy1))⟩
        · have p_h_3 := beq_le h_3
          clear p_h_0 p_h_1 p_h_2 p_h_3
          go_enter Try.func66, Try.ntmps66
          go_wp2_with ((first | (go_at_call 15; refine (rcount_any _ E1 hlc hll h0 h1 _ _).mono ?_; rintro _ _ ⟨rfl, z, rfl⟩) | (go_at_call 86; refine (hN1 _ rfl).mono ?_; rintro _ _ ⟨rfl, z, rfl⟩)))
          refine region_at (by kernel_rfl) (by kernel_rfl) ?_
          repeat (go_big_quiet_step ((first | (go_at_call 15; exact rcount_any _ E1 hlc hll h0 h1 _ _) | (go_at_call 86; exact hN1 _ rfl))))
          refine wpQuiet_nil ?_
          rintro _ ⟨x, rfl⟩
          go_wp2_with ((first | (go_at_call 15; refine (rcount_any _ E1 hlc hll h0 h1 _ _).mono ?_; rintro _ _ ⟨rfl, z, rfl⟩) | (go_at_call 86; refine (hN1 _ rfl).mono ?_; rintro _ _ ⟨rfl, z, rfl⟩)))
          go_ret
          exact ⟨ret_bool (by simp only [rsyncF, h_0, h_1, h_2, h_3, Bool.false_eq_true, if_true, if_false]; try rfl), by first | exact ⟨_, rfl⟩ | exact ex_ext _ hy1 | exact ex_alloc _ (ex_ext _ hy1) | exact ex_alloc _ (ex_alloc _ (ex_ext _ hy1)) | exact ex_ext _ (ex_ext _ (ex_ext _ hy1))⟩
      · have p_h_2 := beq_le h_2
        clear p_h_0 p_h_1 p_h_2
        go_enter Try.func66, Try.ntmps66
        go_wp2_with ((first | (go_at_call 15; refine (rcount_any _ E1 hlc hll h0 h1 _ _).mono ?_; rintro _ _ ⟨rfl, z, rfl⟩) | (go_at_call 86; refine (hN1 _ rfl).mono ?_; rintro _ _ ⟨rfl, z, rfl⟩)))
        refine region_at (by kernel_rfl) (by kernel_rfl) ?_
        repeat (go_big_quiet_step ((first | (go_at_call 15; exact rcount_any _ E1 hlc hll h0 h1 _ _) | (go_at_call 86; exact hN1 _ rfl))))
        refine wpQuiet_nil ?_
        rintro _ ⟨x, rfl⟩
        go_wp2_with ((first | (go_at_call 15; refine (rcount_any _ E1 hlc hll h0 h1 _ _).mono ?_; rintro _ _ ⟨rfl, z, rfl⟩) | (go_at_call 86; refine (hN1 _ rfl).mono ?_; rintro _ _ ⟨rfl, z, rfl⟩)))
        go_ret
        exact ⟨ret_bool (by simp only [rsyncF, h_0, h_1, h_2, Bool.false_eq_true, if_true, if_false]; try rfl), by first | exact ⟨_, rfl⟩ | exact ex_ext _ hy1 | exact ex_alloc _ (ex_ext _ hy1) | exact ex_alloc _ (ex_alloc _ (ex_ext _ hy1)) | exact ex_ext _ (ex_ext _ (ex_ext _ hy1))⟩
    · have p_h_1 := beq_le h_1
      clear p_h_0 p_h_1
      go_enter Try.func66, Try.ntmps66
      go_wp2_with ((first | (go_at_call 15; refine (rcount_any _ E1 hlc hll h0 h1 _ _).mono ?_; rintro _ _ ⟨rfl, z, rfl⟩) | (go_at_call 86; refine (hN1 _ rfl).mono ?_; rintro _ _ ⟨rfl, z, rfl⟩)))
      refine region_at (by kernel_rfl) (by kernel_rfl) ?_
      repeat (go_big_quiet_step ((first | (go_at_call 15; exact rcount_any _ E1 hlc hll h0 h1 _ _) | (go_at_call 86; exact hN1 _ rfl))))
      refine wpQuiet_nil ?_
      rintro _ ⟨x, rfl⟩
      go_wp2_with ((first | (go_at_call 15; refine (rcount_any _ E1 hlc hll h0 h1 _ _).mono ?_; rintro _ _ ⟨rfl, z, rfl⟩) | (go_at_call 86; refine (hN1 _ rfl).mono ?_; rintro _ _ ⟨rfl, z, rfl⟩)))
      go_ret
      exact ⟨ret_bool (by simp only [rsyncF, h_0, h_1, Bool.false_eq_true, if_true, if_false]; try rfl), by first | exact ⟨_, rfl⟩ | exact ex_ext _ hy1 | exact ex_alloc _ (ex_ext _ hy1) | exact ex_alloc _ (ex_alloc _ (ex_ext _ hy1)) | exact ex_ext _ (ex_ext _ (ex_ext _ hy1))⟩
  · have p_h_0 := beq_le h_0
    clear p_h_0
    go_enter Try.func66, Try.ntmps66
    go_wp2_with ((first | (go_at_call 15; refine (rcount_any _ E1 hlc hll h0 h1 _ _).mono ?_; rintro _ _ ⟨rfl, z, rfl⟩) | (go_at_call 86; refine (hN1 _ rfl).mono ?_; rintro _ _ ⟨rfl, z, rfl⟩)))
    refine region_at (by kernel_rfl) (by kernel_rfl) ?_
    repeat (go_big_quiet_step ((first | (go_at_call 15; exact rcount_any _ E1 hlc hll h0 h1 _ _) | (go_at_call 86; exact hN1 _ rfl))))
    refine wpQuiet_nil ?_
    rintro _ ⟨x, rfl⟩
    go_wp2_with ((first | (go_at_call 15; refine (rcount_any _ E1 hlc hll h0 h1 _ _).mono ?_; rintro _ _ ⟨rfl, z, rfl⟩) | (go_at_call 86; refine (hN1 _ rfl).mono ?_; rintro _ _ ⟨rfl, z, rfl⟩)))
    go_ret
    exact ⟨ret_bool (by simp only [rsyncF, h_0, Bool.false_eq_true, if_true, if_false]; try rfl), by first | exact ⟨_, rfl⟩ | exact ex_ext _ hy1 | exact ex_alloc _ (ex_ext _ hy1) | exact ex_alloc _ (ex_alloc _ (ex_ext _ hy1)) | exact ex_ext _ (ex_ext _ (ex_ext _ hy1))⟩
end
end Go.Proofs.Ytnjnmoehjaikkaa.Tr
