/- The judge: whether an event is right. Condition: the judge and the events lie in memory. -/
import Derived.Test.YtnjnmoehjaikkaaTrW3
namespace Go.Proofs.Ytnjnmoehjaikkaa.Tr
open Go Go.RowKit Base
set_option linter.unusedVariables false
set_option linter.unusedSimpArgs false

section
variable {w : World} {b : Jb} {caps : List Int} {s : JS}

/-- The rule of a kind: its function, and whether it holds the box of held. -/
def ruleF (k : Int) : Option (Nat × Bool) := if k = 1 then some (50, false) else if k = 3 then some (51, false) else if k = 5 then some (53, false) else if k = 6 then some (54, false) else if k = 7 then some (55, false)
  else if k = 11 then some (56, true) else if k = 12 then some (57, true) else if k = 14 then some (58, false) else if k = 15 then some (59, false) else none

def ruleB (caps : List Int) (s : JS) (e : Ev) : Bool := if e.kind = 1 then e.obj == s.begun else if e.kind = 3 then R3 caps s e else if e.kind = 5 then R4 caps s e else if e.kind = 6 then R5 s e else if e.kind = 7 then R6 caps s e
  else if e.kind = 11 then (wrap64 (s.count 11 e.obj - s.count 12 e.obj) == 0) else if e.kind = 12 then (wrap64 (s.count 11 e.obj - s.count 12 e.obj) == 1) else if e.kind = 14 then R9 s e else if e.kind = 15 then decide (0 < s.count 14 e.obj) else true

def boxOf (b : Jb) (h : Bool) : Nat := if h then b.bh else b.bx

theorem get_table (k : Int) : mget (tableL b) k = (ruleF k).map (fun p => cl p.1 (boxOf b p.2)) := by
  unfold tableL ruleF
  by_cases h1 : k = 1
  · subst h1; rfl
  by_cases h2 : k = 3
  · subst h2; rfl
  by_cases h3 : k = 5
  · subst h3; rfl
  by_cases h4 : k = 6
  · subst h4; rfl
  by_cases h5 : k = 7
  · subst h5; rfl
  by_cases h6 : k = 11
  · subst h6; rfl
  by_cases h7 : k = 12
  · subst h7; rfl
  by_cases h8 : k = 14
  · subst h8; rfl
  by_cases h9 : k = 15
  · subst h9; rfl
  simp [mget, h1, h2, h3, h4, h5, h6, h7, h8, h9, Ne.symm h1, Ne.symm h2, Ne.symm h3, Ne.symm h4, Ne.symm h5, Ne.symm h6, Ne.symm h7, Ne.symm h8, Ne.symm h9]

theorem zeroF (w : World) : (zeroValue 79).run Try.prog w = .ok .nilFunc w := by kernel_rfl

theorem J.lookT (h : J w b caps s) {k : Int} (hr : ruleF k = none) (x : Ext w) : (Instr.lookup 56 (.map (some b.bt)) (.int .i64 k) true).run Try.prog (w.ext x) = .ok (.tuple #[.nilFunc, .bool false]) (w.ext x) := by
  have := (h.ext x).table.lookup_ok ok1 Try.underlying56 (zeroF _) k
  rw [get_table, hr] at this
  exact this
theorem J.lookT' (h : J w b caps s) {k : Int} {f : Nat} {c : Bool} (hr : ruleF k = some (f, c)) (x : Ext w) : (Instr.lookup 56 (.map (some b.bt)) (.int .i64 k) true).run Try.prog (w.ext x) = .ok (.tuple #[.func (.func f) #[] #[.pointer (some ⟨boxOf b c, 0, none⟩)], .bool true]) (w.ext x) := by
  have := (h.ext x).table.lookup_ok ok1 Try.underlying56 (zeroF _) k
  rw [get_table, hr] at this
  exact this

theorem rule_enters {k : Int} {f : Nat} {c : Bool} (hr : ruleF k = some (f, c)) (args : Array Value) (W : World) : (callFunc f args).run Try.prog W = .ok (.enter f args) W := by
  unfold ruleF at hr
  repeat' split at hr
  all_goals first | (cases hr; done) | (simp only [Option.some.injEq, Prod.mk.injEq] at hr; obtain ⟨rfl, rfl⟩ := hr; simp [go_sem])

theorem rule_calls (h : J w b caps s) (e : Ev) {f : Nat} {c : Bool} (hr : ruleF e.kind = some (f, c)) (hg : 0 ≤ e.g) (hg' : e.g < 8) (ho : e.kind ≠ 1 → inB e.obj 0 (objsI caps e.kind - 1) = true) :
    Calls Try.prog f #[e.val, .pointer (some ⟨boxOf b c, 0, none⟩)] w fun r w' => r = .returned (.bool (ruleB caps s e)) ∧ ∃ x : Ext w, w' = w.ext x := by
  unfold ruleF at hr
  unfold ruleB
  have obj (h1 : e.kind ≠ 1) (h2 : inB e.kind 2 7 = true) : 0 ≤ e.obj ∧ e.obj < caps.length := by
    have := ho h1
    rw [objsI, if_pos h2] at this
    simp only [inB, Bool.and_eq_true, decide_eq_true_eq] at this
    omega
  by_cases h1 : e.kind = 1
  · rw [if_pos h1] at hr ⊢
    simp only [Option.some.injEq, Prod.mk.injEq] at hr; obtain ⟨rfl, rfl⟩ := hr
    exact rules2_any h e
  rw [if_neg h1] at hr ⊢
  by_cases h3 : e.kind = 3
  · rw [if_pos h3] at hr ⊢
    simp only [Option.some.injEq, Prod.mk.injEq] at hr; obtain ⟨rfl, rfl⟩ := hr
    have := obj h1 (by rw [h3]; decide)
    exact rules3_any h e this.1 this.2
  rw [if_neg h3] at hr ⊢
  by_cases h5 : e.kind = 5
  · rw [if_pos h5] at hr ⊢
    simp only [Option.some.injEq, Prod.mk.injEq] at hr; obtain ⟨rfl, rfl⟩ := hr
    have := obj h1 (by rw [h5]; decide)
    exact rules4_any h e this.1 this.2
  rw [if_neg h5] at hr ⊢
  by_cases h6 : e.kind = 6
  · rw [if_pos h6] at hr ⊢
    simp only [Option.some.injEq, Prod.mk.injEq] at hr; obtain ⟨rfl, rfl⟩ := hr
    exact rules5_any h e
  rw [if_neg h6] at hr ⊢
  by_cases h7 : e.kind = 7
  · rw [if_pos h7] at hr ⊢
    simp only [Option.some.injEq, Prod.mk.injEq] at hr; obtain ⟨rfl, rfl⟩ := hr
    have := obj h1 (by rw [h7]; decide)
    exact rules6_any h e this.1 this.2
  rw [if_neg h7] at hr ⊢
  by_cases h11 : e.kind = 11
  · rw [if_pos h11] at hr ⊢
    simp only [Option.some.injEq, Prod.mk.injEq] at hr; obtain ⟨rfl, rfl⟩ := hr
    exact rules7_any h e
  rw [if_neg h11] at hr ⊢
  by_cases h12 : e.kind = 12
  · rw [if_pos h12] at hr ⊢
    simp only [Option.some.injEq, Prod.mk.injEq] at hr; obtain ⟨rfl, rfl⟩ := hr
    exact rules8_any h e
  rw [if_neg h12] at hr ⊢
  by_cases h14 : e.kind = 14
  · rw [if_pos h14] at hr ⊢
    simp only [Option.some.injEq, Prod.mk.injEq] at hr; obtain ⟨rfl, rfl⟩ := hr
    exact rules9_any h e hg hg'
  rw [if_neg h14] at hr ⊢
  by_cases h15 : e.kind = 15
  · rw [if_pos h15] at hr ⊢
    simp only [Option.some.injEq, Prod.mk.injEq] at hr; obtain ⟨rfl, rfl⟩ := hr
    exact rules10_any h e
  rw [if_neg h15] at hr
  cases hr

theorem rule_none {e : Ev} (hr : ruleF e.kind = none) : ruleB caps s e = true := by
  unfold ruleF at hr
  unfold ruleB
  repeat' split at hr
  all_goals simp_all

theorem began_is (h : J w b caps s) {A : Option Addr} {l : List Ev} {lc : Nat} (hE : EvsAt w A l) (hll : l.length ≤ 140737488351232) (e : Ev) (hg : 0 ≤ e.g) (hg' : e.g < 8) (hs : -1 ≤ e.start) (hs' : e.start < l.length) (hl : 0 ≤ s.last e.g) (hl' : s.last e.g ≤ 140737488351232) {c : Bool} (hc : beganB s l e = c) :
    Calls Try.prog 81 #[.pointer (some ⟨b.bj, 0, none⟩), .slice A l.length lc, e.val] w fun r w' => r = .returned (.bool c) ∧ ∃ x : Ext w, w' = w.ext x := by
  subst hc; exact began_any h hE hll e hg hg' hs hs' hl hl'

theorem objsI_le (hc : caps.length ≤ 4) (k : Int) : 0 ≤ objsI caps k ∧ objsI caps k ≤ 4 := by
  unfold objsI; repeat' split
  all_goals omega

def rightB (caps : List Int) (s : JS) (l : List Ev) (e : Ev) : Bool :=
  inB e.g 0 7 && (inB e.kind 0 17 && (!(decide (e.no < 0)) && (inB e.start (-1) (l.length - 1) && (if e.kind == 0 then beginsB s l e else
    !(s.last e.g == 0) && ((e.kind == 3 || (e.kind == 5 || !(e.no != 0))) && ((!(e.kind != 1) || inB e.obj 0 (objsI caps e.kind - 1)) && (beganB s l e && ruleB caps s e)))))))

set_option maxHeartbeats 16000000 in
theorem right_g (h : J w b caps s) {A : Option Addr} {l : List Ev} {lc : Nat} (hE : EvsAt w A l) (hll : l.length ≤ 140737488351232) (hcl : caps.length ≤ 4) (e : Ev) (hl : ∀ g, 0 ≤ g → g < 8 → 0 ≤ s.last g ∧ s.last g ≤ 140737488351232) (c1 : inB e.g 0 7 = false) :
    Calls Try.prog 60 #[.pointer (some ⟨b.bj, 0, none⟩), .slice A l.length lc, e.val] w fun r w' => r = .returned (.bool (rightB caps s l e)) ∧ ∃ x : Ext w, w' = w.ext x := by
  unfold Ev.val
  obtain ⟨w1, x1, hw1, ⟨y, hy⟩, hsz, f0, f1, f2, f3, f4⟩ := boxEv' w e
  have J1 : J w1 b caps s := hy ▸ h.ext y
  have E1 : EvsAt w1 A l := hy ▸ hE.ext y
  have hy' : ∃ y : Ext w, w1 = w.ext y := ⟨y, hy⟩
  clear hy
  go_enter Try.func60, Try.ntmps60
  go_wp2_with (go_at_call 32; first | ((with_reducible refine (in_ext c1 _).mono ?_); rintro _ _ ⟨rfl, z, rfl⟩))
  go_ret
  exact ⟨ret_bool (by simp only [rightB, c1, Bool.false_eq_true, if_true, if_false, Bool.not_true, Bool.not_false, Bool.true_and, Bool.and_true, Bool.false_and, Bool.and_false, Bool.true_or, Bool.or_true, Bool.false_or, Bool.or_false]; try rfl), ex_ext _ hy'⟩

set_option maxHeartbeats 16000000 in
theorem right_k (h : J w b caps s) {A : Option Addr} {l : List Ev} {lc : Nat} (hE : EvsAt w A l) (hll : l.length ≤ 140737488351232) (hcl : caps.length ≤ 4) (e : Ev) (hl : ∀ g, 0 ≤ g → g < 8 → 0 ≤ s.last g ∧ s.last g ≤ 140737488351232) (c1 : inB e.g 0 7 = true) (c2 : inB e.kind 0 17 = false) :
    Calls Try.prog 60 #[.pointer (some ⟨b.bj, 0, none⟩), .slice A l.length lc, e.val] w fun r w' => r = .returned (.bool (rightB caps s l e)) ∧ ∃ x : Ext w, w' = w.ext x := by
  unfold Ev.val
  obtain ⟨w1, x1, hw1, ⟨y, hy⟩, hsz, f0, f1, f2, f3, f4⟩ := boxEv' w e
  have J1 : J w1 b caps s := hy ▸ h.ext y
  have E1 : EvsAt w1 A l := hy ▸ hE.ext y
  have hy' : ∃ y : Ext w, w1 = w.ext y := ⟨y, hy⟩
  clear hy
  go_enter Try.func60, Try.ntmps60
  go_wp2_with (go_at_call 32; first | ((with_reducible refine (in_ext c1 _).mono ?_); rintro _ _ ⟨rfl, z, rfl⟩) | ((with_reducible refine (in_ext c2 _).mono ?_); rintro _ _ ⟨rfl, z, rfl⟩))
  go_ret
  exact ⟨ret_bool (by simp only [rightB, c1, c2, Bool.false_eq_true, if_true, if_false, Bool.not_true, Bool.not_false, Bool.true_and, Bool.and_true, Bool.false_and, Bool.and_false, Bool.true_or, Bool.or_true, Bool.false_or, Bool.or_false]; try rfl), ex_ext _ hy'⟩

set_option maxHeartbeats 16000000 in
theorem right_n (h : J w b caps s) {A : Option Addr} {l : List Ev} {lc : Nat} (hE : EvsAt w A l) (hll : l.length ≤ 140737488351232) (hcl : caps.length ≤ 4) (e : Ev) (hl : ∀ g, 0 ≤ g → g < 8 → 0 ≤ s.last g ∧ s.last g ≤ 140737488351232) (c1 : inB e.g 0 7 = true) (c2 : inB e.kind 0 17 = true) (c3 : decide (e.no < 0) = true) :
    Calls Try.prog 60 #[.pointer (some ⟨b.bj, 0, none⟩), .slice A l.length lc, e.val] w fun r w' => r = .returned (.bool (rightB caps s l e)) ∧ ∃ x : Ext w, w' = w.ext x := by
  unfold Ev.val
  obtain ⟨w1, x1, hw1, ⟨y, hy⟩, hsz, f0, f1, f2, f3, f4⟩ := boxEv' w e
  have J1 : J w1 b caps s := hy ▸ h.ext y
  have E1 : EvsAt w1 A l := hy ▸ hE.ext y
  have hy' : ∃ y : Ext w, w1 = w.ext y := ⟨y, hy⟩
  clear hy
  go_enter Try.func60, Try.ntmps60
  go_wp2_with (go_at_call 32; first | ((with_reducible refine (in_ext c1 _).mono ?_); rintro _ _ ⟨rfl, z, rfl⟩) | ((with_reducible refine (in_ext c2 _).mono ?_); rintro _ _ ⟨rfl, z, rfl⟩))
  go_ret
  exact ⟨ret_bool (by simp only [rightB, c1, c2, c3, Bool.false_eq_true, if_true, if_false, Bool.not_true, Bool.not_false, Bool.true_and, Bool.and_true, Bool.false_and, Bool.and_false, Bool.true_or, Bool.or_true, Bool.false_or, Bool.or_false]; try rfl), ex_ext _ hy'⟩

set_option maxHeartbeats 16000000 in
theorem right_s (h : J w b caps s) {A : Option Addr} {l : List Ev} {lc : Nat} (hE : EvsAt w A l) (hll : l.length ≤ 140737488351232) (hcl : caps.length ≤ 4) (e : Ev) (hl : ∀ g, 0 ≤ g → g < 8 → 0 ≤ s.last g ∧ s.last g ≤ 140737488351232) (c1 : inB e.g 0 7 = true) (c2 : inB e.kind 0 17 = true) (c3 : decide (e.no < 0) = false) (c4 : inB e.start (-1) (l.length - 1) = false) :
    Calls Try.prog 60 #[.pointer (some ⟨b.bj, 0, none⟩), .slice A l.length lc, e.val] w fun r w' => r = .returned (.bool (rightB caps s l e)) ∧ ∃ x : Ext w, w' = w.ext x := by
  unfold Ev.val
  obtain ⟨w1, x1, hw1, ⟨y, hy⟩, hsz, f0, f1, f2, f3, f4⟩ := boxEv' w e
  have J1 : J w1 b caps s := hy ▸ h.ext y
  have E1 : EvsAt w1 A l := hy ▸ hE.ext y
  have hy' : ∃ y : Ext w, w1 = w.ext y := ⟨y, hy⟩
  clear hy
  go_enter Try.func60, Try.ntmps60
  go_wp2_with (go_at_call 32; first | ((with_reducible refine (in_ext c1 _).mono ?_); rintro _ _ ⟨rfl, z, rfl⟩) | ((with_reducible refine (in_ext c2 _).mono ?_); rintro _ _ ⟨rfl, z, rfl⟩) | ((with_reducible refine (in_ext c4 _).mono ?_); rintro _ _ ⟨rfl, z, rfl⟩))
  go_ret
  exact ⟨ret_bool (by simp only [rightB, c1, c2, c3, c4, Bool.false_eq_true, if_true, if_false, Bool.not_true, Bool.not_false, Bool.true_and, Bool.and_true, Bool.false_and, Bool.and_false, Bool.true_or, Bool.or_true, Bool.false_or, Bool.or_false]; try rfl), ex_ext _ hy'⟩

set_option maxHeartbeats 16000000 in
theorem right_0 (h : J w b caps s) {A : Option Addr} {l : List Ev} {lc : Nat} (hE : EvsAt w A l) (hll : l.length ≤ 140737488351232) (hcl : caps.length ≤ 4) (e : Ev) (hl : ∀ g, 0 ≤ g → g < 8 → 0 ≤ s.last g ∧ s.last g ≤ 140737488351232) (c1 : inB e.g 0 7 = true) (c2 : inB e.kind 0 17 = true) (c3 : decide (e.no < 0) = false) (c4 : inB e.start (-1) (l.length - 1) = true) (k0 : (e.kind == 0) = true) :
    Calls Try.prog 60 #[.pointer (some ⟨b.bj, 0, none⟩), .slice A l.length lc, e.val] w fun r w' => r = .returned (.bool (rightB caps s l e)) ∧ ∃ x : Ext w, w' = w.ext x := by
  unfold Ev.val
  obtain ⟨w1, x1, hw1, ⟨y, hy⟩, hsz, f0, f1, f2, f3, f4⟩ := boxEv' w e
  have J1 : J w1 b caps s := hy ▸ h.ext y
  have E1 : EvsAt w1 A l := hy ▸ hE.ext y
  have hy' : ∃ y : Ext w, w1 = w.ext y := ⟨y, hy⟩
  clear hy
  obtain ⟨hg, hg'⟩ : 0 ≤ e.g ∧ e.g < 8 := by simp only [inB, Bool.and_eq_true, decide_eq_true_eq] at c1; omega
  obtain ⟨hs, hs'⟩ : -1 ≤ e.start ∧ e.start < l.length := by simp only [inB, Bool.and_eq_true, decide_eq_true_eq] at c4; omega
  have hla := hl e.g hg hg'
  go_enter Try.func60, Try.ntmps60
  go_wp2_with (first | (go_at_call 79; refine (calls_ext (begins_any (J1.ext _) (E1.ext _) hll e hg hg' hs hs' hla.1 hla.2)).mono ?_; rintro _ _ ⟨rfl, z, rfl⟩) | (go_at_call 32; first | ((with_reducible refine (in_ext c1 _).mono ?_); rintro _ _ ⟨rfl, z, rfl⟩) | ((with_reducible refine (in_ext c2 _).mono ?_); rintro _ _ ⟨rfl, z, rfl⟩) | ((with_reducible refine (in_ext c4 _).mono ?_); rintro _ _ ⟨rfl, z, rfl⟩)))
  go_ret
  exact ⟨ret_bool (by simp only [rightB, c1, c2, c3, c4, k0, Bool.false_eq_true, if_true, if_false, Bool.not_true, Bool.not_false, Bool.true_and, Bool.and_true, Bool.false_and, Bool.and_false, Bool.true_or, Bool.or_true, Bool.false_or, Bool.or_false]; try rfl), ex_ext _ hy'⟩

set_option maxHeartbeats 16000000 in
theorem right_3 (h : J w b caps s) {A : Option Addr} {l : List Ev} {lc : Nat} (hE : EvsAt w A l) (hll : l.length ≤ 140737488351232) (hcl : caps.length ≤ 4) (e : Ev) (hl : ∀ g, 0 ≤ g → g < 8 → 0 ≤ s.last g ∧ s.last g ≤ 140737488351232) (c1 : inB e.g 0 7 = true) (c2 : inB e.kind 0 17 = true) (c3 : decide (e.no < 0) = false) (c4 : inB e.start (-1) (l.length - 1) = true) (k0 : (e.kind == 0) = false) (k3 : (e.kind == 3) = true) :
    Calls Try.prog 60 #[.pointer (some ⟨b.bj, 0, none⟩), .slice A l.length lc, e.val] w fun r w' => r = .returned (.bool (rightB caps s l e)) ∧ ∃ x : Ext w, w' = w.ext x := by
  unfold Ev.val
  obtain ⟨w1, x1, hw1, ⟨y, hy⟩, hsz, f0, f1, f2, f3, f4⟩ := boxEv' w e
  have J1 : J w1 b caps s := hy ▸ h.ext y
  have E1 : EvsAt w1 A l := hy ▸ hE.ext y
  have hy' : ∃ y : Ext w, w1 = w.ext y := ⟨y, hy⟩
  clear hy
  obtain ⟨hg, hg'⟩ : 0 ≤ e.g ∧ e.g < 8 := by simp only [inB, Bool.and_eq_true, decide_eq_true_eq] at c1; omega
  obtain ⟨hs, hs'⟩ : -1 ≤ e.start ∧ e.start < l.length := by simp only [inB, Bool.and_eq_true, decide_eq_true_eq] at c4; omega
  have hla := hl e.g hg hg'
  obtain ⟨ho0, ho4⟩ := objsI_le hcl e.kind
  have gl := J1.clast hg hg'
  have k1 : (e.kind != 1) = true := by simp only [bne_iff_ne, ne_eq, beq_iff_eq] at *; omega
  cases l0 : (s.last e.g == 0)
  · cases ob : inB e.obj 0 (objsI caps e.kind - 1)
    · go_enter Try.func60, Try.ntmps60
      go_wp2_with (first | (go_at_call 32; first | ((with_reducible refine (in_ext c1 _).mono ?_); rintro _ _ ⟨rfl, z, rfl⟩) | ((with_reducible refine (in_ext c2 _).mono ?_); rintro _ _ ⟨rfl, z, rfl⟩) | ((with_reducible refine (in_ext c4 _).mono ?_); rintro _ _ ⟨rfl, z, rfl⟩)))
      refine region_at (by kernel_rfl) (by kernel_rfl) ?_
      repeat (go_big_quiet_step ((first | (go_at_call 80; exact calls_ext (objs_any (J1.ext _) _)) | (go_at_call 32; exact in_ext ob _) | fail)))
      refine wpQuiet_nil ?_
      rintro _ ⟨x, rfl⟩
      go_wp2_with (first | (go_at_call 32; first | ((with_reducible refine (in_ext c1 _).mono ?_); rintro _ _ ⟨rfl, z, rfl⟩) | ((with_reducible refine (in_ext c2 _).mono ?_); rintro _ _ ⟨rfl, z, rfl⟩) | ((with_reducible refine (in_ext c4 _).mono ?_); rintro _ _ ⟨rfl, z, rfl⟩)))
      go_ret
      exact ⟨ret_bool (by simp only [rightB, k3, k1, l0, ob, c1, c2, c3, c4, k0, Bool.false_eq_true, if_true, if_false, Bool.not_true, Bool.not_false, Bool.true_and, Bool.and_true, Bool.false_and, Bool.and_false, Bool.true_or, Bool.or_true, Bool.false_or, Bool.or_false]; try rfl), ex_ext _ hy'⟩
    · cases bg : beganB s l e
      · go_enter Try.func60, Try.ntmps60
        go_wp2_with (first | (go_at_call 32; first | ((with_reducible refine (in_ext c1 _).mono ?_); rintro _ _ ⟨rfl, z, rfl⟩) | ((with_reducible refine (in_ext c2 _).mono ?_); rintro _ _ ⟨rfl, z, rfl⟩) | ((with_reducible refine (in_ext c4 _).mono ?_); rintro _ _ ⟨rfl, z, rfl⟩)))
        refine region_at (by kernel_rfl) (by kernel_rfl) ?_
        repeat (go_big_quiet_step ((first | (go_at_call 80; exact calls_ext (objs_any (J1.ext _) _)) | (go_at_call 32; exact in_ext ob _) | (go_at_call 81; exact calls_ext (began_is (J1.ext _) (E1.ext _) hll e hg hg' hs hs' hla.1 hla.2 bg)) | fail)))
        refine wpQuiet_nil ?_
        rintro _ ⟨x, rfl⟩
        go_wp2_with (first | (go_at_call 32; first | ((with_reducible refine (in_ext c1 _).mono ?_); rintro _ _ ⟨rfl, z, rfl⟩) | ((with_reducible refine (in_ext c2 _).mono ?_); rintro _ _ ⟨rfl, z, rfl⟩) | ((with_reducible refine (in_ext c4 _).mono ?_); rintro _ _ ⟨rfl, z, rfl⟩)))
        go_ret
        exact ⟨ret_bool (by simp only [rightB, k3, k1, l0, ob, bg, c1, c2, c3, c4, k0, Bool.false_eq_true, if_true, if_false, Bool.not_true, Bool.not_false, Bool.true_and, Bool.and_true, Bool.false_and, Bool.and_false, Bool.true_or, Bool.or_true, Bool.false_or, Bool.or_false]; try rfl), ex_ext _ hy'⟩
      · cases hr : ruleF e.kind with
        | none =>
          have gt := J1.lookT hr
          have g13 := J1.c13
          have hrb := rule_none (caps := caps) (s := s) hr
          go_enter Try.func60, Try.ntmps60
          go_wp2_with (first | (go_at_call 32; first | ((with_reducible refine (in_ext c1 _).mono ?_); rintro _ _ ⟨rfl, z, rfl⟩) | ((with_reducible refine (in_ext c2 _).mono ?_); rintro _ _ ⟨rfl, z, rfl⟩) | ((with_reducible refine (in_ext c4 _).mono ?_); rintro _ _ ⟨rfl, z, rfl⟩)))
          refine region_at (by kernel_rfl) (by kernel_rfl) ?_
          repeat (go_big_quiet_step ((first | (go_at_call 80; exact calls_ext (objs_any (J1.ext _) _)) | (go_at_call 32; exact in_ext ob _) | (go_at_call 81; exact calls_ext (began_is (J1.ext _) (E1.ext _) hll e hg hg' hs hs' hla.1 hla.2 bg)) | fail)))
          refine wpQuiet_nil ?_
          rintro _ ⟨x, rfl⟩
          go_wp2_with (first | (go_at_call 32; first | ((with_reducible refine (in_ext c1 _).mono ?_); rintro _ _ ⟨rfl, z, rfl⟩) | ((with_reducible refine (in_ext c2 _).mono ?_); rintro _ _ ⟨rfl, z, rfl⟩) | ((with_reducible refine (in_ext c4 _).mono ?_); rintro _ _ ⟨rfl, z, rfl⟩)))
          refine region_at (by kernel_rfl) (by kernel_rfl) ?_
          repeat (go_big_quiet_step ((first | (go_at_call 80; exact calls_ext (objs_any (J1.ext _) _)) | (go_at_call 32; exact in_ext ob _) | (go_at_call 81; exact calls_ext (began_is (J1.ext _) (E1.ext _) hll e hg hg' hs hs' hla.1 hla.2 bg)) | fail)))
          refine wpQuiet_nil ?_
          rintro _ ⟨x, rfl⟩
          go_wp2_with (first | (go_at_call 32; first | ((with_reducible refine (in_ext c1 _).mono ?_); rintro _ _ ⟨rfl, z, rfl⟩) | ((with_reducible refine (in_ext c2 _).mono ?_); rintro _ _ ⟨rfl, z, rfl⟩) | ((with_reducible refine (in_ext c4 _).mono ?_); rintro _ _ ⟨rfl, z, rfl⟩)))
          go_ret
          exact ⟨ret_bool (by simp only [rightB, k3, k1, l0, ob, bg, c1, c2, c3, c4, k0, hrb, Bool.false_eq_true, if_true, if_false, Bool.not_true, Bool.not_false, Bool.true_and, Bool.and_true, Bool.false_and, Bool.and_false, Bool.true_or, Bool.or_true, Bool.false_or, Bool.or_false]; try rfl), ex_ext _ hy'⟩
        | some p =>
          obtain ⟨f, c⟩ := p
          have gt := J1.lookT' hr
          have g13 := J1.c13
          have hcf := rule_enters hr
          have hob : e.kind ≠ 1 → inB e.obj 0 (objsI caps e.kind - 1) = true := fun _ => ob
          go_enter Try.func60, Try.ntmps60
          go_wp2_with (first | (go_at_call 32; first | ((with_reducible refine (in_ext c1 _).mono ?_); rintro _ _ ⟨rfl, z, rfl⟩) | ((with_reducible refine (in_ext c2 _).mono ?_); rintro _ _ ⟨rfl, z, rfl⟩) | ((with_reducible refine (in_ext c4 _).mono ?_); rintro _ _ ⟨rfl, z, rfl⟩)) | ((refine (calls_ext (rule_calls (J1.ext _) e hr hg hg' hob)).mono ?_); rintro _ _ ⟨rfl, z, rfl⟩))
          refine region_at (by kernel_rfl) (by kernel_rfl) ?_
          repeat (go_big_quiet_step ((first | (go_at_call 80; exact calls_ext (objs_any (J1.ext _) _)) | (go_at_call 32; exact in_ext ob _) | (go_at_call 81; exact calls_ext (began_is (J1.ext _) (E1.ext _) hll e hg hg' hs hs' hla.1 hla.2 bg)) | fail)))
          refine wpQuiet_nil ?_
          rintro _ ⟨x, rfl⟩
          go_wp2_with (first | (go_at_call 32; first | ((with_reducible refine (in_ext c1 _).mono ?_); rintro _ _ ⟨rfl, z, rfl⟩) | ((with_reducible refine (in_ext c2 _).mono ?_); rintro _ _ ⟨rfl, z, rfl⟩) | ((with_reducible refine (in_ext c4 _).mono ?_); rintro _ _ ⟨rfl, z, rfl⟩)) | ((refine (calls_ext (rule_calls (J1.ext _) e hr hg hg' hob)).mono ?_); rintro _ _ ⟨rfl, z, rfl⟩))
          refine region_at (by kernel_rfl) (by kernel_rfl) ?_
          repeat (go_big_quiet_step ((first | (go_at_call 80; exact calls_ext (objs_any (J1.ext _) _)) | (go_at_call 32; exact in_ext ob _) | (go_at_call 81; exact calls_ext (began_is (J1.ext _) (E1.ext _) hll e hg hg' hs hs' hla.1 hla.2 bg)) | fail)))
          refine wpQuiet_nil ?_
          rintro _ ⟨x, rfl⟩
          go_wp2_with (first | (go_at_call 32; first | ((with_reducible refine (in_ext c1 _).mono ?_); rintro _ _ ⟨rfl, z, rfl⟩) | ((with_reducible refine (in_ext c2 _).mono ?_); rintro _ _ ⟨rfl, z, rfl⟩) | ((with_reducible refine (in_ext c4 _).mono ?_); rintro _ _ ⟨rfl, z, rfl⟩)) | ((refine (calls_ext (rule_calls (J1.ext _) e hr hg hg' hob)).mono ?_); rintro _ _ ⟨rfl, z, rfl⟩))
          go_ret
          exact ⟨ret_bool (by simp only [rightB, k3, k1, l0, ob, bg, c1, c2, c3, c4, k0, Bool.false_eq_true, if_true, if_false, Bool.not_true, Bool.not_false, Bool.true_and, Bool.and_true, Bool.false_and, Bool.and_false, Bool.true_or, Bool.or_true, Bool.false_or, Bool.or_false]; try rfl), ex_ext _ hy'⟩
  · go_enter Try.func60, Try.ntmps60
    go_wp2_with (first | (go_at_call 32; first | ((with_reducible refine (in_ext c1 _).mono ?_); rintro _ _ ⟨rfl, z, rfl⟩) | ((with_reducible refine (in_ext c2 _).mono ?_); rintro _ _ ⟨rfl, z, rfl⟩) | ((with_reducible refine (in_ext c4 _).mono ?_); rintro _ _ ⟨rfl, z, rfl⟩)))
    refine region_at (by kernel_rfl) (by kernel_rfl) ?_
    repeat (go_big_quiet_step ((first | fail)))
    refine wpQuiet_nil ?_
    rintro _ ⟨x, rfl⟩
    go_wp2_with (first | (go_at_call 32; first | ((with_reducible refine (in_ext c1 _).mono ?_); rintro _ _ ⟨rfl, z, rfl⟩) | ((with_reducible refine (in_ext c2 _).mono ?_); rintro _ _ ⟨rfl, z, rfl⟩) | ((with_reducible refine (in_ext c4 _).mono ?_); rintro _ _ ⟨rfl, z, rfl⟩)))
    go_ret
    exact ⟨ret_bool (by simp only [rightB, k3, k1, l0, c1, c2, c3, c4, k0, Bool.false_eq_true, if_true, if_false, Bool.not_true, Bool.not_false, Bool.true_and, Bool.and_true, Bool.false_and, Bool.and_false, Bool.true_or, Bool.or_true, Bool.false_or, Bool.or_false]; try rfl), ex_ext _ hy'⟩

set_option maxHeartbeats 16000000 in
theorem right_5 (h : J w b caps s) {A : Option Addr} {l : List Ev} {lc : Nat} (hE : EvsAt w A l) (hll : l.length ≤ 140737488351232) (hcl : caps.length ≤ 4) (e : Ev) (hl : ∀ g, 0 ≤ g → g < 8 → 0 ≤ s.last g ∧ s.last g ≤ 140737488351232) (c1 : inB e.g 0 7 = true) (c2 : inB e.kind 0 17 = true) (c3 : decide (e.no < 0) = false) (c4 : inB e.start (-1) (l.length - 1) = true) (k0 : (e.kind == 0) = false) (k3 : (e.kind == 3) = false) (k5 : (e.kind == 5) = true) :
    Calls Try.prog 60 #[.pointer (some ⟨b.bj, 0, none⟩), .slice A l.length lc, e.val] w fun r w' => r = .returned (.bool (rightB caps s l e)) ∧ ∃ x : Ext w, w' = w.ext x := by
  unfold Ev.val
  obtain ⟨w1, x1, hw1, ⟨y, hy⟩, hsz, f0, f1, f2, f3, f4⟩ := boxEv' w e
  have J1 : J w1 b caps s := hy ▸ h.ext y
  have E1 : EvsAt w1 A l := hy ▸ hE.ext y
  have hy' : ∃ y : Ext w, w1 = w.ext y := ⟨y, hy⟩
  clear hy
  obtain ⟨hg, hg'⟩ : 0 ≤ e.g ∧ e.g < 8 := by simp only [inB, Bool.and_eq_true, decide_eq_true_eq] at c1; omega
  obtain ⟨hs, hs'⟩ : -1 ≤ e.start ∧ e.start < l.length := by simp only [inB, Bool.and_eq_true, decide_eq_true_eq] at c4; omega
  have hla := hl e.g hg hg'
  obtain ⟨ho0, ho4⟩ := objsI_le hcl e.kind
  have gl := J1.clast hg hg'
  have k1 : (e.kind != 1) = true := by simp only [bne_iff_ne, ne_eq, beq_iff_eq] at *; omega
  cases l0 : (s.last e.g == 0)
  · cases ob : inB e.obj 0 (objsI caps e.kind - 1)
    · go_enter Try.func60, Try.ntmps60
      go_wp2_with (first | (go_at_call 32; first | ((with_reducible refine (in_ext c1 _).mono ?_); rintro _ _ ⟨rfl, z, rfl⟩) | ((with_reducible refine (in_ext c2 _).mono ?_); rintro _ _ ⟨rfl, z, rfl⟩) | ((with_reducible refine (in_ext c4 _).mono ?_); rintro _ _ ⟨rfl, z, rfl⟩)))
      refine region_at (by kernel_rfl) (by kernel_rfl) ?_
      repeat (go_big_quiet_step ((first | (go_at_call 80; exact calls_ext (objs_any (J1.ext _) _)) | (go_at_call 32; exact in_ext ob _) | fail)))
      refine wpQuiet_nil ?_
      rintro _ ⟨x, rfl⟩
      go_wp2_with (first | (go_at_call 32; first | ((with_reducible refine (in_ext c1 _).mono ?_); rintro _ _ ⟨rfl, z, rfl⟩) | ((with_reducible refine (in_ext c2 _).mono ?_); rintro _ _ ⟨rfl, z, rfl⟩) | ((with_reducible refine (in_ext c4 _).mono ?_); rintro _ _ ⟨rfl, z, rfl⟩)))
      go_ret
      exact ⟨ret_bool (by simp only [rightB, k3, k5, k1, l0, ob, c1, c2, c3, c4, k0, Bool.false_eq_true, if_true, if_false, Bool.not_true, Bool.not_false, Bool.true_and, Bool.and_true, Bool.false_and, Bool.and_false, Bool.true_or, Bool.or_true, Bool.false_or, Bool.or_false]; try rfl), ex_ext _ hy'⟩
    · cases bg : beganB s l e
      · go_enter Try.func60, Try.ntmps60
        go_wp2_with (first | (go_at_call 32; first | ((with_reducible refine (in_ext c1 _).mono ?_); rintro _ _ ⟨rfl, z, rfl⟩) | ((with_reducible refine (in_ext c2 _).mono ?_); rintro _ _ ⟨rfl, z, rfl⟩) | ((with_reducible refine (in_ext c4 _).mono ?_); rintro _ _ ⟨rfl, z, rfl⟩)))
        refine region_at (by kernel_rfl) (by kernel_rfl) ?_
        repeat (go_big_quiet_step ((first | (go_at_call 80; exact calls_ext (objs_any (J1.ext _) _)) | (go_at_call 32; exact in_ext ob _) | (go_at_call 81; exact calls_ext (began_is (J1.ext _) (E1.ext _) hll e hg hg' hs hs' hla.1 hla.2 bg)) | fail)))
        refine wpQuiet_nil ?_
        rintro _ ⟨x, rfl⟩
        go_wp2_with (first | (go_at_call 32; first | ((with_reducible refine (in_ext c1 _).mono ?_); rintro _ _ ⟨rfl, z, rfl⟩) | ((with_reducible refine (in_ext c2 _).mono ?_); rintro _ _ ⟨rfl, z, rfl⟩) | ((with_reducible refine (in_ext c4 _).mono ?_); rintro _ _ ⟨rfl, z, rfl⟩)))
        go_ret
        exact ⟨ret_bool (by simp only [rightB, k3, k5, k1, l0, ob, bg, c1, c2, c3, c4, k0, Bool.false_eq_true, if_true, if_false, Bool.not_true, Bool.not_false, Bool.true_and, Bool.and_true, Bool.false_and, Bool.and_false, Bool.true_or, Bool.or_true, Bool.false_or, Bool.or_false]; try rfl), ex_ext _ hy'⟩
      · cases hr : ruleF e.kind with
        | none =>
          have gt := J1.lookT hr
          have g13 := J1.c13
          have hrb := rule_none (caps := caps) (s := s) hr
          go_enter Try.func60, Try.ntmps60
          go_wp2_with (first | (go_at_call 32; first | ((with_reducible refine (in_ext c1 _).mono ?_); rintro _ _ ⟨rfl, z, rfl⟩) | ((with_reducible refine (in_ext c2 _).mono ?_); rintro _ _ ⟨rfl, z, rfl⟩) | ((with_reducible refine (in_ext c4 _).mono ?_); rintro _ _ ⟨rfl, z, rfl⟩)))
          refine region_at (by kernel_rfl) (by kernel_rfl) ?_
          repeat (go_big_quiet_step ((first | (go_at_call 80; exact calls_ext (objs_any (J1.ext _) _)) | (go_at_call 32; exact in_ext ob _) | (go_at_call 81; exact calls_ext (began_is (J1.ext _) (E1.ext _) hll e hg hg' hs hs' hla.1 hla.2 bg)) | fail)))
          refine wpQuiet_nil ?_
          rintro _ ⟨x, rfl⟩
          go_wp2_with (first | (go_at_call 32; first | ((with_reducible refine (in_ext c1 _).mono ?_); rintro _ _ ⟨rfl, z, rfl⟩) | ((with_reducible refine (in_ext c2 _).mono ?_); rintro _ _ ⟨rfl, z, rfl⟩) | ((with_reducible refine (in_ext c4 _).mono ?_); rintro _ _ ⟨rfl, z, rfl⟩)))
          refine region_at (by kernel_rfl) (by kernel_rfl) ?_
          repeat (go_big_quiet_step ((first | (go_at_call 80; exact calls_ext (objs_any (J1.ext _) _)) | (go_at_call 32; exact in_ext ob _) | (go_at_call 81; exact calls_ext (began_is (J1.ext _) (E1.ext _) hll e hg hg' hs hs' hla.1 hla.2 bg)) | fail)))
          refine wpQuiet_nil ?_
          rintro _ ⟨x, rfl⟩
          go_wp2_with (first | (go_at_call 32; first | ((with_reducible refine (in_ext c1 _).mono ?_); rintro _ _ ⟨rfl, z, rfl⟩) | ((with_reducible refine (in_ext c2 _).mono ?_); rintro _ _ ⟨rfl, z, rfl⟩) | ((with_reducible refine (in_ext c4 _).mono ?_); rintro _ _ ⟨rfl, z, rfl⟩)))
          go_ret
          exact ⟨ret_bool (by simp only [rightB, k3, k5, k1, l0, ob, bg, c1, c2, c3, c4, k0, hrb, Bool.false_eq_true, if_true, if_false, Bool.not_true, Bool.not_false, Bool.true_and, Bool.and_true, Bool.false_and, Bool.and_false, Bool.true_or, Bool.or_true, Bool.false_or, Bool.or_false]; try rfl), ex_ext _ hy'⟩
        | some p =>
          obtain ⟨f, c⟩ := p
          have gt := J1.lookT' hr
          have g13 := J1.c13
          have hcf := rule_enters hr
          have hob : e.kind ≠ 1 → inB e.obj 0 (objsI caps e.kind - 1) = true := fun _ => ob
          go_enter Try.func60, Try.ntmps60
          go_wp2_with (first | (go_at_call 32; first | ((with_reducible refine (in_ext c1 _).mono ?_); rintro _ _ ⟨rfl, z, rfl⟩) | ((with_reducible refine (in_ext c2 _).mono ?_); rintro _ _ ⟨rfl, z, rfl⟩) | ((with_reducible refine (in_ext c4 _).mono ?_); rintro _ _ ⟨rfl, z, rfl⟩)) | ((refine (calls_ext (rule_calls (J1.ext _) e hr hg hg' hob)).mono ?_); rintro _ _ ⟨rfl, z, rfl⟩))
          refine region_at (by kernel_rfl) (by kernel_rfl) ?_
          repeat (go_big_quiet_step ((first | (go_at_call 80; exact calls_ext (objs_any (J1.ext _) _)) | (go_at_call 32; exact in_ext ob _) | (go_at_call 81; exact calls_ext (began_is (J1.ext _) (E1.ext _) hll e hg hg' hs hs' hla.1 hla.2 bg)) | fail)))
          refine wpQuiet_nil ?_
          rintro _ ⟨x, rfl⟩
          go_wp2_with (first | (go_at_call 32; first | ((with_reducible refine (in_ext c1 _).mono ?_); rintro _ _ ⟨rfl, z, rfl⟩) | ((with_reducible refine (in_ext c2 _).mono ?_); rintro _ _ ⟨rfl, z, rfl⟩) | ((with_reducible refine (in_ext c4 _).mono ?_); rintro _ _ ⟨rfl, z, rfl⟩)) | ((refine (calls_ext (rule_calls (J1.ext _) e hr hg hg' hob)).mono ?_); rintro _ _ ⟨rfl, z, rfl⟩))
          refine region_at (by kernel_rfl) (by kernel_rfl) ?_
          repeat (go_big_quiet_step ((first | (go_at_call 80; exact calls_ext (objs_any (J1.ext _) _)) | (go_at_call 32; exact in_ext ob _) | (go_at_call 81; exact calls_ext (began_is (J1.ext _) (E1.ext _) hll e hg hg' hs hs' hla.1 hla.2 bg)) | fail)))
          refine wpQuiet_nil ?_
          rintro _ ⟨x, rfl⟩
          go_wp2_with (first | (go_at_call 32; first | ((with_reducible refine (in_ext c1 _).mono ?_); rintro _ _ ⟨rfl, z, rfl⟩) | ((with_reducible refine (in_ext c2 _).mono ?_); rintro _ _ ⟨rfl, z, rfl⟩) | ((with_reducible refine (in_ext c4 _).mono ?_); rintro _ _ ⟨rfl, z, rfl⟩)) | ((refine (calls_ext (rule_calls (J1.ext _) e hr hg hg' hob)).mono ?_); rintro _ _ ⟨rfl, z, rfl⟩))
          go_ret
          exact ⟨ret_bool (by simp only [rightB, k3, k5, k1, l0, ob, bg, c1, c2, c3, c4, k0, Bool.false_eq_true, if_true, if_false, Bool.not_true, Bool.not_false, Bool.true_and, Bool.and_true, Bool.false_and, Bool.and_false, Bool.true_or, Bool.or_true, Bool.false_or, Bool.or_false]; try rfl), ex_ext _ hy'⟩
  · go_enter Try.func60, Try.ntmps60
    go_wp2_with (first | (go_at_call 32; first | ((with_reducible refine (in_ext c1 _).mono ?_); rintro _ _ ⟨rfl, z, rfl⟩) | ((with_reducible refine (in_ext c2 _).mono ?_); rintro _ _ ⟨rfl, z, rfl⟩) | ((with_reducible refine (in_ext c4 _).mono ?_); rintro _ _ ⟨rfl, z, rfl⟩)))
    refine region_at (by kernel_rfl) (by kernel_rfl) ?_
    repeat (go_big_quiet_step ((first | fail)))
    refine wpQuiet_nil ?_
    rintro _ ⟨x, rfl⟩
    go_wp2_with (first | (go_at_call 32; first | ((with_reducible refine (in_ext c1 _).mono ?_); rintro _ _ ⟨rfl, z, rfl⟩) | ((with_reducible refine (in_ext c2 _).mono ?_); rintro _ _ ⟨rfl, z, rfl⟩) | ((with_reducible refine (in_ext c4 _).mono ?_); rintro _ _ ⟨rfl, z, rfl⟩)))
    go_ret
    exact ⟨ret_bool (by simp only [rightB, k3, k5, k1, l0, c1, c2, c3, c4, k0, Bool.false_eq_true, if_true, if_false, Bool.not_true, Bool.not_false, Bool.true_and, Bool.and_true, Bool.false_and, Bool.and_false, Bool.true_or, Bool.or_true, Bool.false_or, Bool.or_false]; try rfl), ex_ext _ hy'⟩

set_option maxHeartbeats 16000000 in
theorem right_r (h : J w b caps s) {A : Option Addr} {l : List Ev} {lc : Nat} (hE : EvsAt w A l) (hll : l.length ≤ 140737488351232) (hcl : caps.length ≤ 4) (e : Ev) (hl : ∀ g, 0 ≤ g → g < 8 → 0 ≤ s.last g ∧ s.last g ≤ 140737488351232) (c1 : inB e.g 0 7 = true) (c2 : inB e.kind 0 17 = true) (c3 : decide (e.no < 0) = false) (c4 : inB e.start (-1) (l.length - 1) = true) (k0 : (e.kind == 0) = false) (k3 : (e.kind == 3) = false) (k5 : (e.kind == 5) = false) (k1 : (e.kind != 1) = true) :
    Calls Try.prog 60 #[.pointer (some ⟨b.bj, 0, none⟩), .slice A l.length lc, e.val] w fun r w' => r = .returned (.bool (rightB caps s l e)) ∧ ∃ x : Ext w, w' = w.ext x := by
  unfold Ev.val
  obtain ⟨w1, x1, hw1, ⟨y, hy⟩, hsz, f0, f1, f2, f3, f4⟩ := boxEv' w e
  have J1 : J w1 b caps s := hy ▸ h.ext y
  have E1 : EvsAt w1 A l := hy ▸ hE.ext y
  have hy' : ∃ y : Ext w, w1 = w.ext y := ⟨y, hy⟩
  clear hy
  obtain ⟨hg, hg'⟩ : 0 ≤ e.g ∧ e.g < 8 := by simp only [inB, Bool.and_eq_true, decide_eq_true_eq] at c1; omega
  obtain ⟨hs, hs'⟩ : -1 ≤ e.start ∧ e.start < l.length := by simp only [inB, Bool.and_eq_true, decide_eq_true_eq] at c4; omega
  have hla := hl e.g hg hg'
  obtain ⟨ho0, ho4⟩ := objsI_le hcl e.kind
  have gl := J1.clast hg hg'
  cases l0 : (s.last e.g == 0)
  · cases n0 : (e.no != 0)
    · cases ob : inB e.obj 0 (objsI caps e.kind - 1)
      · go_enter Try.func60, Try.ntmps60
        go_wp2_with (first | (go_at_call 32; first | ((with_reducible refine (in_ext c1 _).mono ?_); rintro _ _ ⟨rfl, z, rfl⟩) | ((with_reducible refine (in_ext c2 _).mono ?_); rintro _ _ ⟨rfl, z, rfl⟩) | ((with_reducible refine (in_ext c4 _).mono ?_); rintro _ _ ⟨rfl, z, rfl⟩)))
        refine region_at (by kernel_rfl) (by kernel_rfl) ?_
        repeat (go_big_quiet_step ((first | (go_at_call 80; exact calls_ext (objs_any (J1.ext _) _)) | (go_at_call 32; exact in_ext ob _) | fail)))
        refine wpQuiet_nil ?_
        rintro _ ⟨x, rfl⟩
        go_wp2_with (first | (go_at_call 32; first | ((with_reducible refine (in_ext c1 _).mono ?_); rintro _ _ ⟨rfl, z, rfl⟩) | ((with_reducible refine (in_ext c2 _).mono ?_); rintro _ _ ⟨rfl, z, rfl⟩) | ((with_reducible refine (in_ext c4 _).mono ?_); rintro _ _ ⟨rfl, z, rfl⟩)))
        go_ret
        exact ⟨ret_bool (by simp only [rightB, k3, k5, k1, l0, n0, ob, c1, c2, c3, c4, k0, Bool.false_eq_true, if_true, if_false, Bool.not_true, Bool.not_false, Bool.true_and, Bool.and_true, Bool.false_and, Bool.and_false, Bool.true_or, Bool.or_true, Bool.false_or, Bool.or_false]; try rfl), ex_ext _ hy'⟩
      · cases bg : beganB s l e
        · go_enter Try.func60, Try.ntmps60
          go_wp2_with (first | (go_at_call 32; first | ((with_reducible refine (in_ext c1 _).mono ?_); rintro _ _ ⟨rfl, z, rfl⟩) | ((with_reducible refine (in_ext c2 _).mono ?_); rintro _ _ ⟨rfl, z, rfl⟩) | ((with_reducible refine (in_ext c4 _).mono ?_); rintro _ _ ⟨rfl, z, rfl⟩)))
          refine region_at (by kernel_rfl) (by kernel_rfl) ?_
          repeat (go_big_quiet_step ((first | (go_at_call 80; exact calls_ext (objs_any (J1.ext _) _)) | (go_at_call 32; exact in_ext ob _) | (go_at_call 81; exact calls_ext (began_is (J1.ext _) (E1.ext _) hll e hg hg' hs hs' hla.1 hla.2 bg)) | fail)))
          refine wpQuiet_nil ?_
          rintro _ ⟨x, rfl⟩
          go_wp2_with (first | (go_at_call 32; first | ((with_reducible refine (in_ext c1 _).mono ?_); rintro _ _ ⟨rfl, z, rfl⟩) | ((with_reducible refine (in_ext c2 _).mono ?_); rintro _ _ ⟨rfl, z, rfl⟩) | ((with_reducible refine (in_ext c4 _).mono ?_); rintro _ _ ⟨rfl, z, rfl⟩)))
          go_ret
          exact ⟨ret_bool (by simp only [rightB, k3, k5, k1, l0, n0, ob, bg, c1, c2, c3, c4, k0, Bool.false_eq_true, if_true, if_false, Bool.not_true, Bool.not_false, Bool.true_and, Bool.and_true, Bool.false_and, Bool.and_false, Bool.true_or, Bool.or_true, Bool.false_or, Bool.or_false]; try rfl), ex_ext _ hy'⟩
        · cases hr : ruleF e.kind with
          | none =>
            have gt := J1.lookT hr
            have g13 := J1.c13
            have hrb := rule_none (caps := caps) (s := s) hr
            go_enter Try.func60, Try.ntmps60
            go_wp2_with (first | (go_at_call 32; first | ((with_reducible refine (in_ext c1 _).mono ?_); rintro _ _ ⟨rfl, z, rfl⟩) | ((with_reducible refine (in_ext c2 _).mono ?_); rintro _ _ ⟨rfl, z, rfl⟩) | ((with_reducible refine (in_ext c4 _).mono ?_); rintro _ _ ⟨rfl, z, rfl⟩)))
            refine region_at (by kernel_rfl) (by kernel_rfl) ?_
            repeat (go_big_quiet_step ((first | (go_at_call 80; exact calls_ext (objs_any (J1.ext _) _)) | (go_at_call 32; exact in_ext ob _) | (go_at_call 81; exact calls_ext (began_is (J1.ext _) (E1.ext _) hll e hg hg' hs hs' hla.1 hla.2 bg)) | fail)))
            refine wpQuiet_nil ?_
            rintro _ ⟨x, rfl⟩
            go_wp2_with (first | (go_at_call 32; first | ((with_reducible refine (in_ext c1 _).mono ?_); rintro _ _ ⟨rfl, z, rfl⟩) | ((with_reducible refine (in_ext c2 _).mono ?_); rintro _ _ ⟨rfl, z, rfl⟩) | ((with_reducible refine (in_ext c4 _).mono ?_); rintro _ _ ⟨rfl, z, rfl⟩)))
            refine region_at (by kernel_rfl) (by kernel_rfl) ?_
            repeat (go_big_quiet_step ((first | (go_at_call 80; exact calls_ext (objs_any (J1.ext _) _)) | (go_at_call 32; exact in_ext ob _) | (go_at_call 81; exact calls_ext (began_is (J1.ext _) (E1.ext _) hll e hg hg' hs hs' hla.1 hla.2 bg)) | fail)))
            refine wpQuiet_nil ?_
            rintro _ ⟨x, rfl⟩
            go_wp2_with (first | (go_at_call 32; first | ((with_reducible refine (in_ext c1 _).mono ?_); rintro _ _ ⟨rfl, z, rfl⟩) | ((with_reducible refine (in_ext c2 _).mono ?_); rintro _ _ ⟨rfl, z, rfl⟩) | ((with_reducible refine (in_ext c4 _).mono ?_); rintro _ _ ⟨rfl, z, rfl⟩)))
            go_ret
            exact ⟨ret_bool (by simp only [rightB, k3, k5, k1, l0, n0, ob, bg, c1, c2, c3, c4, k0, hrb, Bool.false_eq_true, if_true, if_false, Bool.not_true, Bool.not_false, Bool.true_and, Bool.and_true, Bool.false_and, Bool.and_false, Bool.true_or, Bool.or_true, Bool.false_or, Bool.or_false]; try rfl), ex_ext _ hy'⟩
          | some p =>
            obtain ⟨f, c⟩ := p
            have gt := J1.lookT' hr
            have g13 := J1.c13
            have hcf := rule_enters hr
            have hob : e.kind ≠ 1 → inB e.obj 0 (objsI caps e.kind - 1) = true := fun _ => ob
            go_enter Try.func60, Try.ntmps60
            go_wp2_with (first | (go_at_call 32; first | ((with_reducible refine (in_ext c1 _).mono ?_); rintro _ _ ⟨rfl, z, rfl⟩) | ((with_reducible refine (in_ext c2 _).mono ?_); rintro _ _ ⟨rfl, z, rfl⟩) | ((with_reducible refine (in_ext c4 _).mono ?_); rintro _ _ ⟨rfl, z, rfl⟩)) | ((refine (calls_ext (rule_calls (J1.ext _) e hr hg hg' hob)).mono ?_); rintro _ _ ⟨rfl, z, rfl⟩))
            refine region_at (by kernel_rfl) (by kernel_rfl) ?_
            repeat (go_big_quiet_step ((first | (go_at_call 80; exact calls_ext (objs_any (J1.ext _) _)) | (go_at_call 32; exact in_ext ob _) | (go_at_call 81; exact calls_ext (began_is (J1.ext _) (E1.ext _) hll e hg hg' hs hs' hla.1 hla.2 bg)) | fail)))
            refine wpQuiet_nil ?_
            rintro _ ⟨x, rfl⟩
            go_wp2_with (first | (go_at_call 32; first | ((with_reducible refine (in_ext c1 _).mono ?_); rintro _ _ ⟨rfl, z, rfl⟩) | ((with_reducible refine (in_ext c2 _).mono ?_); rintro _ _ ⟨rfl, z, rfl⟩) | ((with_reducible refine (in_ext c4 _).mono ?_); rintro _ _ ⟨rfl, z, rfl⟩)) | ((refine (calls_ext (rule_calls (J1.ext _) e hr hg hg' hob)).mono ?_); rintro _ _ ⟨rfl, z, rfl⟩))
            refine region_at (by kernel_rfl) (by kernel_rfl) ?_
            repeat (go_big_quiet_step ((first | (go_at_call 80; exact calls_ext (objs_any (J1.ext _) _)) | (go_at_call 32; exact in_ext ob _) | (go_at_call 81; exact calls_ext (began_is (J1.ext _) (E1.ext _) hll e hg hg' hs hs' hla.1 hla.2 bg)) | fail)))
            refine wpQuiet_nil ?_
            rintro _ ⟨x, rfl⟩
            go_wp2_with (first | (go_at_call 32; first | ((with_reducible refine (in_ext c1 _).mono ?_); rintro _ _ ⟨rfl, z, rfl⟩) | ((with_reducible refine (in_ext c2 _).mono ?_); rintro _ _ ⟨rfl, z, rfl⟩) | ((with_reducible refine (in_ext c4 _).mono ?_); rintro _ _ ⟨rfl, z, rfl⟩)) | ((refine (calls_ext (rule_calls (J1.ext _) e hr hg hg' hob)).mono ?_); rintro _ _ ⟨rfl, z, rfl⟩))
            go_ret
            exact ⟨ret_bool (by simp only [rightB, k3, k5, k1, l0, n0, ob, bg, c1, c2, c3, c4, k0, Bool.false_eq_true, if_true, if_false, Bool.not_true, Bool.not_false, Bool.true_and, Bool.and_true, Bool.false_and, Bool.and_false, Bool.true_or, Bool.or_true, Bool.false_or, Bool.or_false]; try rfl), ex_ext _ hy'⟩
    · go_enter Try.func60, Try.ntmps60
      go_wp2_with (first | (go_at_call 32; first | ((with_reducible refine (in_ext c1 _).mono ?_); rintro _ _ ⟨rfl, z, rfl⟩) | ((with_reducible refine (in_ext c2 _).mono ?_); rintro _ _ ⟨rfl, z, rfl⟩) | ((with_reducible refine (in_ext c4 _).mono ?_); rintro _ _ ⟨rfl, z, rfl⟩)))
      refine region_at (by kernel_rfl) (by kernel_rfl) ?_
      repeat (go_big_quiet_step ((first | fail)))
      refine wpQuiet_nil ?_
      rintro _ ⟨x, rfl⟩
      go_wp2_with (first | (go_at_call 32; first | ((with_reducible refine (in_ext c1 _).mono ?_); rintro _ _ ⟨rfl, z, rfl⟩) | ((with_reducible refine (in_ext c2 _).mono ?_); rintro _ _ ⟨rfl, z, rfl⟩) | ((with_reducible refine (in_ext c4 _).mono ?_); rintro _ _ ⟨rfl, z, rfl⟩)))
      go_ret
      exact ⟨ret_bool (by simp only [rightB, k3, k5, k1, l0, n0, c1, c2, c3, c4, k0, Bool.false_eq_true, if_true, if_false, Bool.not_true, Bool.not_false, Bool.true_and, Bool.and_true, Bool.false_and, Bool.and_false, Bool.true_or, Bool.or_true, Bool.false_or, Bool.or_false]; try rfl), ex_ext _ hy'⟩
  · go_enter Try.func60, Try.ntmps60
    go_wp2_with (first | (go_at_call 32; first | ((with_reducible refine (in_ext c1 _).mono ?_); rintro _ _ ⟨rfl, z, rfl⟩) | ((with_reducible refine (in_ext c2 _).mono ?_); rintro _ _ ⟨rfl, z, rfl⟩) | ((with_reducible refine (in_ext c4 _).mono ?_); rintro _ _ ⟨rfl, z, rfl⟩)))
    refine region_at (by kernel_rfl) (by kernel_rfl) ?_
    repeat (go_big_quiet_step ((first | fail)))
    refine wpQuiet_nil ?_
    rintro _ ⟨x, rfl⟩
    go_wp2_with (first | (go_at_call 32; first | ((with_reducible refine (in_ext c1 _).mono ?_); rintro _ _ ⟨rfl, z, rfl⟩) | ((with_reducible refine (in_ext c2 _).mono ?_); rintro _ _ ⟨rfl, z, rfl⟩) | ((with_reducible refine (in_ext c4 _).mono ?_); rintro _ _ ⟨rfl, z, rfl⟩)))
    go_ret
    exact ⟨ret_bool (by simp only [rightB, k3, k5, k1, l0, c1, c2, c3, c4, k0, Bool.false_eq_true, if_true, if_false, Bool.not_true, Bool.not_false, Bool.true_and, Bool.and_true, Bool.false_and, Bool.and_false, Bool.true_or, Bool.or_true, Bool.false_or, Bool.or_false]; try rfl), ex_ext _ hy'⟩

set_option maxHeartbeats 16000000 in
theorem right_1 (h : J w b caps s) {A : Option Addr} {l : List Ev} {lc : Nat} (hE : EvsAt w A l) (hll : l.length ≤ 140737488351232) (hcl : caps.length ≤ 4) (e : Ev) (hl : ∀ g, 0 ≤ g → g < 8 → 0 ≤ s.last g ∧ s.last g ≤ 140737488351232) (c1 : inB e.g 0 7 = true) (c2 : inB e.kind 0 17 = true) (c3 : decide (e.no < 0) = false) (c4 : inB e.start (-1) (l.length - 1) = true) (k0 : (e.kind == 0) = false) (k3 : (e.kind == 3) = false) (k5 : (e.kind == 5) = false) (k1 : (e.kind != 1) = false) :
    Calls Try.prog 60 #[.pointer (some ⟨b.bj, 0, none⟩), .slice A l.length lc, e.val] w fun r w' => r = .returned (.bool (rightB caps s l e)) ∧ ∃ x : Ext w, w' = w.ext x := by
  unfold Ev.val
  obtain ⟨w1, x1, hw1, ⟨y, hy⟩, hsz, f0, f1, f2, f3, f4⟩ := boxEv' w e
  have J1 : J w1 b caps s := hy ▸ h.ext y
  have E1 : EvsAt w1 A l := hy ▸ hE.ext y
  have hy' : ∃ y : Ext w, w1 = w.ext y := ⟨y, hy⟩
  clear hy
  obtain ⟨hg, hg'⟩ : 0 ≤ e.g ∧ e.g < 8 := by simp only [inB, Bool.and_eq_true, decide_eq_true_eq] at c1; omega
  obtain ⟨hs, hs'⟩ : -1 ≤ e.start ∧ e.start < l.length := by simp only [inB, Bool.and_eq_true, decide_eq_true_eq] at c4; omega
  have hla := hl e.g hg hg'
  obtain ⟨ho0, ho4⟩ := objsI_le hcl e.kind
  have gl := J1.clast hg hg'
  cases l0 : (s.last e.g == 0)
  · cases n0 : (e.no != 0)
    · cases bg : beganB s l e
      · go_enter Try.func60, Try.ntmps60
        go_wp2_with (first | (go_at_call 32; first | ((with_reducible refine (in_ext c1 _).mono ?_); rintro _ _ ⟨rfl, z, rfl⟩) | ((with_reducible refine (in_ext c2 _).mono ?_); rintro _ _ ⟨rfl, z, rfl⟩) | ((with_reducible refine (in_ext c4 _).mono ?_); rintro _ _ ⟨rfl, z, rfl⟩)))
        refine region_at (by kernel_rfl) (by kernel_rfl) ?_
        repeat (go_big_quiet_step ((first | (go_at_call 81; exact calls_ext (began_is (J1.ext _) (E1.ext _) hll e hg hg' hs hs' hla.1 hla.2 bg)) | fail)))
        refine wpQuiet_nil ?_
        rintro _ ⟨x, rfl⟩
        go_wp2_with (first | (go_at_call 32; first | ((with_reducible refine (in_ext c1 _).mono ?_); rintro _ _ ⟨rfl, z, rfl⟩) | ((with_reducible refine (in_ext c2 _).mono ?_); rintro _ _ ⟨rfl, z, rfl⟩) | ((with_reducible refine (in_ext c4 _).mono ?_); rintro _ _ ⟨rfl, z, rfl⟩)))
        go_ret
        exact ⟨ret_bool (by simp only [rightB, k3, k5, k1, l0, n0, bg, c1, c2, c3, c4, k0, Bool.false_eq_true, if_true, if_false, Bool.not_true, Bool.not_false, Bool.true_and, Bool.and_true, Bool.false_and, Bool.and_false, Bool.true_or, Bool.or_true, Bool.false_or, Bool.or_false]; try rfl), ex_ext _ hy'⟩
      · cases hr : ruleF e.kind with
        | none =>
          have gt := J1.lookT hr
          have g13 := J1.c13
          have hrb := rule_none (caps := caps) (s := s) hr
          go_enter Try.func60, Try.ntmps60
          go_wp2_with (first | (go_at_call 32; first | ((with_reducible refine (in_ext c1 _).mono ?_); rintro _ _ ⟨rfl, z, rfl⟩) | ((with_reducible refine (in_ext c2 _).mono ?_); rintro _ _ ⟨rfl, z, rfl⟩) | ((with_reducible refine (in_ext c4 _).mono ?_); rintro _ _ ⟨rfl, z, rfl⟩)))
          refine region_at (by kernel_rfl) (by kernel_rfl) ?_
          repeat (go_big_quiet_step ((first | (go_at_call 81; exact calls_ext (began_is (J1.ext _) (E1.ext _) hll e hg hg' hs hs' hla.1 hla.2 bg)) | fail)))
          refine wpQuiet_nil ?_
          rintro _ ⟨x, rfl⟩
          go_wp2_with (first | (go_at_call 32; first | ((with_reducible refine (in_ext c1 _).mono ?_); rintro _ _ ⟨rfl, z, rfl⟩) | ((with_reducible refine (in_ext c2 _).mono ?_); rintro _ _ ⟨rfl, z, rfl⟩) | ((with_reducible refine (in_ext c4 _).mono ?_); rintro _ _ ⟨rfl, z, rfl⟩)))
          refine region_at (by kernel_rfl) (by kernel_rfl) ?_
          repeat (go_big_quiet_step ((first | (go_at_call 81; exact calls_ext (began_is (J1.ext _) (E1.ext _) hll e hg hg' hs hs' hla.1 hla.2 bg)) | fail)))
          refine wpQuiet_nil ?_
          rintro _ ⟨x, rfl⟩
          go_wp2_with (first | (go_at_call 32; first | ((with_reducible refine (in_ext c1 _).mono ?_); rintro _ _ ⟨rfl, z, rfl⟩) | ((with_reducible refine (in_ext c2 _).mono ?_); rintro _ _ ⟨rfl, z, rfl⟩) | ((with_reducible refine (in_ext c4 _).mono ?_); rintro _ _ ⟨rfl, z, rfl⟩)))
          go_ret
          exact ⟨ret_bool (by simp only [rightB, k3, k5, k1, l0, n0, bg, c1, c2, c3, c4, k0, hrb, Bool.false_eq_true, if_true, if_false, Bool.not_true, Bool.not_false, Bool.true_and, Bool.and_true, Bool.false_and, Bool.and_false, Bool.true_or, Bool.or_true, Bool.false_or, Bool.or_false]; try rfl), ex_ext _ hy'⟩
        | some p =>
          obtain ⟨f, c⟩ := p
          have gt := J1.lookT' hr
          have g13 := J1.c13
          have hcf := rule_enters hr
          have hob : e.kind ≠ 1 → inB e.obj 0 (objsI caps e.kind - 1) = true := fun hne => by simp at k1; exact absurd k1 hne
          go_enter Try.func60, Try.ntmps60
          go_wp2_with (first | (go_at_call 32; first | ((with_reducible refine (in_ext c1 _).mono ?_); rintro _ _ ⟨rfl, z, rfl⟩) | ((with_reducible refine (in_ext c2 _).mono ?_); rintro _ _ ⟨rfl, z, rfl⟩) | ((with_reducible refine (in_ext c4 _).mono ?_); rintro _ _ ⟨rfl, z, rfl⟩)) | ((refine (calls_ext (rule_calls (J1.ext _) e hr hg hg' hob)).mono ?_); rintro _ _ ⟨rfl, z, rfl⟩))
          refine region_at (by kernel_rfl) (by kernel_rfl) ?_
          repeat (go_big_quiet_step ((first | (go_at_call 81; exact calls_ext (began_is (J1.ext _) (E1.ext _) hll e hg hg' hs hs' hla.1 hla.2 bg)) | fail)))
          refine wpQuiet_nil ?_
          rintro _ ⟨x, rfl⟩
          go_wp2_with (first | (go_at_call 32; first | ((with_reducible refine (in_ext c1 _).mono ?_); rintro _ _ ⟨rfl, z, rfl⟩) | ((with_reducible refine (in_ext c2 _).mono ?_); rintro _ _ ⟨rfl, z, rfl⟩) | ((with_reducible refine (in_ext c4 _).mono ?_); rintro _ _ ⟨rfl, z, rfl⟩)) | ((refine (calls_ext (rule_calls (J1.ext _) e hr hg hg' hob)).mono ?_); rintro _ _ ⟨rfl, z, rfl⟩))
          refine region_at (by kernel_rfl) (by kernel_rfl) ?_
          repeat (go_big_quiet_step ((first | (go_at_call 81; exact calls_ext (began_is (J1.ext _) (E1.ext _) hll e hg hg' hs hs' hla.1 hla.2 bg)) | fail)))
          refine wpQuiet_nil ?_
          rintro _ ⟨x, rfl⟩
          go_wp2_with (first | (go_at_call 32; first | ((with_reducible refine (in_ext c1 _).mono ?_); rintro _ _ ⟨rfl, z, rfl⟩) | ((with_reducible refine (in_ext c2 _).mono ?_); rintro _ _ ⟨rfl, z, rfl⟩) | ((with_reducible refine (in_ext c4 _).mono ?_); rintro _ _ ⟨rfl, z, rfl⟩)) | ((refine (calls_ext (rule_calls (J1.ext _) e hr hg hg' hob)).mono ?_); rintro _ _ ⟨rfl, z, rfl⟩))
          go_ret
          exact ⟨ret_bool (by simp only [rightB, k3, k5, k1, l0, n0, bg, c1, c2, c3, c4, k0, Bool.false_eq_true, if_true, if_false, Bool.not_true, Bool.not_false, Bool.true_and, Bool.and_true, Bool.false_and, Bool.and_false, Bool.true_or, Bool.or_true, Bool.false_or, Bool.or_false]; try rfl), ex_ext _ hy'⟩
    · go_enter Try.func60, Try.ntmps60
      go_wp2_with (first | (go_at_call 32; first | ((with_reducible refine (in_ext c1 _).mono ?_); rintro _ _ ⟨rfl, z, rfl⟩) | ((with_reducible refine (in_ext c2 _).mono ?_); rintro _ _ ⟨rfl, z, rfl⟩) | ((with_reducible refine (in_ext c4 _).mono ?_); rintro _ _ ⟨rfl, z, rfl⟩)))
      refine region_at (by kernel_rfl) (by kernel_rfl) ?_
      repeat (go_big_quiet_step ((first | fail)))
      refine wpQuiet_nil ?_
      rintro _ ⟨x, rfl⟩
      go_wp2_with (first | (go_at_call 32; first | ((with_reducible refine (in_ext c1 _).mono ?_); rintro _ _ ⟨rfl, z, rfl⟩) | ((with_reducible refine (in_ext c2 _).mono ?_); rintro _ _ ⟨rfl, z, rfl⟩) | ((with_reducible refine (in_ext c4 _).mono ?_); rintro _ _ ⟨rfl, z, rfl⟩)))
      go_ret
      exact ⟨ret_bool (by simp only [rightB, k3, k5, k1, l0, n0, c1, c2, c3, c4, k0, Bool.false_eq_true, if_true, if_false, Bool.not_true, Bool.not_false, Bool.true_and, Bool.and_true, Bool.false_and, Bool.and_false, Bool.true_or, Bool.or_true, Bool.false_or, Bool.or_false]; try rfl), ex_ext _ hy'⟩
  · go_enter Try.func60, Try.ntmps60
    go_wp2_with (first | (go_at_call 32; first | ((with_reducible refine (in_ext c1 _).mono ?_); rintro _ _ ⟨rfl, z, rfl⟩) | ((with_reducible refine (in_ext c2 _).mono ?_); rintro _ _ ⟨rfl, z, rfl⟩) | ((with_reducible refine (in_ext c4 _).mono ?_); rintro _ _ ⟨rfl, z, rfl⟩)))
    refine region_at (by kernel_rfl) (by kernel_rfl) ?_
    repeat (go_big_quiet_step ((first | fail)))
    refine wpQuiet_nil ?_
    rintro _ ⟨x, rfl⟩
    go_wp2_with (first | (go_at_call 32; first | ((with_reducible refine (in_ext c1 _).mono ?_); rintro _ _ ⟨rfl, z, rfl⟩) | ((with_reducible refine (in_ext c2 _).mono ?_); rintro _ _ ⟨rfl, z, rfl⟩) | ((with_reducible refine (in_ext c4 _).mono ?_); rintro _ _ ⟨rfl, z, rfl⟩)))
    go_ret
    exact ⟨ret_bool (by simp only [rightB, k3, k5, k1, l0, c1, c2, c3, c4, k0, Bool.false_eq_true, if_true, if_false, Bool.not_true, Bool.not_false, Bool.true_and, Bool.and_true, Bool.false_and, Bool.and_false, Bool.true_or, Bool.or_true, Bool.false_or, Bool.or_false]; try rfl), ex_ext _ hy'⟩

/-- Whether an event is right. -/
theorem right_any (h : J w b caps s) {A : Option Addr} {l : List Ev} {lc : Nat} (hE : EvsAt w A l) (hll : l.length ≤ 140737488351232) (hcl : caps.length ≤ 4) (e : Ev) (hl : ∀ g, 0 ≤ g → g < 8 → 0 ≤ s.last g ∧ s.last g ≤ 140737488351232) :
    Calls Try.prog 60 #[.pointer (some ⟨b.bj, 0, none⟩), .slice A l.length lc, e.val] w fun r w' => r = .returned (.bool (rightB caps s l e)) ∧ ∃ x : Ext w, w' = w.ext x := by
  cases c1 : inB e.g 0 7
  · exact right_g h hE hll hcl e hl c1
  cases c2 : inB e.kind 0 17
  · exact right_k h hE hll hcl e hl c1 c2
  cases c3 : decide (e.no < 0)
  · cases c4 : inB e.start (-1) (l.length - 1)
    · exact right_s h hE hll hcl e hl c1 c2 c3 c4
    cases k0 : (e.kind == 0)
    · cases k3 : (e.kind == 3)
      · cases k5 : (e.kind == 5)
        · cases k1 : (e.kind != 1)
          · exact right_1 h hE hll hcl e hl c1 c2 c3 c4 k0 k3 k5 k1
          · exact right_r h hE hll hcl e hl c1 c2 c3 c4 k0 k3 k5 k1
        · exact right_5 h hE hll hcl e hl c1 c2 c3 c4 k0 k3 k5
      · exact right_3 h hE hll hcl e hl c1 c2 c3 c4 k0 k3
    · exact right_0 h hE hll hcl e hl c1 c2 c3 c4 k0
  · exact right_n h hE hll hcl e hl c1 c2 c3
end
end Go.Proofs.Ytnjnmoehjaikkaa.Tr
