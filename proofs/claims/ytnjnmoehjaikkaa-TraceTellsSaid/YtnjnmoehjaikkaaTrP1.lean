/- The judge's and the document's answer about one event are the same, where the judge knows what the events ahead come to. No program here. -/
import Derived.Test.YtnjnmoehjaikkaaTrR2
import Derived.IntWalk
namespace Go.Proofs.Ytnjnmoehjaikkaa.Tr
open Go Go.RowKit Base
set_option linter.unusedVariables false
set_option linter.unusedSimpArgs false

def rbadF (caps : List Int) (l : List Ev) (i : Int) (e : Ev) : Bool :=
  if rshapeF i e = true then true else if rbegunF l i e = true then true else if rfieldsF caps l i e = true then true else if rbeganF l i e = true then true else if rchannelF caps l i e = true then true else rsyncF l i e

/-- What the judge knows is what the events ahead come to. -/
structure StOk (s : JS) (l : List Ev) (n : Nat) : Prop where
  count : ∀ k o, s.count k o = cntTo l k o n
  last : ∀ g, s.last g = lastFrom l g n + 1
  begun : s.begun = cntK l 0 n
  first : ∀ o, s.first o = match firstDo l o n 0 with | none => 0 | some x => x.g + 1

theorem lastFrom_lt (l : List Ev) (g : Int) : ∀ n : Nat, -1 ≤ lastFrom l g n ∧ lastFrom l g n < n
  | 0 => by simp [lastFrom]
  | n + 1 => by
    have := lastFrom_lt l g n
    unfold lastFrom
    split <;> omega

theorem evAt_take (l : List Ev) (n : Nat) {j : Int} (h0 : 0 ≤ j) (h1 : j < n) : evAt (l.take n) j = evAt l j := by
  unfold evAt
  rw [List.getD_eq_getElem?_getD, List.getD_eq_getElem?_getD, List.getElem?_take, if_pos (by omega)]

theorem wrap_small {a : Int} (h0 : -9223372036854775808 ≤ a) (h1 : a ≤ 9223372036854775807) : wrap64 a = a := IntWalk.wrap64_in a ⟨h0, h1⟩

set_option maxHeartbeats 4000000 in
theorem right_iff {caps : List Int} {s : JS} {l : List Ev} {n : Nat} (hcap : ∀ k : Int, 0 ≤ k → k < caps.length → -1 ≤ rdI caps k ∧ rdI caps k ≤ 3) (hcl : caps.length ≤ 4) (hn : n < l.length) (hl : l.length ≤ 140737488351232) (S : StOk s l n) (H7 : ∀ o, 0 < cntTo l 7 o n → 0 ≤ rdI caps o) (e : Ev) :
    rightB caps s (l.take n) e = !rbadF caps l n e := by
  have hlen : (l.take n).length = n := by rw [List.length_take]; omega
  have hL := lastFrom_lt l e.g n
  have hS := S.last e.g
  have hb := S.begun
  have hbb := cntK_le l 0 n
  have c3 := S.count 3 e.obj
  have c5 := S.count 5 e.obj
  have c7 := S.count 7 e.obj
  have c11 := S.count 11 e.obj
  have c12 := S.count 12 e.obj
  have c14 := S.count 14 e.obj
  have b3 := cntTo_le l 3 e.obj n
  have b5 := cntTo_le l 5 e.obj n
  have b7 := cntTo_le l 7 e.obj n
  have h7 := H7 e.obj
  clear H7
  have b11 := cntTo_le l 11 e.obj n
  have b12 := cntTo_le l 12 e.obj n
  have b14 := cntTo_le l 14 e.obj n
  have hf := S.first e.obj
  have hT : ∀ j : Int, 0 ≤ j → j < n → evAt (l.take n) j = evAt l j := fun j h0 h1 => evAt_take l n h0 h1
  have w11 : wrap64 (cntTo l 11 e.obj n - cntTo l 12 e.obj n) = cntTo l 11 e.obj n - cntTo l 12 e.obj n := wrap_small (by omega) (by omega)
  have w5 : wrap64 (cntTo l 5 e.obj n + rdI caps e.obj) = cntTo l 5 e.obj n + rdI caps e.obj ∨ ¬ (0 ≤ e.obj ∧ e.obj < caps.length) := by
    by_cases h : 0 ≤ e.obj ∧ e.obj < caps.length
    · left; exact wrap_small (by have := hcap _ h.1 h.2; omega) (by have := hcap _ h.1 h.2; omega)
    · exact .inr h
  clear hcap
  obtain ⟨g, kind, obj, no, start⟩ := e
  simp only at *
  by_cases hsh : (0 ≤ g ∧ g ≤ 7) ∧ (0 ≤ kind ∧ kind ≤ 17) ∧ 0 ≤ no ∧ -1 ≤ start ∧ start < n
  · obtain ⟨⟨g0, g7⟩, ⟨k0, k17⟩, no0, s0, sn⟩ := hsh
    have hshape : rshapeF n ⟨g, kind, obj, no, start⟩ = false := by
      simp [rshapeF]; omega
    have hright : rightB caps s (l.take n) ⟨g, kind, obj, no, start⟩ = (if kind == 0 then beginsB s (l.take n) ⟨g, kind, obj, no, start⟩ else
      !(s.last g == 0) && ((kind == 3 || (kind == 5 || !(no != 0))) && ((!(kind != 1) || inB obj 0 (objsI caps kind - 1)) && (beganB s (l.take n) ⟨g, kind, obj, no, start⟩ && ruleB caps s ⟨g, kind, obj, no, start⟩)))) := by
      have e1 : inB g 0 7 = true := by simp [inB]; omega
      have e2 : inB kind 0 17 = true := by simp [inB]; omega
      have e3 : inB start (-1) (((l.take n).length : Int) - 1) = true := by rw [hlen]; simp [inB]; omega
      have e4 : decide (no < 0) = false := by simp; omega
      simp only [rightB, e1, e2, e3, e4, Bool.not_false, Bool.true_and]
    rw [hright]
    have hbad : rbadF caps l n ⟨g, kind, obj, no, start⟩ = (if rbegunF l n ⟨g, kind, obj, no, start⟩ = true then true else if rfieldsF caps l n ⟨g, kind, obj, no, start⟩ = true then true else if rbeganF l n ⟨g, kind, obj, no, start⟩ = true then true else if rchannelF caps l n ⟨g, kind, obj, no, start⟩ = true then true else rsyncF l n ⟨g, kind, obj, no, start⟩) := by
      simp only [rbadF, hshape, Bool.false_eq_true, if_false]
    rw [hbad]
    clear hright hbad hshape
    have hx : evAt (l.take n) start = evAt l start ∨ start = -1 := by
      by_cases h : 0 ≤ start
      · exact .inl (hT _ h sn)
      · right; omega
    clear hT
    have hk : kind = 0 ∨ kind = 1 ∨ kind = 2 ∨ kind = 3 ∨ kind = 4 ∨ kind = 5 ∨ kind = 6 ∨ kind = 7 ∨ kind = 8 ∨ kind = 9 ∨ kind = 10 ∨ kind = 11 ∨ kind = 12 ∨ kind = 13 ∨ kind = 14 ∨ kind = 15 ∨ kind = 16 ∨ kind = 17 := by omega
    clear k0 k17
    rw [Bool.eq_iff_iff]
    rcases hk with rfl | rfl | rfl | rfl | rfl | rfl | rfl | rfl | rfl | rfl | rfl | rfl | rfl | rfl | rfl | rfl | rfl | rfl
    · by_cases hg0 : g = 0
      · subst hg0
        rcases hx with hx | rfl
        all_goals
          simp [beginsB, beganB, originOf, ruleB, R3, R4, R5, R6, R9, objsI, inB, rbegunF, rfieldsF, rfieldsNF, rbeganF, rchannelF, rsyncF, renderF, rnumberedF, rbeginsF, roriginF, rmostF, c3, c5, c7, c11, c12, c14, hS, hb, *]
          try omega
      · rcases hx with hx | rfl
        all_goals
          simp [beginsB, beganB, originOf, ruleB, R3, R4, R5, R6, R9, objsI, inB, rbegunF, rfieldsF, rfieldsNF, rbeganF, rchannelF, rsyncF, renderF, rnumberedF, rbeginsF, roriginF, rmostF, c3, c5, c7, c11, c12, c14, hS, hb, *]
          try omega
    · rcases hx with hx | rfl
      all_goals
        simp [beginsB, beganB, originOf, ruleB, R3, R4, R5, R6, R9, objsI, inB, rbegunF, rfieldsF, rfieldsNF, rbeganF, rchannelF, rsyncF, renderF, rnumberedF, rbeginsF, roriginF, rmostF, c3, c5, c7, c11, c12, c14, hS, hb, *]
        try omega
    · rcases hx with hx | rfl
      all_goals
        simp [beginsB, beganB, originOf, ruleB, R3, R4, R5, R6, R9, objsI, inB, rbegunF, rfieldsF, rfieldsNF, rbeganF, rchannelF, rsyncF, renderF, rnumberedF, rbeginsF, roriginF, rmostF, c3, c5, c7, c11, c12, c14, hS, hb, *]
        try omega
    · rcases w5 with w5 | w5
      all_goals
        rcases hx with hx | rfl
        all_goals
          simp [beginsB, beganB, originOf, ruleB, R3, R4, R5, R6, R9, objsI, inB, rbegunF, rfieldsF, rfieldsNF, rbeganF, rchannelF, rsyncF, renderF, rnumberedF, rbeginsF, roriginF, rmostF, c3, c5, c7, c11, c12, c14, hS, hb, *]
          try omega
    · rcases hx with hx | rfl
      all_goals
        simp [beginsB, beganB, originOf, ruleB, R3, R4, R5, R6, R9, objsI, inB, rbegunF, rfieldsF, rfieldsNF, rbeganF, rchannelF, rsyncF, renderF, rnumberedF, rbeginsF, roriginF, rmostF, c3, c5, c7, c11, c12, c14, hS, hb, *]
        try omega
    · rcases hx with hx | rfl
      all_goals
        simp [beginsB, beganB, originOf, ruleB, R3, R4, R5, R6, R9, objsI, inB, rbegunF, rfieldsF, rfieldsNF, rbeganF, rchannelF, rsyncF, renderF, rnumberedF, rbeginsF, roriginF, rmostF, c3, c5, c7, c11, c12, c14, hS, hb, *]
        try omega
    · rcases hx with hx | rfl
      all_goals
        simp [beginsB, beganB, originOf, ruleB, R3, R4, R5, R6, R9, objsI, inB, rbegunF, rfieldsF, rfieldsNF, rbeganF, rchannelF, rsyncF, renderF, rnumberedF, rbeginsF, roriginF, rmostF, c3, c5, c7, c11, c12, c14, hS, hb, *]
        try omega
    · rcases hx with hx | rfl
      all_goals
        simp [beginsB, beganB, originOf, ruleB, R3, R4, R5, R6, R9, objsI, inB, rbegunF, rfieldsF, rfieldsNF, rbeganF, rchannelF, rsyncF, renderF, rnumberedF, rbeginsF, roriginF, rmostF, c3, c5, c7, c11, c12, c14, hS, hb, *]
        try omega
    · rcases hx with hx | rfl
      all_goals
        simp [beginsB, beganB, originOf, ruleB, R3, R4, R5, R6, R9, objsI, inB, rbegunF, rfieldsF, rfieldsNF, rbeganF, rchannelF, rsyncF, renderF, rnumberedF, rbeginsF, roriginF, rmostF, c3, c5, c7, c11, c12, c14, hS, hb, *]
        try omega
    · rcases hx with hx | rfl
      all_goals
        simp [beginsB, beganB, originOf, ruleB, R3, R4, R5, R6, R9, objsI, inB, rbegunF, rfieldsF, rfieldsNF, rbeganF, rchannelF, rsyncF, renderF, rnumberedF, rbeginsF, roriginF, rmostF, c3, c5, c7, c11, c12, c14, hS, hb, *]
        try omega
    · rcases hx with hx | rfl
      all_goals
        simp [beginsB, beganB, originOf, ruleB, R3, R4, R5, R6, R9, objsI, inB, rbegunF, rfieldsF, rfieldsNF, rbeganF, rchannelF, rsyncF, renderF, rnumberedF, rbeginsF, roriginF, rmostF, c3, c5, c7, c11, c12, c14, hS, hb, *]
        try omega
    · rcases hx with hx | rfl
      all_goals
        simp [beginsB, beganB, originOf, ruleB, R3, R4, R5, R6, R9, objsI, inB, rbegunF, rfieldsF, rfieldsNF, rbeganF, rchannelF, rsyncF, renderF, rnumberedF, rbeginsF, roriginF, rmostF, c3, c5, c7, c11, c12, c14, hS, hb, *]
        try omega
    · rcases hx with hx | rfl
      all_goals
        simp [beginsB, beganB, originOf, ruleB, R3, R4, R5, R6, R9, objsI, inB, rbegunF, rfieldsF, rfieldsNF, rbeganF, rchannelF, rsyncF, renderF, rnumberedF, rbeginsF, roriginF, rmostF, c3, c5, c7, c11, c12, c14, hS, hb, *]
        try omega
    · rcases hx with hx | rfl
      all_goals
        simp [beginsB, beganB, originOf, ruleB, R3, R4, R5, R6, R9, objsI, inB, rbegunF, rfieldsF, rfieldsNF, rbeganF, rchannelF, rsyncF, renderF, rnumberedF, rbeginsF, roriginF, rmostF, c3, c5, c7, c11, c12, c14, hS, hb, *]
        try omega
    · cases hfd : firstDo l obj n 0 with
      | none =>
        rw [hfd] at hf
        simp only at hf
        rcases hx with hx | rfl
        all_goals
          simp [beginsB, beganB, originOf, ruleB, R3, R4, R5, R6, R9, objsI, inB, rbegunF, rfieldsF, rfieldsNF, rbeganF, rchannelF, rsyncF, renderF, rnumberedF, rbeginsF, roriginF, rmostF, c3, c5, c7, c11, c12, c14, hS, hb, hf, hfd, *]
          try omega
      | some x =>
        rw [hfd] at hf
        simp only at hf
        rcases hx with hx | rfl
        all_goals
          simp [beginsB, beganB, originOf, ruleB, R3, R4, R5, R6, R9, objsI, inB, rbegunF, rfieldsF, rfieldsNF, rbeganF, rchannelF, rsyncF, renderF, rnumberedF, rbeginsF, roriginF, rmostF, c3, c5, c7, c11, c12, c14, hS, hb, hf, hfd, *]
          try omega
    · cases hfd : firstDo l obj n 0 with
      | none =>
        rw [hfd] at hf
        simp only at hf
        rcases hx with hx | rfl
        all_goals
          simp [beginsB, beganB, originOf, ruleB, R3, R4, R5, R6, R9, objsI, inB, rbegunF, rfieldsF, rfieldsNF, rbeganF, rchannelF, rsyncF, renderF, rnumberedF, rbeginsF, roriginF, rmostF, c3, c5, c7, c11, c12, c14, hS, hb, hf, hfd, *]
          try omega
      | some x =>
        rw [hfd] at hf
        simp only at hf
        rcases hx with hx | rfl
        all_goals
          simp [beginsB, beganB, originOf, ruleB, R3, R4, R5, R6, R9, objsI, inB, rbegunF, rfieldsF, rfieldsNF, rbeganF, rchannelF, rsyncF, renderF, rnumberedF, rbeginsF, roriginF, rmostF, c3, c5, c7, c11, c12, c14, hS, hb, hf, hfd, *]
          try omega
    · rcases hx with hx | rfl
      all_goals
        simp [beginsB, beganB, originOf, ruleB, R3, R4, R5, R6, R9, objsI, inB, rbegunF, rfieldsF, rfieldsNF, rbeganF, rchannelF, rsyncF, renderF, rnumberedF, rbeginsF, roriginF, rmostF, c3, c5, c7, c11, c12, c14, hS, hb, *]
        try omega
    · rcases hx with hx | rfl
      all_goals
        simp [beginsB, beganB, originOf, ruleB, R3, R4, R5, R6, R9, objsI, inB, rbegunF, rfieldsF, rfieldsNF, rbeganF, rchannelF, rsyncF, renderF, rnumberedF, rbeginsF, roriginF, rmostF, c3, c5, c7, c11, c12, c14, hS, hb, *]
        try omega
  · have hshape : rshapeF n ⟨g, kind, obj, no, start⟩ = true := by
      simp [rshapeF]; omega
    have : rbadF caps l n ⟨g, kind, obj, no, start⟩ = true := by simp [rbadF, hshape]
    rw [this]
    simp only [rightB, inB, hlen, Bool.not_true, Bool.and_eq_false_iff, decide_eq_false_iff_not, Bool.not_eq_false', decide_eq_true_eq]
    omega

theorem evAt_nat (l : List Ev) (n : Nat) (hn : n < l.length) : l[n]? = some (evAt l n) := by
  have := evAt_get (l := l) (i := n) (by omega) (by omega)
  simpa using this

theorem firstDo_snoc (l : List Ev) (o : Int) : ∀ d k : Nat, firstDo l o (d + 1) k = match firstDo l o d k with | some x => some x | none => if isDo o (evAt l (k + d : Nat)) = true then some (evAt l (k + d : Nat)) else none
  | 0, k => by simp [firstDo]
  | d + 1, k => by
    unfold firstDo
    split
    · rfl
    · rw [firstDo_snoc l o d (k + 1)]
      rw [show k + 1 + d = k + (d + 1) by omega]

theorem firstDo_mem (l : List Ev) (o : Int) : ∀ d k x, firstDo l o d k = some x → ∃ j, k ≤ j ∧ j < k + d ∧ x = evAt l (j : Nat)
  | 0, k, x, h => by simp [firstDo] at h
  | d + 1, k, x, h => by
    unfold firstDo at h
    split at h
    · simp only [Option.some.injEq] at h
      exact ⟨k, Nat.le_refl _, by omega, h.symm⟩
    · obtain ⟨j, h1, h2, h3⟩ := firstDo_mem l o d (k + 1) x h
      exact ⟨j, by omega, by omega, h3⟩

/-- The judge goes on. -/
theorem StOk.next {caps : List Int} {s : JS} {l : List Ev} {n : Nat} (S : StOk s l n) (hg : ∀ j : Nat, j < n → 0 ≤ (evAt l j).g) : StOk (s.upd n (evAt l n)) l (n + 1) where
  count k o := by
    simp only [JS.upd, cntTo, S.count]
    by_cases h : (evAt l n).kind = k ∧ (evAt l n).obj = o
    · rw [if_pos h, if_pos (by simp [h.1, h.2]), h.1, h.2]
    · rw [if_neg h, if_neg (by simpa using h)]; omega
  last g := by
    simp only [JS.upd, lastFrom, S.last]
    by_cases h : (evAt l n).g = g
    · rw [if_pos h, if_pos (by simp [h])]
    · rw [if_neg h, if_neg (by simpa using h)]
  begun := by
    simp only [JS.upd, cntK, S.begun]
    by_cases h : (evAt l n).kind = 0
    · rw [if_pos h, if_pos (by simp [h])]
    · rw [if_neg h, if_neg (by simpa using h)]; omega
  first o := by
    rw [firstDo_snoc]
    simp only [JS.upd, Nat.zero_add, isDo]
    have h1 := S.first (evAt l n).obj
    have h2 := S.first o
    by_cases ho : (evAt l n).kind = 13 ∧ (evAt l n).obj = o
    · obtain ⟨hk, rfl⟩ := ho
      cases hf : firstDo l (evAt l n).obj n 0 with
      | none =>
        rw [hf] at h1
        simp [hk, h1]
      | some x =>
        rw [hf] at h1
        obtain ⟨j, _, hj, rfl⟩ := firstDo_mem _ _ _ _ _ hf
        have := hg j (by omega)
        rw [if_neg (by simp only at h1; omega)]
        exact h1
    · rw [if_neg (fun h => ho ⟨h.1, h.2.2⟩), h2]
      have : ((evAt l n).kind == 13 && (evAt l n).obj == o) = false := by simpa using ho
      cases firstDo l o n 0 with
      | none => simp [this]
      | some x => rfl

/-- The document's first that is wrong, from n on. -/
def rwrongF (caps : List Int) (l : List Ev) : Nat → Nat → Int
  | 0, _ => -1
  | d + 1, n => if rbadF caps l n (evAt l n) = true then n else rwrongF caps l d (n + 1)

theorem wrong_same {caps : List Int} {l : List Ev} (hcap : ∀ k : Int, 0 ≤ k → k < caps.length → -1 ≤ rdI caps k ∧ rdI caps k ≤ 3) (hcl : caps.length ≤ 4) (hl : l.length ≤ 140737488351232) :
    ∀ (d n : Nat) (s : JS), n + d = l.length → StOk s l n → (∀ o, 0 < cntTo l 7 o n → 0 ≤ rdI caps o) → (∀ j : Nat, j < n → 0 ≤ (evAt l j).g) → wrongI caps (l.take n) s (l.drop n) = rwrongF caps l d n
  | 0, n, s, hn, S, H7, hg => by
    rw [List.drop_eq_nil_of_le (by omega)]; rfl
  | d + 1, n, s, hn, S, H7, hg => by
    have hlt : n < l.length := by omega
    have hd : l.drop n = evAt l n :: l.drop (n + 1) := by
      rw [List.drop_eq_getElem_cons hlt]
      congr 1
      exact Option.some.inj ((List.getElem?_eq_getElem hlt).symm.trans (evAt_nat l n hlt))
    have htk : l.take (n + 1) = l.take n ++ [evAt l n] := by
      rw [List.take_succ_eq_append_getElem hlt]
      congr 2
      exact Option.some.inj ((List.getElem?_eq_getElem hlt).symm.trans (evAt_nat l n hlt))
    have hlen : (l.take n).length = n := by rw [List.length_take]; omega
    have hr := right_iff hcap hcl hlt hl S H7 (evAt l n)
    rw [hd, wrongI, rwrongF]
    cases hb : rbadF caps l n (evAt l n)
    · rw [hb] at hr
      have hr' : rightB caps s (l.take n) (evAt l n) = true := hr
      rw [if_pos hr', if_neg Bool.false_ne_true, ← htk, hlen]
      refine wrong_same hcap hcl hl d (n + 1) _ (by omega) (S.next (caps := caps) hg) ?_ ?_
      · intro o ho
        unfold cntTo at ho
        by_cases h7 : (evAt l n).kind = 7 ∧ (evAt l n).obj = o
        · simp only [rightB, ruleB, h7.1, Bool.and_eq_true] at hr'
          simp [R6, h7.2] at hr'
          omega
        · rw [if_neg (by simpa using h7)] at ho
          exact H7 o (by omega)
      · intro j hj
        by_cases hjn : j = n
        · subst hjn
          simp only [rightB, inB, Bool.and_eq_true, decide_eq_true_eq] at hr'
          omega
        · exact hg j (by omega)
    · rw [hb] at hr
      rw [if_neg (by rw [hr]; decide), if_pos rfl, hlen]

theorem wrong_eq {caps : List Int} {l : List Ev} (hcap : ∀ k : Int, 0 ≤ k → k < caps.length → -1 ≤ rdI caps k ∧ rdI caps k ≤ 3) (hcl : caps.length ≤ 4) (hl : l.length ≤ 140737488351232) : wrongI caps [] s0 l = rwrongF caps l l.length 0 := by
  have := wrong_same hcap hcl hl l.length 0 s0 (by omega) ⟨fun k o => rfl, fun g => rfl, rfl, fun o => rfl⟩ (fun o h => by simp [cntTo] at h) (fun j hj => by omega)
  simpa using this
end Go.Proofs.Ytnjnmoehjaikkaa.Tr
