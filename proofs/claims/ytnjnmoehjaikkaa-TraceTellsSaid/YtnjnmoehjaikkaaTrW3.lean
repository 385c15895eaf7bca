/- The judge: who may begin; and whether an event is right. Condition: the judge and the events lie in memory. -/
import Derived.Test.YtnjnmoehjaikkaaTrW2
namespace Go.Proofs.Ytnjnmoehjaikkaa.Tr
open Go Go.RowKit Base
set_option linter.unusedVariables false
set_option linter.unusedSimpArgs false

section
variable {w : World} {b : Jb} {caps : List Int} {s : JS}

def beginsB (s : JS) (l : List Ev) (e : Ev) : Bool :=
  !(decide (0 < s.last e.g)) && (!(e.obj != 0) && (!(e.no != 0) && (if e.g == 0 then e.start == -1 else (e.start != -1) && (((evAt l e.start).kind == 1) && ((evAt l e.start).obj == e.g)))))

set_option maxHeartbeats 8000000 in
theorem begins_any (h : J w b caps s) {A : Option Addr} {l : List Ev} {lc : Nat} (hE : EvsAt w A l) (hll : l.length ≤ 140737488351232) (e : Ev) (hg : 0 ≤ e.g) (hg' : e.g < 8) (hs : -1 ≤ e.start) (hs' : e.start < l.length) (hl : 0 ≤ s.last e.g) (hl' : s.last e.g ≤ 140737488351232) :
    Calls Try.prog 79 #[.pointer (some ⟨b.bj, 0, none⟩), .slice A l.length lc, e.val] w fun r w' => r = .returned (.bool (beginsB s l e)) ∧ ∃ x : Ext w, w' = w.ext x := by
  unfold Ev.val
  obtain ⟨w1, x1, hw1, ⟨y, hy⟩, hsz, f0, f1, f2, f3, f4⟩ := boxEv' w e
  have J1 : J w1 b caps s := hy ▸ h.ext y
  have E1 : EvsAt w1 A l := hy ▸ hE.ext y
  have hy' : ∃ y : Ext w, w1 = w.ext y := ⟨y, hy⟩
  clear hy
  have gl := J1.clast hg hg'
  cases h1 : decide (0 < s.last e.g)
  · cases h2 : (e.obj != 0)
    · cases h3 : (e.no != 0)
      · cases h4 : (e.g == 0)
        · cases h5 : (e.start != -1)
          · go_enter Try.func79, Try.ntmps79
            go_wp2
            refine region_at (by kernel_rfl) (by kernel_rfl) ?_
            repeat (go_big_quiet_step (fail))
            refine wpQuiet_nil ?_
            rintro _ ⟨x, rfl⟩
            go_wp2
            refine region_at (by kernel_rfl) (by kernel_rfl) ?_
            repeat (go_big_quiet_step (fail))
            refine wpQuiet_nil ?_
            rintro _ ⟨x, rfl⟩
            go_wp2
            go_ret
            exact ⟨ret_bool (by simp only [beginsB, h1, h2, h3, h4, h5, Bool.false_eq_true, if_true, if_false, Bool.not_true, Bool.not_false, Bool.true_and, Bool.and_true, Bool.false_and, Bool.and_false, Bool.true_or, Bool.or_true, Bool.false_or, Bool.or_false]; try rfl), ex_ext _ hy'⟩
          · have hne : e.start ≠ -1 := by simpa using h5
            have hs0 : 0 ≤ e.start := by omega
            obtain ⟨eb, eo, hA, hlt, e0, e1, e2, e3, e4⟩ := E1.at (evAt_get hs0 hs')
            generalize hX : evAt l e.start = X at e0 e1 e2 e3 e4
            subst hA
            cases h6 : (X.kind == 1)
            · go_enter Try.func79, Try.ntmps79
              go_wp2
              refine region_at (by kernel_rfl) (by kernel_rfl) ?_
              repeat (go_big_quiet_step (fail))
              refine wpQuiet_nil ?_
              rintro _ ⟨x, rfl⟩
              go_wp2
              refine region_at (by kernel_rfl) (by kernel_rfl) ?_
              repeat (go_big_quiet_step (fail))
              refine wpQuiet_nil ?_
              rintro _ ⟨x, rfl⟩
              go_wp2
              go_ret
              exact ⟨ret_bool (by simp only [beginsB, h1, h2, h3, h4, h5, h6, hX, Bool.false_eq_true, if_true, if_false, Bool.not_true, Bool.not_false, Bool.true_and, Bool.and_true, Bool.false_and, Bool.and_false, Bool.true_or, Bool.or_true, Bool.false_or, Bool.or_false]; try rfl), ex_ext _ hy'⟩
            · go_enter Try.func79, Try.ntmps79
              go_wp2
              refine region_at (by kernel_rfl) (by kernel_rfl) ?_
              repeat (go_big_quiet_step (fail))
              refine wpQuiet_nil ?_
              rintro _ ⟨x, rfl⟩
              go_wp2
              refine region_at (by kernel_rfl) (by kernel_rfl) ?_
              repeat (go_big_quiet_step (fail))
              refine wpQuiet_nil ?_
              rintro _ ⟨x, rfl⟩
              go_wp2
              go_ret
              exact ⟨ret_bool (by simp only [beginsB, h1, h2, h3, h4, h5, h6, hX, Bool.false_eq_true, if_true, if_false, Bool.not_true, Bool.not_false, Bool.true_and, Bool.and_true, Bool.false_and, Bool.and_false, Bool.true_or, Bool.or_true, Bool.false_or, Bool.or_false]; try rfl), ex_ext _ hy'⟩
        · go_enter Try.func79, Try.ntmps79
          go_wp2
          refine region_at (by kernel_rfl) (by kernel_rfl) ?_
          repeat (go_big_quiet_step (fail))
          refine wpQuiet_nil ?_
          rintro _ ⟨x, rfl⟩
          go_wp2
          go_ret
          exact ⟨ret_bool (by simp only [beginsB, h1, h2, h3, h4, Bool.false_eq_true, if_true, if_false, Bool.not_true, Bool.not_false, Bool.true_and, Bool.and_true, Bool.false_and, Bool.and_false, Bool.true_or, Bool.or_true, Bool.false_or, Bool.or_false]; try rfl), ex_ext _ hy'⟩
      · go_enter Try.func79, Try.ntmps79
        go_wp2
        refine region_at (by kernel_rfl) (by kernel_rfl) ?_
        repeat (go_big_quiet_step (fail))
        refine wpQuiet_nil ?_
        rintro _ ⟨x, rfl⟩
        go_wp2
        go_ret
        exact ⟨ret_bool (by simp only [beginsB, h1, h2, h3, Bool.false_eq_true, if_true, if_false, Bool.not_true, Bool.not_false, Bool.true_and, Bool.and_true, Bool.false_and, Bool.and_false, Bool.true_or, Bool.or_true, Bool.false_or, Bool.or_false]; try rfl), ex_ext _ hy'⟩
    · go_enter Try.func79, Try.ntmps79
      go_wp2
      refine region_at (by kernel_rfl) (by kernel_rfl) ?_
      repeat (go_big_quiet_step (fail))
      refine wpQuiet_nil ?_
      rintro _ ⟨x, rfl⟩
      go_wp2
      go_ret
      exact ⟨ret_bool (by simp only [beginsB, h1, h2, Bool.false_eq_true, if_true, if_false, Bool.not_true, Bool.not_false, Bool.true_and, Bool.and_true, Bool.false_and, Bool.and_false, Bool.true_or, Bool.or_true, Bool.false_or, Bool.or_false]; try rfl), ex_ext _ hy'⟩
  · go_enter Try.func79, Try.ntmps79
    go_wp2
    refine region_at (by kernel_rfl) (by kernel_rfl) ?_
    repeat (go_big_quiet_step (fail))
    refine wpQuiet_nil ?_
    rintro _ ⟨x, rfl⟩
    go_wp2
    go_ret
    exact ⟨ret_bool (by simp only [beginsB, h1, Bool.false_eq_true, if_true, if_false, Bool.not_true, Bool.not_false, Bool.true_and, Bool.and_true, Bool.false_and, Bool.and_false, Bool.true_or, Bool.or_true, Bool.false_or, Bool.or_false]; try rfl), ex_ext _ hy'⟩
end
end Go.Proofs.Ytnjnmoehjaikkaa.Tr
