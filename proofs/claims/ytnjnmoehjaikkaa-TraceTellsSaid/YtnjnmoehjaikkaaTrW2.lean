/- The judge: how many objects there are, who may begin, and by whom one was begun. Condition: the judge and the events lie in memory. -/
import Derived.Test.YtnjnmoehjaikkaaTrW1
namespace Go.Proofs.Ytnjnmoehjaikkaa.Tr
open Go Go.RowKit Base
set_option linter.unusedVariables false
set_option linter.unusedSimpArgs false

def inB (n lo hi : Int) : Bool := decide (lo ≤ n) && decide (n ≤ hi)

theorem in_is {n lo hi : Int} {c : Bool} (hc : inB n lo hi = c) (w : World) : Calls Try.prog 32 #[.int .i64 n, .int .i64 lo, .int .i64 hi] w fun r w' => r = .returned (.bool c) ∧ w' = w := by
  subst hc
  cases h : decide (lo ≤ n)
  · go_enter Try.func32, Try.ntmps32
    go_wp2
    go_ret
    exact ⟨ret_bool (by simp only [inB, h, Bool.false_and]; try rfl), rfl⟩
  · go_enter Try.func32, Try.ntmps32
    go_wp2
    go_ret
    exact ⟨ret_bool (by simp only [inB, h, Bool.true_and]; try rfl), rfl⟩

theorem in_ext {n lo hi : Int} {c : Bool} {w : World} (hc : inB n lo hi = c) (x : Ext w) : Calls Try.prog 32 #[.int .i64 n, .int .i64 lo, .int .i64 hi] (w.ext x) fun r w' => r = .returned (.bool c) ∧ ∃ y : Ext w, w' = w.ext y :=
  (in_is hc (w.ext x)).mono fun _ _ ⟨h1, h2⟩ => ⟨h1, x, h2⟩

def objsI (caps : List Int) (k : Int) : Int := if inB k 2 7 then caps.length else if inB k 10 15 then 2 else if inB k 8 17 then 4 else 1

theorem ret_i64 {a b : Int} (h : a = b) : Ending.returned (.int .i64 a) = .returned (.int .i64 b) := by rw [h]

section
variable {w : World} {b : Jb} {caps : List Int} {s : JS}

theorem objs_any (h : J w b caps s) (k : Int) :
    Calls Try.prog 80 #[.pointer (some ⟨b.bj, 0, none⟩), .int .i64 k] w fun r w' => r = .returned (.int .i64 (objsI caps k)) ∧ ∃ x : Ext w, w' = w.ext x := by
  obtain ⟨x0, hx0⟩ : ∃ x0 : Ext w, w = w.ext x0 := ex_refl w
  have g0 := h.c0
  suffices hh : Calls Try.prog 80 #[.pointer (some ⟨b.bj, 0, none⟩), .int .i64 k] (w.ext x0) fun r w' => r = .returned (.int .i64 (objsI caps k)) ∧ ∃ x : Ext w, w' = w.ext x by
    rwa [← hx0] at hh
  clear hx0
  cases h1 : inB k 2 7
  · cases h2 : inB k 10 15
    · cases h3 : inB k 8 17
      · go_enter Try.func80, Try.ntmps80
        go_wp2_with (go_at_call 32; first | ((with_reducible refine (in_ext h1 _).mono ?_); rintro _ _ ⟨rfl, z, rfl⟩) | ((with_reducible refine (in_ext h2 _).mono ?_); rintro _ _ ⟨rfl, z, rfl⟩) | ((with_reducible refine (in_ext h3 _).mono ?_); rintro _ _ ⟨rfl, z, rfl⟩))
        go_ret
        exact ⟨ret_i64 (by simp [objsI, h1, h2, h3]), _, rfl⟩
      · go_enter Try.func80, Try.ntmps80
        go_wp2_with (go_at_call 32; first | ((with_reducible refine (in_ext h1 _).mono ?_); rintro _ _ ⟨rfl, z, rfl⟩) | ((with_reducible refine (in_ext h2 _).mono ?_); rintro _ _ ⟨rfl, z, rfl⟩) | ((with_reducible refine (in_ext h3 _).mono ?_); rintro _ _ ⟨rfl, z, rfl⟩))
        go_ret
        exact ⟨ret_i64 (by simp [objsI, h1, h2, h3]), _, rfl⟩
    · go_enter Try.func80, Try.ntmps80
      go_wp2_with (go_at_call 32; first | ((with_reducible refine (in_ext h1 _).mono ?_); rintro _ _ ⟨rfl, z, rfl⟩) | ((with_reducible refine (in_ext h2 _).mono ?_); rintro _ _ ⟨rfl, z, rfl⟩))
      go_ret
      exact ⟨ret_i64 (by simp [objsI, h1, h2]), _, rfl⟩
  · go_enter Try.func80, Try.ntmps80
    go_wp2_with (go_at_call 32; refine (in_ext h1 _).mono ?_; rintro _ _ ⟨rfl, z, rfl⟩)
    go_ret
    exact ⟨ret_i64 (by simp [objsI, h1]), _, rfl⟩

def evAt (l : List Ev) (i : Int) : Ev := l.getD i.toNat default
theorem evAt_get {l : List Ev} {i : Int} (h0 : 0 ≤ i) (h1 : i < l.length) : l[i.toNat]? = some (evAt l i) := by
  unfold evAt
  rw [List.getD_eq_getElem?_getD, List.getElem?_eq_getElem (by omega)]
  rfl

def beganB (s : JS) (l : List Ev) (e : Ev) : Bool :=
  match originOf e.kind with
  | none => e.start == -1
  | some o => !(e.start == -1) && (!(e.start != s.last e.g - 1) && (((evAt l e.start).kind == o && (evAt l e.start).obj == e.obj) || ((evAt l e.start).kind == 8 && decide (e.kind ≤ 6))))

set_option maxHeartbeats 8000000 in
theorem began_any (h : J w b caps s) {A : Option Addr} {l : List Ev} {lc : Nat} (hE : EvsAt w A l) (hll : l.length ≤ 140737488351232) (e : Ev) (hg : 0 ≤ e.g) (hg' : e.g < 8) (hs : -1 ≤ e.start) (hs' : e.start < l.length) (hl : 0 ≤ s.last e.g) (hl' : s.last e.g ≤ 140737488351232) :
    Calls Try.prog 81 #[.pointer (some ⟨b.bj, 0, none⟩), .slice A l.length lc, e.val] w fun r w' => r = .returned (.bool (beganB s l e)) ∧ ∃ x : Ext w, w' = w.ext x := by
  unfold Ev.val
  obtain ⟨w1, x1, hw1, ⟨y, hy⟩, hsz, f0, f1, f2, f3, f4⟩ := boxEv' w e
  have J1 : J w1 b caps s := hy ▸ h.ext y
  have E1 : EvsAt w1 A l := hy ▸ hE.ext y
  have hy' : ∃ y : Ext w, w1 = w.ext y := ⟨y, hy⟩
  clear hy
  have g12 := J1.c12
  have gl := J1.clast hg hg'
  cases ho : originOf e.kind with
  | none =>
    have go := J1.lookO ho
    simp only [Option.getD_none, Option.isSome_none] at go
    go_enter Try.func81, Try.ntmps81
    go_wp2
    refine region_at (by kernel_rfl) (by kernel_rfl) ?_
    repeat (go_big_quiet_step (fail))
    refine wpQuiet_nil ?_
    rintro _ ⟨x, rfl⟩
    go_wp2
    go_ret
    exact ⟨ret_bool (by simp only [beganB, ho]; try rfl), ex_ext _ hy'⟩
  | some o =>
    have go := J1.lookO ho
    simp only [Option.getD_some, Option.isSome_some] at go
    cases h1 : (e.start == -1)
    · cases h2 : (e.start != s.last e.g - 1)
      · have hne : e.start ≠ -1 := by simpa using h1
        have hs0 : 0 ≤ e.start := by omega
        obtain ⟨eb, eo, hA, hlt, e0, e1, e2, e3, e4⟩ := E1.at (evAt_get hs0 hs')
        have hlw : ∀ x : Ext w1, w.heap.size < (w1.ext x).heap.size := fun x => World.ext_lt w1 x hsz
        generalize hX : evAt l e.start = X at e0 e1 e2 e3 e4
        cases h3 : (X.kind == o)
        · cases h4 : (X.kind == 8)
          · subst hA
            go_enter Try.func81, Try.ntmps81
            go_wp2
            refine region_at (by kernel_rfl) (by kernel_rfl) ?_
            repeat (go_big_quiet_step (fail))
            refine wpQuiet_nil ?_
            rintro _ ⟨x, rfl⟩
            go_wp2
            refine region_at (by kernel_rfl) (by kernel_rfl) ?_
            repeat (go_big_quiet_step (fail))
            refine wpQuiet_nil ?_
            rintro _ ⟨x, rfl⟩
            go_wp2
            go_ret
            exact ⟨ret_bool (by simp only [beganB, ho, h1, h2, hX, h3, h4, Bool.not_true, Bool.not_false, Bool.true_and, Bool.and_true, Bool.false_and, Bool.true_or, Bool.false_or, Bool.or_false]; try rfl), ex_alloc _ (ex_ext _ hy')⟩
          · subst hA
            go_enter Try.func81, Try.ntmps81
            go_wp2
            refine region_at (by kernel_rfl) (by kernel_rfl) ?_
            repeat (go_big_quiet_step (fail))
            refine wpQuiet_nil ?_
            rintro _ ⟨x, rfl⟩
            go_wp2
            refine region_at (by kernel_rfl) (by kernel_rfl) ?_
            repeat (go_big_quiet_step (fail))
            refine wpQuiet_nil ?_
            rintro _ ⟨x, rfl⟩
            go_wp2
            go_ret
            exact ⟨ret_bool (by simp only [beganB, ho, h1, h2, hX, h3, h4, Bool.not_true, Bool.not_false, Bool.true_and, Bool.and_true, Bool.false_and, Bool.true_or, Bool.false_or, Bool.or_false]; try rfl), ex_alloc _ (ex_ext _ hy')⟩
        · cases h4 : (X.obj == e.obj)
          · cases h5 : (X.kind == 8)
            · subst hA
              go_enter Try.func81, Try.ntmps81
              go_wp2
              refine region_at (by kernel_rfl) (by kernel_rfl) ?_
              repeat (go_big_quiet_step (fail))
              refine wpQuiet_nil ?_
              rintro _ ⟨x, rfl⟩
              go_wp2
              refine region_at (by kernel_rfl) (by kernel_rfl) ?_
              repeat (go_big_quiet_step (fail))
              refine wpQuiet_nil ?_
              rintro _ ⟨x, rfl⟩
              go_wp2
              go_ret
              exact ⟨ret_bool (by simp only [beganB, ho, h1, h2, hX, h3, h4, h5, Bool.not_true, Bool.not_false, Bool.true_and, Bool.and_true, Bool.false_and, Bool.true_or, Bool.false_or, Bool.or_false]; try rfl), ex_alloc _ (ex_ext _ hy')⟩
            · subst hA
              go_enter Try.func81, Try.ntmps81
              go_wp2
              refine region_at (by kernel_rfl) (by kernel_rfl) ?_
              repeat (go_big_quiet_step (fail))
              refine wpQuiet_nil ?_
              rintro _ ⟨x, rfl⟩
              go_wp2
              refine region_at (by kernel_rfl) (by kernel_rfl) ?_
              repeat (go_big_quiet_step (fail))
              refine wpQuiet_nil ?_
              rintro _ ⟨x, rfl⟩
              go_wp2
              go_ret
              exact ⟨ret_bool (by simp only [beganB, ho, h1, h2, hX, h3, h4, h5, Bool.not_true, Bool.not_false, Bool.true_and, Bool.and_true, Bool.false_and, Bool.true_or, Bool.false_or, Bool.or_false]; try rfl), ex_alloc _ (ex_ext _ hy')⟩
          · subst hA
            go_enter Try.func81, Try.ntmps81
            go_wp2
            refine region_at (by kernel_rfl) (by kernel_rfl) ?_
            repeat (go_big_quiet_step (fail))
            refine wpQuiet_nil ?_
            rintro _ ⟨x, rfl⟩
            go_wp2
            refine region_at (by kernel_rfl) (by kernel_rfl) ?_
            repeat (go_big_quiet_step (fail))
            refine wpQuiet_nil ?_
            rintro _ ⟨x, rfl⟩
            go_wp2
            go_ret
            exact ⟨ret_bool (by simp only [beganB, ho, h1, h2, hX, h3, h4, Bool.not_true, Bool.not_false, Bool.true_and, Bool.and_true, Bool.false_and, Bool.true_or, Bool.false_or, Bool.or_false]; try rfl), ex_alloc _ (ex_ext _ hy')⟩
      · go_enter Try.func81, Try.ntmps81
        go_wp2
        refine region_at (by kernel_rfl) (by kernel_rfl) ?_
        repeat (go_big_quiet_step (fail))
        refine wpQuiet_nil ?_
        rintro _ ⟨x, rfl⟩
        go_wp2
        refine region_at (by kernel_rfl) (by kernel_rfl) ?_
        repeat (go_big_quiet_step (fail))
        refine wpQuiet_nil ?_
        rintro _ ⟨x, rfl⟩
        go_wp2
        go_ret
        exact ⟨ret_bool (by simp only [beganB, ho, h1, h2, Bool.not_true, Bool.not_false, Bool.true_and, Bool.false_and]; try rfl), ex_ext _ hy'⟩
    · go_enter Try.func81, Try.ntmps81
      go_wp2
      refine region_at (by kernel_rfl) (by kernel_rfl) ?_
      repeat (go_big_quiet_step (fail))
      refine wpQuiet_nil ?_
      rintro _ ⟨x, rfl⟩
      go_wp2
      refine region_at (by kernel_rfl) (by kernel_rfl) ?_
      repeat (go_big_quiet_step (fail))
      refine wpQuiet_nil ?_
      rintro _ ⟨x, rfl⟩
      go_wp2
      go_ret
      exact ⟨ret_bool (by simp only [beganB, ho, h1, Bool.not_true, Bool.false_and]; try rfl), ex_ext _ hy'⟩
end
end Go.Proofs.Ytnjnmoehjaikkaa.Tr
