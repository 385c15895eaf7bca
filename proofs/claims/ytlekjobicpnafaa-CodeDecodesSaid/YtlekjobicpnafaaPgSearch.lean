/- Reading a program's rows; slices.IndexFunc and slices.ContainsFunc over ints and over cases, with a function value that only reads. No condition. -/
import Derived.Test.YtlekjobicpnafaaPgInstr
import Derived.LoopTactic
namespace Go.Proofs.Ytlekjobicpnafaa.Pg
open Go Go.RowKit Base
set_option linter.unusedVariables false
set_option linter.unusedSimpArgs false

theorem int_at {w : World} {b o : Nat} {xs : List Int} (h : RowAt 1 IntE (Old w) w (some ⟨b, o, none⟩) xs) {i : Nat} (hi : i < xs.length) : ∀ x : Ext w, (w.ext x).cell? ⟨b, o + i, none⟩ = some (.int .i64 (el xs i)) := by
  obtain ⟨cs, _, rfl, g⟩ := h.get hi
  have := g 0 _ rfl
  simpa using this
theorem cse_at {w : World} {b o : Nat} {xs : List Cse} (h : RowAt 2 CseE (Old w) w (some ⟨b, o, none⟩) xs) {i : Nat} (hi : i < xs.length) :
    (∀ x : Ext w, (w.ext x).cell? ⟨b, o + i * 2, none⟩ = some (.bool (el xs i).send)) ∧ (∀ x : Ext w, (w.ext x).cell? ⟨b, o + i * 2 + 1, none⟩ = some (.int .i64 (el xs i).chan)) := by
  obtain ⟨cs, _, rfl, g⟩ := h.get hi
  exact ⟨g 0 _ rfl, g 1 _ rfl⟩
theorem ins_at {w : World} {b o : Nat} {xs : List Ins} (h : RowAt 3 InsE (Old w) w (some ⟨b, o, none⟩) xs) {i : Nat} (hi : i < xs.length) :
    (∀ x : Ext w, (w.ext x).cell? ⟨b, o + i * 3, none⟩ = some (.int .i64 (el xs i).op)) ∧ (∀ x : Ext w, (w.ext x).cell? ⟨b, o + i * 3 + 1, none⟩ = some (.int .i64 (el xs i).a)) ∧ (∀ x : Ext w, (w.ext x).cell? ⟨b, o + i * 3 + 2, none⟩ = some (.int .i64 (el xs i).b)) := by
  obtain ⟨cs, _, rfl, g⟩ := h.get hi
  exact ⟨g 0 _ rfl, g 1 _ rfl, g 2 _ rfl⟩
theorem sel_at {w : World} {b o : Nat} {xs : List Sel} (h : RowAt 2 SelE (Old w) w (some ⟨b, o, none⟩) xs) {i : Nat} (hi : i < xs.length) :
    ∃ A cap, (el xs i).cases.length ≤ cap ∧ (el xs i).cases.length ≤ 140737488351232 ∧ RowAt 2 CseE (Old w) w A (el xs i).cases ∧
      (∀ x : Ext w, (w.ext x).cell? ⟨b, o + i * 2, none⟩ = some (.slice A (el xs i).cases.length cap)) ∧ (∀ x : Ext w, (w.ext x).cell? ⟨b, o + i * 2 + 1, none⟩ = some (.bool (el xs i).dflt)) := by
  obtain ⟨cs, _, ⟨A, cap, rfl, h1, h2, h3⟩, g⟩ := h.get hi
  exact ⟨A, cap, h1, h2, h3, g 0 _ rfl, g 1 _ rfl⟩
theorem blk_at {w : World} {b o : Nat} {xs : List (List Ins)} (h : RowAt 1 BlkE (Old w) w (some ⟨b, o, none⟩) xs) {i : Nat} (hi : i < xs.length) :
    ∃ A cap, (el xs i).length ≤ cap ∧ (el xs i).length ≤ 140737488351232 ∧ RowAt 3 InsE (Old w) w A (el xs i) ∧
      (∀ x : Ext w, (w.ext x).cell? ⟨b, o + i, none⟩ = some (.slice A (el xs i).length cap)) := by
  obtain ⟨cs, _, ⟨A, cap, rfl, h1, h2, h3⟩, g⟩ := h.get hi
  have := g 0 _ rfl
  exact ⟨A, cap, h1, h2, h3, by simpa using this⟩

def idxI {α : Type} (p : α → Bool) : List α → Nat → Int
  | [], _ => -1
  | x :: xs, n => if p x = true then n else idxI p xs (n + 1)
theorem idxI_drop {α : Type} [Inhabited α] {p : α → Bool} {xs : List α} {k : Nat} (hk : k < xs.length) : idxI p (xs.drop k) k = if p (el xs k) = true then (k : Int) else idxI p (xs.drop (k + 1)) (k + 1) := by
  rw [drop_el hk]; rfl
theorem idxI_any {α : Type} {p : α → Bool} : ∀ (xs : List α) (n : Nat), decide (0 ≤ idxI p xs n) = xs.any p
  | [], n => by simp [idxI]
  | x :: xs, n => by
    simp only [idxI, List.any_cons]
    by_cases h : p x = true
    · simp [h]
    · simp only [h, if_false, Bool.false_or]
      exact idxI_any xs (n + 1)

set_option maxHeartbeats 4000000 in
theorem indexI_any (w : World) {A : Option Addr} {c : Nat} {xs : List Int} (hX : RowAt 1 IntE (Old w) w A xs) (hlen : xs.length ≤ 140737488351232) (fid : Nat) (cap : Array Value)
    (henter : ∀ (args : Array Value) (W : World), (callFunc fid args).run Try.prog W = .ok (.enter fid args) W) (p : Int → Bool)
    (hf : ∀ k, k < xs.length → ∀ (v : Bool), p (el xs k) = v → ∀ x : Ext w, Calls Try.prog fid (#[.int .i64 (el xs k)] ++ cap) (w.ext x) fun r w' => r = .returned (.bool v) ∧ ∃ y : Ext w, w' = w.ext y) :
    Calls Try.prog 62 #[.slice A xs.length c, .func (.func fid) #[] cap] w fun r w' => r = .returned (.int .i64 (idxI p xs 0)) ∧ ∃ y : Ext w, w' = w.ext y := by
  go_enter Try.func62, Try.ntmps62
  go_wp2
  go_loopw [8] (fun i wr => ∃ (k : Nat) (x : Ext w), k ≤ xs.length ∧ i = .int .i64 k ∧ wr = w.ext x ∧ idxI p xs 0 = idxI p (xs.drop k) k) (fun i _ => xs.length - (intOf i).toNat)
  case atStart => exact ⟨0, ⟨w, Below.refl _ _⟩, Nat.zero_le _, rfl, rfl, rfl⟩
  case round =>
    obtain ⟨k, x, hk, rfl, rfl, hi⟩ := hrel
    by_cases hlt : k < xs.length
    · obtain ⟨bc, oc, rfl, _⟩ := hX.addr (by omega)
      have g := int_at hX hlt
      have hd := idxI_drop (p := p) hlt
      cases hp : p (el xs k)
      · have hc := hf k hlt _ hp
        have HI : Hid (idxI p xs 0 = idxI p (xs.drop (k + 1)) (k + 1)) := by
          rw [hp] at hd; exact hi.trans (by simpa using hd)
        clear hf hd hi hp hX
        go_wp2_with ((refine (hc _).mono ?_); rintro _ _ ⟨rfl, z, rfl⟩)
        go_roundw
        case rel => exact ⟨k + 1, _, by omega, by go_num, rfl, HI.out⟩
        case measure => simp [intOf]; omega
      · have hc := hf k hlt _ hp
        have HI : Hid (idxI p xs 0 = k) := by
          rw [hp] at hd; exact hi.trans (by simpa using hd)
        clear hf hd hi hp hX
        go_wp2_with ((refine (hc _).mono ?_); rintro _ _ ⟨rfl, z, rfl⟩)
        go_ret
        exact ⟨ret_i64 HI.out.symm, _, rfl⟩
    · have HI : Hid (idxI p xs 0 = -1) := by
        rw [List.drop_eq_nil_of_le (by omega)] at hi; exact hi
      clear hf hi
      go_wp2
      go_ret
      exact ⟨ret_i64 HI.out.symm, _, rfl⟩

set_option maxHeartbeats 4000000 in
theorem containsI_any (w : World) {A : Option Addr} {c : Nat} {xs : List Int} (hX : RowAt 1 IntE (Old w) w A xs) (hlen : xs.length ≤ 140737488351232) (fid : Nat) (cap : Array Value)
    (henter : ∀ (args : Array Value) (W : World), (callFunc fid args).run Try.prog W = .ok (.enter fid args) W) (p : Int → Bool)
    (hf : ∀ k, k < xs.length → ∀ (v : Bool), p (el xs k) = v → ∀ x : Ext w, Calls Try.prog fid (#[.int .i64 (el xs k)] ++ cap) (w.ext x) fun r w' => r = .returned (.bool v) ∧ ∃ y : Ext w, w' = w.ext y) {v : Bool} (hv : xs.any p = v) :
    Calls Try.prog 54 #[.slice A xs.length c, .func (.func fid) #[] cap] w fun r w' => r = .returned (.bool v) ∧ ∃ y : Ext w, w' = w.ext y := by
  subst hv
  have hi := indexI_any w hX hlen fid cap henter p (c := c) hf
  have ha := idxI_any (p := p) xs 0
  generalize idxI p xs 0 = i at *
  have HA : Hid (decide (0 ≤ i) = xs.any p) := ha
  clear ha hf
  go_enter Try.func54, Try.ntmps54
  go_wp2_with (go_at_call 62; refine hi.mono ?_; rintro _ _ ⟨rfl, z, rfl⟩)
  go_ret
  exact ⟨ret_bool HA.out, _, rfl⟩

set_option maxHeartbeats 4000000 in
theorem indexC_any (w : World) {A : Option Addr} {c : Nat} {xs : List Cse} (hX : RowAt 2 CseE (Old w) w A xs) (hlen : xs.length ≤ 140737488351232) (fid : Nat) (cap : Array Value)
    (henter : ∀ (args : Array Value) (W : World), (callFunc fid args).run Try.prog W = .ok (.enter fid args) W) (p : Cse → Bool)
    (hf : ∀ k, k < xs.length → ∀ (v : Bool), p (el xs k) = v → ∀ x : Ext w, Calls Try.prog fid (#[.agg #[.bool (el xs k).send, .int .i64 (el xs k).chan]] ++ cap) (w.ext x) fun r w' => r = .returned (.bool v) ∧ ∃ y : Ext w, w' = w.ext y) :
    Calls Try.prog 63 #[.slice A xs.length c, .func (.func fid) #[] cap] w fun r w' => r = .returned (.int .i64 (idxI p xs 0)) ∧ ∃ y : Ext w, w' = w.ext y := by
  go_enter Try.func63, Try.ntmps63
  go_wp2
  go_loopw [8] (fun i wr => ∃ (k : Nat) (x : Ext w), k ≤ xs.length ∧ i = .int .i64 k ∧ wr = w.ext x ∧ idxI p xs 0 = idxI p (xs.drop k) k) (fun i _ => xs.length - (intOf i).toNat)
  case atStart => exact ⟨0, ⟨w, Below.refl _ _⟩, Nat.zero_le _, rfl, rfl, rfl⟩
  case round =>
    obtain ⟨k, x, hk, rfl, rfl, hi⟩ := hrel
    by_cases hlt : k < xs.length
    · obtain ⟨bc, oc, rfl, _⟩ := hX.addr (by omega)
      obtain ⟨g0, g1⟩ := cse_at hX hlt
      have hd := idxI_drop (p := p) hlt
      cases hp : p (el xs k)
      · have hc := hf k hlt _ hp
        have HI : Hid (idxI p xs 0 = idxI p (xs.drop (k + 1)) (k + 1)) := by
          rw [hp] at hd; exact hi.trans (by simpa using hd)
        clear hf hd hi hp hX
        go_wp2_with ((refine (hc _).mono ?_); rintro _ _ ⟨rfl, z, rfl⟩)
        go_roundw
        case rel => exact ⟨k + 1, _, by omega, by go_num, rfl, HI.out⟩
        case measure => simp [intOf]; omega
      · have hc := hf k hlt _ hp
        have HI : Hid (idxI p xs 0 = k) := by
          rw [hp] at hd; exact hi.trans (by simpa using hd)
        clear hf hd hi hp hX
        go_wp2_with ((refine (hc _).mono ?_); rintro _ _ ⟨rfl, z, rfl⟩)
        go_ret
        exact ⟨ret_i64 HI.out.symm, _, rfl⟩
    · have HI : Hid (idxI p xs 0 = -1) := by
        rw [List.drop_eq_nil_of_le (by omega)] at hi; exact hi
      clear hf hi
      go_wp2
      go_ret
      exact ⟨ret_i64 HI.out.symm, _, rfl⟩

set_option maxHeartbeats 4000000 in
theorem containsC_any (w : World) {A : Option Addr} {c : Nat} {xs : List Cse} (hX : RowAt 2 CseE (Old w) w A xs) (hlen : xs.length ≤ 140737488351232) (fid : Nat) (cap : Array Value)
    (henter : ∀ (args : Array Value) (W : World), (callFunc fid args).run Try.prog W = .ok (.enter fid args) W) (p : Cse → Bool)
    (hf : ∀ k, k < xs.length → ∀ (v : Bool), p (el xs k) = v → ∀ x : Ext w, Calls Try.prog fid (#[.agg #[.bool (el xs k).send, .int .i64 (el xs k).chan]] ++ cap) (w.ext x) fun r w' => r = .returned (.bool v) ∧ ∃ y : Ext w, w' = w.ext y) {v : Bool} (hv : xs.any p = v) :
    Calls Try.prog 56 #[.slice A xs.length c, .func (.func fid) #[] cap] w fun r w' => r = .returned (.bool v) ∧ ∃ y : Ext w, w' = w.ext y := by
  subst hv
  have hi := indexC_any w hX hlen fid cap henter p (c := c) hf
  have ha := idxI_any (p := p) xs 0
  generalize idxI p xs 0 = i at *
  have HA : Hid (decide (0 ≤ i) = xs.any p) := ha
  clear ha hf
  go_enter Try.func56, Try.ntmps56
  go_wp2_with (go_at_call 63; refine hi.mono ?_; rintro _ _ ⟨rfl, z, rfl⟩)
  go_ret
  exact ⟨ret_bool HA.out, _, rfl⟩

def capBad (n : Int) : Bool := !inB n (-1) 3
theorem cap1_any (w : World) (n : Int) {v : Bool} (hv : capBad n = v) : Calls Try.prog 55 #[.int .i64 n] w fun r w' => r = .returned (.bool v) ∧ w' = w := by
  subst hv
  unfold capBad
  cases h : inB n (-1) 3
  · go_enter Try.func55, Try.ntmps55
    go_wp2_with (go_at_call 53; refine (in_is h _).mono ?_; rintro _ _ ⟨rfl, rfl⟩)
    go_ret
    exact ⟨rfl, rfl⟩
  · go_enter Try.func55, Try.ntmps55
    go_wp2_with (go_at_call 53; refine (in_is h _).mono ?_; rintro _ _ ⟨rfl, rfl⟩)
    go_ret
    exact ⟨rfl, rfl⟩
theorem capsBad_any {w : World} (x0 : Ext w) {A : Option Addr} {c : Nat} {xs : List Int} (hX : RowAt 1 IntE (Old w) w A xs) (hlen : xs.length ≤ 140737488351232) {v : Bool} (hv : xs.any capBad = v) :
    Calls Try.prog 54 #[.slice A xs.length c, .func (.func 55) #[] #[]] (w.ext x0) fun r w' => r = .returned (.bool v) ∧ ∃ y : Ext w, w' = w.ext y :=
  calls_ext2 (containsI_any (w.ext x0) (hX.mono IntE.mono (Agree.ext x0)) hlen 55 #[] (enter_of Try.func55 (by kernel_rfl) rfl) capBad (fun k hk v hv x => (cap1_any _ _ hv).mono fun _ _ ⟨h1, h2⟩ => ⟨h1, x, h2⟩) hv)

/-- Is a case's channel none of so many? -/
def chanBad (n : Nat) (c : Cse) : Bool := !inB c.chan 0 ((n : Int) - 1)
theorem chan1_any {w : World} (x0 : Ext w) {P L c : Nat} {A : Option Addr} (hP : ∀ x : Ext w, (w.ext x).cell? ⟨P, 0, none⟩ = some (.slice A L c)) (hL : L ≤ 140737488351232) (s : Bool) (n : Int) {v : Bool} (hv : chanBad L ⟨s, n⟩ = v) :
    Calls Try.prog 57 #[.agg #[.bool s, .int .i64 n], .pointer (some ⟨P, 0, none⟩)] (w.ext x0) fun r w' => r = .returned (.bool v) ∧ ∃ y : Ext w, w' = w.ext y := by
  subst hv
  simp only [chanBad]
  obtain ⟨w1, x1, hw1, ⟨y, hy⟩, hsz, f0, f1⟩ := boxC (w.ext x0) ⟨s, n⟩
  have hy' : ∃ y : Ext w, w1 = w.ext y := ⟨x0.trans y, hy⟩
  replace hP := lift_fact hy' hP
  clear hy
  simp only at hw1 f0 f1
  cases h : inB n 0 ((L : Int) - 1)
  · go_enter Try.func57, Try.ntmps57
    go_wp2_with (go_at_call 53; refine (in_is h _).mono ?_; rintro _ _ ⟨rfl, rfl⟩)
    go_ret
    exact ⟨rfl, ex_ext _ hy'⟩
  · go_enter Try.func57, Try.ntmps57
    go_wp2_with (go_at_call 53; refine (in_is h _).mono ?_; rintro _ _ ⟨rfl, rfl⟩)
    go_ret
    exact ⟨rfl, ex_ext _ hy'⟩
theorem chansBad_any {w : World} (x0 : Ext w) {P L c2 : Nat} {A2 : Option Addr} (hP : ∀ x : Ext w, (w.ext x).cell? ⟨P, 0, none⟩ = some (.slice A2 L c2)) (hL : L ≤ 140737488351232) {A : Option Addr} {c : Nat} {xs : List Cse} (hX : RowAt 2 CseE (Old w) w A xs) (hlen : xs.length ≤ 140737488351232) {v : Bool} (hv : xs.any (chanBad L) = v) :
    Calls Try.prog 56 #[.slice A xs.length c, .func (.func 57) #[] #[.pointer (some ⟨P, 0, none⟩)]] (w.ext x0) fun r w' => r = .returned (.bool v) ∧ ∃ y : Ext w, w' = w.ext y :=
  calls_ext2 (containsC_any (w.ext x0) (hX.mono CseE.mono (Agree.ext x0)) hlen 57 #[.pointer (some ⟨P, 0, none⟩)] (enter_of Try.func57 (by kernel_rfl) rfl) (chanBad L) (fun k hk v hv x => chan1_any x (lift_fact ⟨x0, rfl⟩ hP) hL _ _ hv) hv)
end Go.Proofs.Ytlekjobicpnafaa.Pg
