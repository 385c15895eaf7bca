/- Maps by the list of what they hold, in the order in which it came: look-up, store, m[k]++, length. No condition. -/
import Derived.Test.YtnjnmoehjaikkaaBase
import Derived.Maps.Keyed
import Derived.Maps.Own
import Derived.MapKept
namespace Go.Proofs.Ytnjnmoehjaikkaa.Base
open Go Go.RowKit Go.MapKept
open Go.ChangeMaps (setBlock)
open Go.Maps (Keyed)

/-- What the laws on maps need of a key's type: κ the keys, enc how one is written. -/
structure KeyOk {κ : Type} (P : Program) (K : TypeId) (enc : κ → Value) : Prop where
  inj : ∀ a b, enc a = enc b → a = b
  check : ∀ (w : World) (em : Bool) (a : κ), (Instr.checkKey em 10000 K (enc a)).run P w = .ok () w
  find : ∀ (w : World) (a : κ) (es : List MapEntry), (∀ e ∈ es, ∃ b, e.key = enc b) →
    ((Instr.findKey K (enc a) es).run P w = .ok none w ∧ ∀ e ∈ es, e.key ≠ enc a) ∨ ∃ j e, (Instr.findKey K (enc a) es).run P w = .ok (some (j, e.val)) w ∧ es[j]? = some e ∧ e.key = enc a
  stays : ∀ (w : World) (a : κ), (Instr.keyThatStays (enc a) (enc a)).run P w = .ok (enc a) w

theorem KeyOk.of_keyed {κ : Type} {P : Program} {K : TypeId} {enc : κ → Value} (h : Keyed P K) (hk : ∀ a, ∃ l, keyOf P K (enc a) = some l) (hi : ∀ a b, enc a = enc b → a = b) : KeyOk P K enc where
  inj := hi
  check w em a := by obtain ⟨l, hl⟩ := hk a; exact h.check w em hl
  find w a es hes := by
    obtain ⟨l, hl⟩ := hk a
    exact h.find w hl es (fun e he => by obtain ⟨b, hb⟩ := hes e he; rw [hb]; exact hk b)
  stays w a := by obtain ⟨l, hl⟩ := hk a; exact h.stays w hl

theorem run_findAsking {κ : Type} [DecidableEq κ] {P : Program} {K : TypeId} {enc : κ → Value} (heq : ∀ (w : World) (a b : κ), (Op.equal K (enc a) (enc b)).run P w = .ok (decide (a = b)) w) (w : World) (a : κ) :
    ∀ (es : List MapEntry) (i : Nat), (∀ e ∈ es, ∃ b, e.key = enc b) →
      ((Instr.findAsking K (enc a) es i).run P w = .ok none w ∧ ∀ e ∈ es, e.key ≠ enc a) ∨ ∃ j e, (Instr.findAsking K (enc a) es i).run P w = .ok (some (i + j, e.val)) w ∧ es[j]? = some e ∧ e.key = enc a
  | [], i, _ => .inl ⟨by simp [Instr.findAsking], by simp⟩
  | e :: es, i, h => by
    obtain ⟨b, hb⟩ := h e (by simp)
    by_cases hab : a = b
    · subst hab
      refine .inr ⟨0, e, ?_, rfl, hb⟩
      simp [Instr.findAsking, hb, heq, Result.andThen]
    · have hne : enc b ≠ enc a := fun e => by
        have h1 := heq w a b
        have h2 := heq w a a
        rw [e, h2] at h1
        simp [hab] at h1
      rcases run_findAsking heq w a es (i + 1) (fun e he => h e (List.mem_cons_of_mem _ he)) with ⟨h1, h2⟩ | ⟨j, e', h1, h2, h3⟩
      · refine .inl ⟨by simp [Instr.findAsking, hb, heq, hab, h1, Result.andThen], ?_⟩
        intro x hx
        simp at hx
        rcases hx with rfl | hx
        · rw [hb]; exact hne
        · exact h2 x hx
      · refine .inr ⟨j + 1, e', ?_, by simpa using h2, h3⟩
        simp only [Instr.findAsking, hb, Sem.run_bind, heq, Result.andThen, hab, decide_false, h1, Bool.false_eq_true, if_false]
        congr 3
        omega

/-- Keys of a struct type. -/
theorem KeyOk.of_equal {κ : Type} [DecidableEq κ] {P : Program} {K : TypeId} {enc : κ → Value} {d : TypeDesc} (hu : P.underlying K = some d) (inj : ∀ a b, enc a = enc b → a = b)
    (check : ∀ (w : World) (em : Bool) (a : κ), (Instr.checkKey em 10000 K (enc a)).run P w = .ok () w)
    (heq : ∀ (w : World) (a b : κ), (Op.equal K (enc a) (enc b)).run P w = .ok (decide (a = b)) w)
    (hno : ∀ a b, Instr.sameNow d (enc a) (enc b) = none) (hbits : ∀ a, Instr.sameBits 10000 (enc a) (enc a) = true) : KeyOk P K enc where
  inj := inj
  check := check
  find w a es hes := by
    cases es with
    | nil => exact .inl ⟨by simp [Instr.findKey, run_underlying hu, Instr.findNow, Result.andThen], by simp⟩
    | cons e es =>
      have hn : Instr.findNow d (enc a) (e :: es) 0 = none := by
        obtain ⟨b, hb⟩ := hes e (by simp)
        simp [Instr.findNow, hb, hno]
      have hr : (Instr.findKey K (enc a) (e :: es)).run P w = (Instr.findAsking K (enc a) (e :: es)).run P w := by
        simp [Instr.findKey, run_underlying hu, hn, Result.andThen]
      rw [hr]
      rcases run_findAsking heq w a (e :: es) 0 hes with h | ⟨j, e', h1, h2, h3⟩
      · exact .inl h
      · exact .inr ⟨j, e', by simpa using h1, h2, h3⟩
  stays w a := by simp [Instr.keyThatStays, hbits]

theorem findNow_of {κ : Type} [DecidableEq κ] {enc : κ → Value} {d : TypeDesc} (hs : ∀ a b, Instr.sameNow d (enc a) (enc b) = some (decide (a = b))) (a : κ) :
    ∀ (es : List MapEntry) (i : Nat), (∀ e ∈ es, ∃ b, e.key = enc b) →
      (Instr.findNow d (enc a) es i = some none ∧ ∀ e ∈ es, e.key ≠ enc a) ∨ ∃ j e, Instr.findNow d (enc a) es i = some (some (i + j, e.val)) ∧ es[j]? = some e ∧ e.key = enc a
  | [], i, _ => .inl ⟨rfl, by simp⟩
  | e :: es, i, h => by
    obtain ⟨b, hb⟩ := h e (by simp)
    by_cases hab : a = b
    · subst hab
      exact .inr ⟨0, e, by simp [Instr.findNow, hb, hs], rfl, hb⟩
    · have hne : enc b ≠ enc a := fun e => by
        have h1 := hs a b
        rw [e, hs a a] at h1
        simp [hab] at h1
      rcases findNow_of hs a es (i + 1) (fun e he => h e (List.mem_cons_of_mem _ he)) with ⟨h1, h2⟩ | ⟨j, e', h1, h2, h3⟩
      · refine .inl ⟨by simp [Instr.findNow, hb, hs, hab, h1], ?_⟩
        intro x hx
        simp at hx
        rcases hx with rfl | hx
        · rw [hb]; exact hne
        · exact h2 x hx
      · refine .inr ⟨j + 1, e', ?_, by simpa using h2, h3⟩
        simp only [Instr.findNow, hb, hs, hab, decide_false, h1]
        congr 3
        omega

/-- Keys that are numbers, strings or bools. -/
theorem KeyOk.of_now {κ : Type} [DecidableEq κ] {P : Program} {K : TypeId} {enc : κ → Value} {d : TypeDesc} (hu : P.underlying K = some d) (inj : ∀ a b, enc a = enc b → a = b)
    (check : ∀ (w : World) (em : Bool) (a : κ), (Instr.checkKey em 10000 K (enc a)).run P w = .ok () w)
    (hs : ∀ a b, Instr.sameNow d (enc a) (enc b) = some (decide (a = b))) (hbits : ∀ a, Instr.sameBits 10000 (enc a) (enc a) = true) : KeyOk P K enc where
  inj := inj
  check := check
  find w a es hes := by
    rcases findNow_of hs a es 0 hes with ⟨h1, h2⟩ | ⟨j, e, h1, h2, h3⟩
    · exact .inl ⟨by simp [Instr.findKey, run_underlying hu, h1, Result.andThen], h2⟩
    · exact .inr ⟨j, e, by simp [Instr.findKey, run_underlying hu, h1, Result.andThen], h2, h3⟩
  stays w a := by simp [Instr.keyThatStays, hbits]

/-- Keys that are ints. -/
theorem int_ok {P : Program} {K : TypeId} {q : IntKind} (hu : P.underlying K = some (.int q)) : KeyOk P K (fun n : Int => Value.int q n) := by
  refine KeyOk.of_now hu (fun a b h => by simpa using h) (fun w em a => ?_) (fun a b => ?_) (fun a => ?_)
  · rw [show (10000 : Nat) = 9999 + 1 from rfl]
    unfold Instr.checkKey
    simp [run_underlying hu, Result.andThen]
  · simp [Instr.sameNow]
    exact Bool.beq_eq_decide_eq a b
  · unfold Instr.sameBits
    simp

section
variable {κ : Type}
variable (enc : κ → Value)
/-- The entries of a map. -/
def ents (l : List (κ × Value)) (bs : List Nat) : List MapEntry := List.zipWith (fun p b => ⟨enc p.1, p.2, b⟩) l bs

/-- Block b is a map that holds l. -/
def MapAt (w : World) (b : Nat) (l : List (κ × Value)) : Prop :=
  ∃ bs clock, bs.length = l.length ∧ w.heap[b]? = some (.map (ents enc l bs).toArray clock) ∧ (l.map Prod.fst).Nodup ∧ bs.Nodup ∧ ∀ x ∈ bs, x < clock

variable {enc} {P : Program} {K t e : TypeId} {w : World} {b : Nat} {l : List (κ × Value)}

theorem MapAt.lt (h : MapAt enc w b l) : b < w.heap.size := by
  obtain ⟨bs, clock, _, hb, _⟩ := h
  exact (Array.getElem?_eq_some_iff.1 hb).1

theorem MapAt.of_block (h : MapAt enc w b l) {w' : World} (hw : w'.heap[b]? = w.heap[b]?) : MapAt enc w' b l := by
  obtain ⟨bs, clock, h1, h2, h3⟩ := h
  exact ⟨bs, clock, h1, hw.trans h2, h3⟩

theorem MapAt.ext (h : MapAt enc w b l) (x : Ext w) : MapAt enc (w.ext x) b l := h.of_block (World.ext_heap w x h.lt)

theorem MapAt.made (w : World) : MapAt enc (w.alloc (.map #[] 0)) w.heap.size [] := by
  refine ⟨[], 0, rfl, ?_, by simp, by simp, by simp⟩
  show (w.heap.push _)[w.heap.size]? = _
  simp [ents]

theorem ents_length (l : List (κ × Value)) (bs : List Nat) (h : bs.length = l.length) : (ents enc l bs).length = l.length := by simp [ents, h]

theorem ents_get {l : List (κ × Value)} {bs : List Nat} {j : Nat} {e : MapEntry} (h : (ents enc l bs)[j]? = some e) : ∃ p b, l[j]? = some p ∧ bs[j]? = some b ∧ e = ⟨enc p.1, p.2, b⟩ := by
  unfold ents at h
  rw [List.getElem?_zipWith] at h
  cases hl : l[j]? with
  | none => rw [hl] at h; simp at h
  | some p =>
    cases hb : bs[j]? with
    | none => rw [hl, hb] at h; simp at h
    | some b => rw [hl, hb] at h; simp at h; exact ⟨p, b, rfl, rfl, h.symm⟩

theorem ents_mem {l : List (κ × Value)} {bs : List Nat} {e : MapEntry} (h : e ∈ ents enc l bs) : ∃ b, e.key = enc b := by
  obtain ⟨j, hj⟩ := List.mem_iff_getElem?.1 h
  obtain ⟨p, b, _, _, rfl⟩ := ents_get hj
  exact ⟨p.1, rfl⟩

/-- One block of memory, no row of cells, turned. -/
def Turned (w w' : World) (b : Nat) : Prop := ∃ o, w' = setBlock w b o

theorem Turned.size {w w' : World} (h : Turned w w' b) : w'.heap.size = w.heap.size := by obtain ⟨o, rfl⟩ := h; simp [setBlock]
theorem Turned.other {w w' : World} (h : Turned w w' b) {i : Nat} (hi : i ≠ b) : w'.heap[i]? = w.heap[i]? := by
  obtain ⟨o, rfl⟩ := h
  simp only [setBlock]
  rw [Array.getElem?_setIfInBounds_ne (by omega)]
theorem Turned.os {w w' : World} (h : Turned w w' b) : w'.os = w.os := by obtain ⟨o, rfl⟩ := h; rfl
theorem Turned.tape {w w' : World} (h : Turned w w' b) : w'.tape = w.tape := by obtain ⟨o, rfl⟩ := h; rfl
theorem Turned.output {w w' : World} (h : Turned w w' b) : w'.output = w.output := by obtain ⟨o, rfl⟩ := h; rfl
theorem Turned.cell {w w' : World} (h : Turned w w' b) {a : Addr} (ha : a.block ≠ b) : w'.cell? a = w.cell? a := World.cell?_of_block (w := w) (h.other ha)
theorem Turned.frozen {w w' : World} (h : Turned w w' b) {a : Addr} (ha : a.block ≠ b) : w'.frozen? a = w.frozen? a := World.frozen?_of_block (w := w) (h.other ha)
theorem Turned.trans {w w' w'' : World} (h : Turned w w' b) (k : Turned w' w'' b) : Turned w w'' b := by
  obtain ⟨o, rfl⟩ := h
  obtain ⟨o', rfl⟩ := k
  exact ⟨o', by simp [setBlock]⟩

/-- len(m) -/
theorem MapAt.len (h : MapAt enc w b l) (ht : P.underlying t = some (.map K e)) (ty : TypeId) : (Builtin.len_ #[t] ty #[.map (some b)]).run P w = .ok (goInt l.length) w := by
  obtain ⟨bs, clock, h1, hb, _⟩ := h
  simp [Builtin.len_, run_underlying ht, MapKept.run_getObj_map hb, Result.andThen, ents_length l bs h1]

theorem ents_set {l : List (κ × Value)} {bs : List Nat} {j : Nat} {p : κ × Value} {b : Nat} (hp : l[j]? = some p) (hb : bs[j]? = some b) (v : Value) :
    ents enc (l.set j (p.1, v)) bs = (ents enc l bs).modify j (fun e => { e with key := enc p.1, val := v }) := by
  apply List.ext_getElem?
  intro i
  unfold ents
  rw [List.getElem?_zipWith, List.getElem?_modify, List.getElem?_zipWith]
  by_cases hij : j = i
  · subst hij
    have hl : j < l.length := (List.getElem?_eq_some_iff.1 hp).1
    rw [List.getElem?_set_self hl, hp, hb]
    simp
  · rw [List.getElem?_set_ne hij]
    simp [hij]

theorem ents_push {l : List (κ × Value)} {bs : List Nat} (h : bs.length = l.length) (k : κ) (v : Value) (c : Nat) : ents enc (l ++ [(k, v)]) (bs ++ [c]) = ents enc l bs ++ [⟨enc k, v, c⟩] := by
  unfold ents
  rw [List.zipWith_append h.symm]
  rfl

end

section
variable {κ : Type} [DecidableEq κ]

/-- The value at a key. -/
def mget : List (κ × Value) → κ → Option Value
  | [], _ => none
  | p :: l, k => if p.1 = k then some p.2 else mget l k

/-- A key's value turned, or a new key behind all others. -/
def mput : List (κ × Value) → κ → Value → List (κ × Value)
  | [], k, v => [(k, v)]
  | p :: l, k, v => if p.1 = k then (k, v) :: l else p :: mput l k v

theorem mget_mput (l : List (κ × Value)) (k k' : κ) (v : Value) : mget (mput l k v) k' = if k = k' then some v else mget l k' := by
  induction l with
  | nil => simp [mput, mget]
  | cons p l ih =>
    unfold mput
    by_cases h : p.1 = k
    · rw [if_pos h]
      unfold mget
      by_cases h' : k = k'
      · simp [h']
      · have h2 : ¬ p.1 = k' := by rw [h]; exact h'
        simp [h', h2]
    · rw [if_neg h]
      unfold mget
      by_cases h' : p.1 = k'
      · have : ¬ k = k' := fun e => h (h'.trans e.symm)
        simp [h', this]
      · simp [h', ih]

theorem put_keys (l : List (κ × Value)) (k : κ) (v : Value) : (mput l k v).map Prod.fst = if k ∈ l.map Prod.fst then l.map Prod.fst else l.map Prod.fst ++ [k] := by
  induction l with
  | nil => simp [mput]
  | cons p l ih =>
    unfold mput
    by_cases h : p.1 = k
    · simp [h]
    · have h' : ¬ k = p.1 := fun e => h e.symm
      simp only [h, if_false, List.map_cons, ih, List.mem_cons, h', false_or]
      split <;> simp

theorem get_none_iff (l : List (κ × Value)) (k : κ) : mget l k = none ↔ k ∉ l.map Prod.fst := by
  induction l with
  | nil => simp [mget]
  | cons p l ih =>
    unfold mget
    by_cases h : p.1 = k
    · simp [h]
    · have h' : ¬ k = p.1 := fun e => h e.symm
      simp [h, h', ih]

theorem put_nodup {l : List (κ × Value)} (h : (l.map Prod.fst).Nodup) (k : κ) (v : Value) : ((mput l k v).map Prod.fst).Nodup := by
  rw [put_keys]
  split
  · exact h
  · rename_i hk
    rw [List.nodup_append]
    exact ⟨h, by simp, fun a ha b hb => by simp at hb; subst hb; exact fun e => hk (e ▸ ha)⟩

variable {enc : κ → Value} {P : Program} {K t e : TypeId} {w : World} {b : Nat} {l : List (κ × Value)}

theorem get_of_at {l : List (κ × Value)} (hn : (l.map Prod.fst).Nodup) {j : Nat} {p : κ × Value} (h : l[j]? = some p) : mget l p.1 = some p.2 := by
  induction l generalizing j with
  | nil => simp at h
  | cons q l ih =>
    simp only [List.map_cons, List.nodup_cons] at hn
    cases j with
    | zero => simp at h; subst h; simp [mget]
    | succ j =>
      simp at h
      unfold mget
      have hm : p.1 ∈ l.map Prod.fst := List.mem_map.2 ⟨p, List.mem_of_getElem? h, rfl⟩
      have : ¬ q.1 = p.1 := fun e => hn.1 (e ▸ hm)
      rw [if_neg this]
      exact ih hn.2 h

/-- What a search in the entries finds. -/
theorem find_get (KO : KeyOk P K enc) (w : World) {l : List (κ × Value)} {bs : List Nat} (hl : bs.length = l.length) (hn : (l.map Prod.fst).Nodup) (k : κ) :
    ((Instr.findKey K (enc k) (ents enc l bs)).run P w = .ok none w ∧ mget l k = none) ∨
    ∃ j p b, (Instr.findKey K (enc k) (ents enc l bs)).run P w = .ok (some (j, p.2)) w ∧ l[j]? = some p ∧ bs[j]? = some b ∧ p.1 = k ∧ mget l k = some p.2 := by
  rcases KO.find w k (ents enc l bs) (fun e he => ents_mem he) with ⟨h1, h2⟩ | ⟨j, e, h1, h2, h3⟩
  · refine .inl ⟨h1, (get_none_iff _ _).2 fun hm => ?_⟩
    obtain ⟨p, hp, rfl⟩ := List.mem_map.1 hm
    obtain ⟨j, hj⟩ := List.mem_iff_getElem?.1 hp
    have hjl : j < l.length := (List.getElem?_eq_some_iff.1 hj).1
    have hb : bs[j]? = some bs[j] := List.getElem?_eq_getElem (by omega)
    have : (⟨enc p.1, p.2, bs[j]⟩ : MapEntry) ∈ ents enc l bs := by
      apply List.mem_iff_getElem?.2
      exact ⟨j, by unfold ents; rw [List.getElem?_zipWith, hj, hb]⟩
    exact h2 _ this rfl
  · obtain ⟨p, b, hp, hb, rfl⟩ := ents_get h2
    have hk : p.1 = k := KO.inj _ _ h3
    exact .inr ⟨j, p, b, h1, hp, hb, hk, hk ▸ get_of_at hn hp⟩

/-- m[k] -/
theorem MapAt.lookup (h : MapAt enc w b l) (KO : KeyOk P K enc) (ht : P.underlying t = some (.map K e)) {z : Value} (hz : (zeroValue e).run P w = .ok z w) (k : κ) :
    (Instr.lookup t (.map (some b)) (enc k) false).run P w = .ok ((mget l k).getD z) w := by
  obtain ⟨bs, clock, h1, hb, h3, h4⟩ := h
  rcases find_get KO w h1 h3 k with ⟨hf, hg⟩ | ⟨j, p, b', hf, hp, _, hk, hg⟩
  · simp [Instr.lookup, run_underlying ht, MapKept.run_getObj_map hb, KO.check w, hf, hz, hg, Result.andThen]
  · simp [Instr.lookup, run_underlying ht, MapKept.run_getObj_map hb, KO.check w, hf, hg, Result.andThen]

/-- v, ok := m[k] -/
theorem MapAt.lookup_ok (h : MapAt enc w b l) (KO : KeyOk P K enc) (ht : P.underlying t = some (.map K e)) {z : Value} (hz : (zeroValue e).run P w = .ok z w) (k : κ) :
    (Instr.lookup t (.map (some b)) (enc k) true).run P w = .ok (.tuple #[(mget l k).getD z, .bool (mget l k).isSome]) w := by
  obtain ⟨bs, clock, h1, hb, h3, h4⟩ := h
  rcases find_get KO w h1 h3 k with ⟨hf, hg⟩ | ⟨j, p, b', hf, hp, _, hk, hg⟩
  · simp [Instr.lookup, run_underlying ht, MapKept.run_getObj_map hb, KO.check w, hf, hz, hg, Result.andThen]
  · simp [Instr.lookup, run_underlying ht, MapKept.run_getObj_map hb, KO.check w, hf, hg, Result.andThen]

theorem put_at {l : List (κ × Value)} (hn : (l.map Prod.fst).Nodup) {j : Nat} {p : κ × Value} (h : l[j]? = some p) (v : Value) : mput l p.1 v = l.set j (p.1, v) := by
  induction l generalizing j with
  | nil => simp at h
  | cons q l ih =>
    simp only [List.map_cons, List.nodup_cons] at hn
    cases j with
    | zero => simp at h; subst h; simp [mput]
    | succ j =>
      simp at h
      have hm : p.1 ∈ l.map Prod.fst := List.mem_map.2 ⟨p, List.mem_of_getElem? h, rfl⟩
      have : ¬ q.1 = p.1 := fun e => hn.1 (e ▸ hm)
      unfold mput
      rw [if_neg this, ih hn.2 h]
      simp

theorem put_new {l : List (κ × Value)} {k : κ} (h : mget l k = none) (v : Value) : mput l k v = l ++ [(k, v)] := by
  induction l with
  | nil => rfl
  | cons q l ih =>
    unfold mget at h
    by_cases hq : q.1 = k
    · simp [hq] at h
    · simp only [hq, if_false] at h
      unfold mput
      rw [if_neg hq, ih h]
      rfl

/-- m[k] = v -/
theorem MapAt.store (h : MapAt enc w b l) (KO : KeyOk P K enc) (ht : P.underlying t = some (.map K e)) (k : κ) (v : Value) :
    ∃ w', (Instr.mapUpdate t (.map (some b)) (enc k) v).run P w = .ok () w' ∧ MapAt enc w' b (mput l k v) ∧ Turned w w' b := by
  have hlt := h.lt
  obtain ⟨bs, clock, h1, hb, h3, h4, h5⟩ := h
  rcases find_get KO w h1 h3 k with ⟨hf, hg⟩ | ⟨j, p, b', hf, hp, hb', rfl, hg⟩
  · refine ⟨setBlock w b (.map ((ents enc l bs).toArray.push ⟨enc k, v, clock⟩) (clock + 1)), ?_, ⟨bs ++ [clock], clock + 1, by simp [put_new hg, h1], ?_, put_nodup h3 _ _, ?_, ?_⟩, _, rfl⟩
    · simp [Instr.mapUpdate, run_underlying ht, MapKept.run_getObj_map hb, KO.check w, hf, MapKept.run_setObj_map _ hb, Result.andThen, setBlock]
    · simp [setBlock, hlt, put_new hg, ents_push h1]
    · rw [List.nodup_append]; exact ⟨h4, by simp, fun x hx y hy => by simp at hy; have := h5 x hx; omega⟩
    · intro x hx; simp at hx; rcases hx with hx | rfl
      · have := h5 x hx; omega
      · omega
  · have hj : (ents enc l bs).toArray[j]? = some ⟨enc p.1, p.2, b'⟩ := by
      simp [ents, List.getElem?_zipWith, hp, hb']
    refine ⟨setBlock w b (.map ((ents enc l bs).toArray.modify j fun e => { e with key := enc p.1, val := v }) clock), ?_, ⟨bs, clock, by simp [put_at h3 hp, h1], ?_, put_nodup h3 _ _, h4, h5⟩, _, rfl⟩
    · simp only [Instr.mapUpdate, Sem.run_bind, run_underlying ht, MapKept.run_getObj_map hb, KO.check w, hf, Result.andThen, hj, Option.map_some, Option.getD_some, KO.stays w, MapKept.run_setObj_map _ hb, setBlock]
    · simp only [setBlock]
      rw [Array.getElem?_setIfInBounds_self_of_lt hlt, put_at h3 hp, ents_set hp hb']
      simp

/-- m[k]++ and its like: first the entry, then its value. A look-up between the two finds what one ahead of both finds. -/
theorem MapAt.entry (h : MapAt enc w b l) (KO : KeyOk P K enc) (ht : P.underlying t = some (.map K e)) {z : Value} (hz : ∀ w : World, (zeroValue e).run P w = .ok z w) (k : κ) :
    ∃ (w1 : World) (c : Nat), (Instr.mapEntry t (.map (some b)) (enc k)).run P w = .ok (.tuple #[(mget l k).getD z, goInt c]) w1 ∧ Turned w w1 b ∧
      (Instr.lookup t (.map (some b)) (enc k) false).run P w1 = .ok ((mget l k).getD z) w1 ∧
      ∀ v, ∃ w2, (Instr.entryStore t (.map (some b)) (goInt c) v).run P w1 = .ok () w2 ∧ MapAt enc w2 b (mput l k v) ∧ Turned w w2 b := by
  have hlt := h.lt
  obtain ⟨bs, clock, h1, hb, h3, h4, h5⟩ := h
  rcases find_get KO w h1 h3 k with ⟨hf, hg⟩ | ⟨j, p, b', hf, hp, hb', rfl, hg⟩
  · have hb1 : (setBlock w b (.map ((ents enc l bs).toArray.push ⟨enc k, z, clock⟩) (clock + 1))).heap[b]? = some (.map (ents enc (l ++ [(k, z)]) (bs ++ [clock])).toArray (clock + 1)) := by
      simp [setBlock, hlt, ents_push h1]
    have hm1 : MapAt enc (setBlock w b (.map ((ents enc l bs).toArray.push ⟨enc k, z, clock⟩) (clock + 1))) b (mput l k z) := by
      refine ⟨bs ++ [clock], clock + 1, by simp [put_new hg, h1], by rw [put_new hg]; exact hb1, put_nodup h3 _ _, ?_, ?_⟩
      · rw [List.nodup_append]; exact ⟨h4, by simp, fun x hx y hy => by simp at hy; have := h5 x hx; omega⟩
      · intro x hx; simp at hx; rcases hx with hx | rfl
        · have := h5 x hx; omega
        · omega
    refine ⟨setBlock w b (.map ((ents enc l bs).toArray.push ⟨enc k, z, clock⟩) (clock + 1)), clock, ?_, ⟨_, rfl⟩, ?_, ?_⟩
    · simp [Instr.mapEntry, run_underlying ht, MapKept.run_getObj_map hb, KO.check w, hf, hz, hg, MapKept.run_setObj_map _ hb, Result.andThen]; rfl
    · have := hm1.lookup KO ht (hz _) k
      rw [mget_mput] at this
      simpa [hg] using this
    · intro v
      have hx : (ents enc (l ++ [(k, z)]) (bs ++ [clock])).toArray.findIdx? (fun e => (e.born : Int) == (clock : Int)) = some l.length := by
        rw [ents_push h1, List.findIdx?_toArray, List.findIdx?_append]
        have hno : (ents enc l bs).findIdx? (fun e => (e.born : Int) == (clock : Int)) = none := by
          rw [List.findIdx?_eq_none_iff]
          intro e he
          obtain ⟨i, hi⟩ := List.mem_iff_getElem?.1 he
          obtain ⟨q, c, _, hc, rfl⟩ := ents_get hi
          have := h5 c (List.mem_of_getElem? hc)
          simp; omega
        rw [hno]
        simp [ents_length l bs h1]
      refine ⟨setBlock (setBlock w b (.map ((ents enc l bs).toArray.push ⟨enc k, z, clock⟩) (clock + 1))) b (.map ((ents enc (l ++ [(k, z)]) (bs ++ [clock])).toArray.modify l.length fun e => { e with val := v }) (clock + 1)), ?_, ⟨bs ++ [clock], clock + 1, by simp [put_new hg, h1], ?_, put_nodup h3 _ _, ?_, ?_⟩, ?_⟩
      · simp only [Instr.entryStore, Sem.run_bind, MapKept.run_getObj_map hb1, Result.andThen, goInt, asInt, asIntOf, Sem.run_pure, hx, MapKept.run_setObj_map _ hb1]
        rfl
      · simp only [setBlock]
        rw [Array.getElem?_setIfInBounds_self_of_lt (by simpa using hlt), put_new hg, ents_push h1, ents_push h1]
        congr 2
        apply Array.ext'
        simp only [List.modify_toArray]
        apply List.ext_getElem?
        intro i
        rw [List.getElem?_modify]
        have hel := ents_length (enc := enc) l bs h1
        by_cases hi : i < l.length
        · rw [List.getElem?_append_left (by omega), List.getElem?_append_left (by omega)]
          have : ¬ l.length = i := by omega
          simp [this]
        · by_cases hi' : i = l.length
          · subst hi'
            rw [List.getElem?_append_right (by omega), List.getElem?_append_right (by omega), hel]
            simp
          · rw [List.getElem?_eq_none (by simp [hel]; omega), List.getElem?_eq_none (by simp [hel]; omega)]
            simp
      · rw [List.nodup_append]; exact ⟨h4, by simp, fun x hx y hy => by simp at hy; have := h5 x hx; omega⟩
      · intro x hx; simp at hx; rcases hx with hx | rfl
        · have := h5 x hx; omega
        · omega
      · exact Turned.trans ⟨_, rfl⟩ ⟨_, rfl⟩
  · have hjl : j < l.length := (List.getElem?_eq_some_iff.1 hp).1
    have hj : (ents enc l bs).toArray[j]? = some ⟨enc p.1, p.2, b'⟩ := by
      simp [ents, List.getElem?_zipWith, hp, hb']
    have hsame : (ents enc l bs).toArray.modify j (fun e => { e with key := enc p.1 }) = (ents enc l bs).toArray := by
      apply Array.ext'
      simp only [List.modify_toArray]
      apply List.ext_getElem?
      intro i
      rw [List.getElem?_modify]
      by_cases hi : j = i
      · subst hi
        have hj' : (ents enc l bs)[j]? = some ⟨enc p.1, p.2, b'⟩ := by simpa using hj
        rw [hj']; simp
      · simp [hi]
    refine ⟨setBlock w b (.map ((ents enc l bs).toArray.modify j fun e => { e with key := enc p.1 }) clock), b', ?_, ⟨_, rfl⟩, ?_, ?_⟩
    · simp only [Instr.mapEntry, Sem.run_bind, run_underlying ht, MapKept.run_getObj_map hb, KO.check w, hf, Result.andThen, hj, Option.map_some, Option.getD_some, KO.stays w, MapKept.run_setObj_map _ hb, setBlock, hg, Sem.run_pure]
    · have hm1 : MapAt enc (setBlock w b (.map ((ents enc l bs).toArray.modify j fun e => { e with key := enc p.1 }) clock)) b l := by
        refine ⟨bs, clock, h1, ?_, h3, h4, h5⟩
        rw [hsame]
        simp [setBlock, hlt]
      exact hm1.lookup KO ht (hz _) p.1
    · intro v
      have hb1 : (setBlock w b (.map ((ents enc l bs).toArray.modify j fun e => { e with key := enc p.1 }) clock)).heap[b]? = some (.map (ents enc l bs).toArray clock) := by
        rw [hsame]; simp [setBlock, hlt]
      have hx : (ents enc l bs).toArray.findIdx? (fun e => (e.born : Int) == (b' : Int)) = some j := by
        rw [List.findIdx?_toArray, List.findIdx?_eq_some_iff_getElem]
        have hel := ents_length (enc := enc) l bs h1
        refine ⟨by omega, ?_, ?_⟩
        · have hj' : (ents enc l bs)[j]? = some ⟨enc p.1, p.2, b'⟩ := by simpa using hj
          rw [List.getElem?_eq_some_iff] at hj'
          obtain ⟨_, hj''⟩ := hj'
          rw [hj'']; simp
        · intro i hi
          have hil : i < (ents enc l bs).length := by omega
          obtain ⟨q, c, _, hc, he⟩ := ents_get (List.getElem?_eq_getElem hil)
          rw [he]
          simp only [Bool.not_eq_true, beq_eq_false_iff_ne, ne_eq, Int.natCast_inj]
          intro ec
          subst ec
          have hib : i < bs.length := by omega
          have hjb : j < bs.length := by omega
          rw [List.getElem?_eq_getElem hib] at hc
          rw [List.getElem?_eq_getElem hjb] at hb'
          have := (List.nodup_iff_pairwise_ne.1 h4)
          rw [List.pairwise_iff_getElem] at this
          exact this i j hib hjb hi (by rw [Option.some.inj hc, Option.some.inj hb'])
      refine ⟨setBlock (setBlock w b (.map ((ents enc l bs).toArray.modify j fun e => { e with key := enc p.1 }) clock)) b (.map ((ents enc l bs).toArray.modify j fun e => { e with val := v }) clock), ?_, ⟨bs, clock, by simp [put_at h3 hp, h1], ?_, put_nodup h3 _ _, h4, h5⟩, Turned.trans ⟨_, rfl⟩ ⟨_, rfl⟩⟩
      · simp only [Instr.entryStore, Sem.run_bind, MapKept.run_getObj_map hb1, Result.andThen, goInt, asInt, asIntOf, Sem.run_pure, hx, MapKept.run_setObj_map _ hb1]
        rfl
      · simp only [setBlock]
        rw [Array.getElem?_setIfInBounds_self_of_lt (by simpa using hlt), put_at h3 hp, ents_set hp hb']
        congr 2
        apply Array.ext'
        simp only [List.modify_toArray]
        apply List.ext_getElem?
        intro i
        rw [List.getElem?_modify, List.getElem?_modify]
        by_cases hi : j = i
        · subst hi
          have hj' : (ents enc l bs)[j]? = some ⟨enc p.1, p.2, b'⟩ := by simpa using hj
          rw [hj']; simp
        · simp [hi]

end
end Go.Proofs.Ytnjnmoehjaikkaa.Base
