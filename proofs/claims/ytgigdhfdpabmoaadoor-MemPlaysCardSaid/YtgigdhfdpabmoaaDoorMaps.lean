/- Maps whose keys are read by a code 'enc': what a block holds as an association list in the order in which its entries were laid, and what lookup, store, delete, clear, len and range do to it. -/
import Derived.Test.YtgigdhfdpabmoaaDoorBase
import Derived.Maps.RangeWalk
import Derived.Maps.OwnSet
namespace Go.Proofs.YtgigdhfdpabmoaaDoor
open Go.RowKit Go.ChangeMaps

/-- What a key's type must give: a code of the keys, one to one, whose comparisons run. -/
structure KeyC (P : Program) (k : TypeId) {α : Type} (enc : α → Value) : Prop where
  inj : ∀ x y, enc x = enc y → x = y
  check : ∀ (em : Bool) (x : α) (w : World), (Instr.checkKey em 10000 k (enc x)).run P w = .ok () w
  eq : ∀ (x y : α) (w : World), ∃ r : Bool, (Op.equal k (enc x) (enc y)).run P w = .ok r w ∧ (r = true ↔ x = y)
  now : ∀ (x y : α) (es : List MapEntry) (e : MapEntry) (i : Nat), e.key = enc y → (do Instr.findNow (← P.underlying k) (enc x) (e :: es) i : Option (Option (Nat × Value))) = none
  und : ∃ d, P.underlying k = some d
  stays : ∀ (x : α) (w : World), (Instr.keyThatStays (enc x) (enc x)).run P w = .ok (enc x) w

section
variable {P : Program} {k : TypeId} {α : Type} {enc : α → Value}

theorem run_findAsking_enc (C : KeyC P k enc) (w : World) (x : α) : ∀ (es : List MapEntry) (ks : List α) (i : Nat), es.map (·.key) = ks.map enc →
    (x ∉ ks ∧ (Instr.findAsking k (enc x) es i).run P w = .ok none w) ∨
    ∃ j e, ks[j]? = some x ∧ es[j]? = some e ∧ (Instr.findAsking k (enc x) es i).run P w = .ok (some (i + j, e.val)) w
  | [], ks, i, h => by
    have : ks = [] := by simpa using h.symm
    subst this
    exact .inl ⟨by simp, rfl⟩
  | e :: es, ks, i, h => by
    match ks, h with
    | [], h => simp at h
    | y :: ks, h =>
      simp only [List.map_cons, List.cons.injEq] at h
      obtain ⟨hk, ht⟩ := h
      obtain ⟨r, hr, hiff⟩ := C.eq x y w
      have hstep : (Instr.findAsking k (enc x) (e :: es) i).run P w = (if r then (.ok (some (i, e.val)) w : Result _) else (Instr.findAsking k (enc x) es (i + 1)).run P w) := by
        rw [Instr.findAsking]
        simp only [Sem.run_bind, hk, hr, Result.andThen_ok]
        cases r <;> rfl
      by_cases hxy : x = y
      · have hr1 : r = true := hiff.2 hxy
        subst hr1
        subst hxy
        exact .inr ⟨0, e, by simp, by simp, by rw [hstep]; simp⟩
      · have hr0 : r = false := by
          cases r
          · rfl
          · exact absurd (hiff.1 rfl) hxy
        subst hr0
        rcases run_findAsking_enc C w x es ks (i + 1) ht with ⟨hn, hrun⟩ | ⟨j, e', h1, h2, h3⟩
        · exact .inl ⟨by simp [hxy, hn], by rw [hstep]; simpa using hrun⟩
        · exact .inr ⟨j + 1, e', by simpa using h1, by simpa using h2, by rw [hstep]; simp only [Bool.false_eq_true, if_false]; rw [h3]; congr 3; omega⟩

theorem run_findKey_enc (C : KeyC P k enc) (w : World) (x : α) (es : List MapEntry) (ks : List α) (h : es.map (·.key) = ks.map enc) :
    (x ∉ ks ∧ (Instr.findKey k (enc x) es).run P w = .ok none w) ∨
    ∃ j e, ks[j]? = some x ∧ es[j]? = some e ∧ (Instr.findKey k (enc x) es).run P w = .ok (some (j, e.val)) w := by
  obtain ⟨d, hd⟩ := C.und
  cases es with
  | nil =>
    have : ks = [] := by simpa using h.symm
    subst this
    exact .inl ⟨by simp, by simp [Instr.findKey, run_underlying hd, Instr.findNow]⟩
  | cons e es =>
    match ks, h with
    | [], h => simp at h
    | y :: ks, h =>
      have hk : e.key = enc y := by simp at h; exact h.1
      have hn := C.now x y es e 0 hk
      simp only [hd, Option.bind_eq_bind, Option.bind_some] at hn
      have hstep : (Instr.findKey k (enc x) (e :: es)).run P w = (Instr.findAsking k (enc x) (e :: es) 0).run P w := by
        simp [Instr.findKey, run_underlying hd, hn]
      rw [hstep]
      rcases run_findAsking_enc C w x (e :: es) (y :: ks) 0 h with h1 | ⟨j, e', h1, h2, h3⟩
      · exact .inl h1
      · exact .inr ⟨j, e', h1, h2, by simpa using h3⟩

/-- Block b is a map that holds m, an association list in the order in which its keys were first laid. -/
def MapIs (enc : α → Value) (w : World) (b : Nat) (m : List (α × Value)) : Prop :=
  ∃ es clock, w.heap[b]? = some (.map es clock) ∧ es.toList.map (fun e => (e.key, e.val)) = m.map (fun p => (enc p.1, p.2)) ∧
    (es.toList.map (·.born)).Nodup ∧ (∀ e ∈ es.toList, e.born < clock) ∧ (m.map (·.1)).Nodup

/-- The list with x's value laid. -/
def mset [DecidableEq α] (m : List (α × Value)) (x : α) (v : Value) : List (α × Value) :=
  if x ∈ m.map (·.1) then m.map (fun p => if p.1 = x then (x, v) else p) else m ++ [(x, v)]
def mdel [DecidableEq α] (m : List (α × Value)) (x : α) : List (α × Value) := m.filter (fun p => decide (p.1 ≠ x))
def mget [DecidableEq α] (m : List (α × Value)) (x : α) : Option Value := (m.find? (fun p => decide (p.1 = x))).map (·.2)

variable {w : World} {b : Nat} {m : List (α × Value)}

theorem MapIs.lt (h : MapIs enc w b m) : b < w.heap.size := by
  obtain ⟨es, clock, hb, _⟩ := h
  exact lt_of_some hb
theorem MapIs.obj (h : MapIs enc w b m) : ∃ es clock, w.heap[b]? = some (.map es clock) := by
  obtain ⟨es, clock, hb, _⟩ := h
  exact ⟨es, clock, hb⟩
theorem MapIs.keep {w' : World} (h : MapIs enc w b m) (hb : w'.heap[b]? = w.heap[b]?) : MapIs enc w' b m := by
  obtain ⟨es, clock, h1, r⟩ := h
  exact ⟨es, clock, hb.trans h1, r⟩
theorem MapIs.ext {w' : World} (h : MapIs enc w b m) (hb : Below w.heap.size w w') : MapIs enc w' b m := h.keep (hb.block b h.lt)
theorem MapIs.setCell (h : MapIs enc w b m) (p : Addr) (v : Value) : MapIs enc (w.setCell p v) b m := by
  obtain ⟨es, clock, hb, r⟩ := h
  refine ⟨es, clock, ?_, r⟩
  simp only [World.setCell, Array.getElem?_modify, hb]
  split <;> simp
theorem MapIs.alloc (h : MapIs enc w b m) (o : Obj) : MapIs enc (w.alloc o) b m := h.ext ((Below.refl _ _).alloc (Nat.le_refl _) o)
theorem MapIs.drew (h : MapIs enc w b m) : MapIs enc w.drew b m := h
theorem MapIs.drewN (h : MapIs enc w b m) (n : Nat) : MapIs enc (w.drewN n) b m := h
theorem MapIs.grown {w' : World} {row : Option Nat} (h : MapIs enc w b m) (hg : w.grownBy w' row) (hr : some b ≠ row) : MapIs enc w' b m := h.keep (hg.block b h.lt hr)
theorem MapIs.ne_cells (h : MapIs enc w b m) {g : Nat} {cs : Array Value} {t : TypeId} {f : Nat × Nat} (hg : w.heap[g]? = some (.cells cs t f)) : b ≠ g := by
  rintro rfl
  obtain ⟨es, clock, hb, _⟩ := h
  rw [hb] at hg
  cases hg
theorem MapIs.nodup (h : MapIs enc w b m) : (m.map (·.1)).Nodup := by
  obtain ⟨_, _, _, _, _, _, h⟩ := h
  exact h
theorem MapIs.made (enc : α → Value) (w : World) : MapIs enc (w.alloc (.map #[] 0)) w.heap.size ([] : List (α × Value)) :=
  ⟨#[], 0, heap_alloc_new w _, by simp, by simp, by simp, by simp⟩

theorem mget_none [DecidableEq α] {x : α} (h : x ∉ m.map (·.1)) : mget m x = none := by
  unfold mget
  rw [List.find?_eq_none.2 (fun p hp => by
    simp only [decide_eq_true_eq]
    rintro rfl
    exact h (List.mem_map_of_mem hp))]
  rfl
theorem mget_some [DecidableEq α] {x : α} {v : Value} (hn : (m.map (·.1)).Nodup) (h : (x, v) ∈ m) : mget m x = some v := by
  unfold mget
  induction m with
  | nil => cases h
  | cons p m ih =>
    simp only [List.map_cons, List.nodup_cons] at hn
    rcases List.mem_cons.1 h with rfl | h
    · simp
    · have hne : p.1 ≠ x := by
        rintro rfl
        exact hn.1 (List.mem_map_of_mem (f := (·.1)) h)
      simp only [List.find?_cons, hne, decide_false]
      exact ih hn.2 h

theorem keys_of (es : Array MapEntry) (m : List (α × Value)) (h : es.toList.map (fun e => (e.key, e.val)) = m.map (fun p => (enc p.1, p.2))) : es.toList.map (·.key) = (m.map (·.1)).map enc := by
  have := congrArg (List.map Prod.fst) h
  simpa [List.map_map, Function.comp_def] using this
theorem val_at (es : Array MapEntry) (m : List (α × Value)) (h : es.toList.map (fun e => (e.key, e.val)) = m.map (fun p => (enc p.1, p.2))) {j : Nat} {e : MapEntry} (he : es.toList[j]? = some e) {x : α} (hx : (m.map (·.1))[j]? = some x) :
    m[j]? = some (x, e.val) := by
  have := congrArg (fun l => l[j]?) h
  simp only [List.getElem?_map, he, Option.map_some] at this
  rw [List.getElem?_map] at hx
  cases hm : m[j]? with
  | none => rw [hm] at hx; cases hx
  | some p =>
    rw [hm] at this hx
    simp only [Option.map_some, Option.some.injEq, Prod.mk.injEq] at this hx
    rw [← hx, this.2]

/-- 'v, ok := m[x]'. -/
theorem MapIs.lookup_ok [DecidableEq α] (h : MapIs enc w b m) (C : KeyC P k enc) {t e : TypeId} (ht : P.underlying t = some (.map k e)) {z : Value} (hz : (zeroValue e).run P w = .ok z w) (x : α) :
    (Instr.lookup t (.map (some b)) (enc x) true).run P w = .ok (.tuple #[(mget m x).getD z, .bool (mget m x).isSome]) w := by
  obtain ⟨es, clock, hb, hm, _, _, hn⟩ := h
  have hks := keys_of es m hm
  rcases run_findKey_enc C w x es.toList (m.map (·.1)) hks with ⟨hx, hf⟩ | ⟨j, e0, hx, he, hf⟩
  · rw [mget_none hx]
    simp [Instr.lookup, run_underlying ht, MapKept.run_getObj_map hb, C.check, hf, hz]
  · have hv := val_at es m hm he hx
    rw [mget_some hn (List.mem_of_getElem? hv)]
    simp [Instr.lookup, run_underlying ht, MapKept.run_getObj_map hb, C.check, hf]

/-- 'm[x]'. -/
theorem MapIs.lookup [DecidableEq α] (h : MapIs enc w b m) (C : KeyC P k enc) {t e : TypeId} (ht : P.underlying t = some (.map k e)) {z : Value} (hz : (zeroValue e).run P w = .ok z w) (x : α) :
    (Instr.lookup t (.map (some b)) (enc x) false).run P w = .ok ((mget m x).getD z) w := by
  obtain ⟨es, clock, hb, hm, _, _, hn⟩ := h
  have hks := keys_of es m hm
  rcases run_findKey_enc C w x es.toList (m.map (·.1)) hks with ⟨hx, hf⟩ | ⟨j, e0, hx, he, hf⟩
  · rw [mget_none hx]
    simp [Instr.lookup, run_underlying ht, MapKept.run_getObj_map hb, C.check, hf, hz]
  · have hv := val_at es m hm he hx
    rw [mget_some hn (List.mem_of_getElem? hv)]
    simp [Instr.lookup, run_underlying ht, MapKept.run_getObj_map hb, C.check, hf]

theorem grownBy_setBlock (hb : ∃ es clock, w.heap[b]? = some (.map es clock)) (o : Obj) : w.grownBy (setBlock w b o) (some b) := by
  obtain ⟨es, clock, hb⟩ := hb
  exact ⟨rfl, rfl, rfl, by simp [setBlock], fun i _ hi => heap_setBlock_other hb o (fun e => hi (by rw [e]))⟩

theorem map_set_at [DecidableEq α] (hn : (m.map (·.1)).Nodup) {x : α} {v : Value} {j : Nat} (hx : (m.map (·.1))[j]? = some x) : m.map (fun p => if p.1 = x then (x, v) else p) = m.set j (x, v) := by
  apply List.ext_getElem?
  intro i
  rw [List.getElem?_map, List.getElem?_set]
  by_cases hij : j = i
  · subst hij
    have hlt : j < m.length := by
      have := (List.getElem?_eq_some_iff.1 hx).1
      simpa using this
    rw [List.getElem?_map] at hx
    rw [List.getElem?_eq_getElem hlt] at hx ⊢
    simp only [Option.map_some, Option.some.injEq] at hx
    simp [hx, hlt]
  · rw [if_neg hij]
    cases hi : m[i]? with
    | none => rfl
    | some p =>
      simp only [Option.map_some, Option.some.injEq]
      rw [if_neg]
      intro hp
      have hi' : (m.map (·.1))[i]? = some x := by rw [List.getElem?_map, hi]; simp [hp]
      have h1 := (List.getElem?_eq_some_iff.1 hx)
      have h2 := (List.getElem?_eq_some_iff.1 hi')
      have hpw := List.pairwise_iff_getElem.1 hn
      rcases Nat.lt_or_gt_of_ne hij with hl | hl
      · exact hpw j i h1.1 h2.1 hl (h1.2.trans h2.2.symm)
      · exact hpw i j h2.1 h1.1 hl (h2.2.trans h1.2.symm)

/-- 'm[x] = v'. -/
theorem MapIs.store [DecidableEq α] (h : MapIs enc w b m) (C : KeyC P k enc) {t e : TypeId} (ht : P.underlying t = some (.map k e)) (x : α) (v : Value) :
    ∃ w', (Instr.mapUpdate t (.map (some b)) (enc x) v).run P w = .ok () w' ∧ MapIs enc w' b (mset m x v) ∧ w.grownBy w' (some b) ∧ w'.heap.size = w.heap.size := by
  obtain ⟨es, clock, hb, hm, hnb, hlt, hn⟩ := h
  have hks := keys_of es m hm
  rcases run_findKey_enc C w x es.toList (m.map (·.1)) hks with ⟨hx, hf⟩ | ⟨j, e0, hx, he, hf⟩
  · refine ⟨setBlock w b (.map (es.push { key := enc x, val := v, born := clock }) (clock + 1)), ?_, ⟨_, _, heap_setBlock_same hb _, ?_, ?_, ?_, ?_⟩, grownBy_setBlock ⟨_, _, hb⟩ _, by simp [setBlock]⟩
    · simp [Instr.mapUpdate, run_underlying ht, MapKept.run_getObj_map hb, C.check, hf, MapKept.run_setObj_map _ hb, setBlock]
    · simp [mset, hx, hm]
    · simp only [Array.toList_push, List.map_append, List.map_cons, List.map_nil]
      rw [List.nodup_append]
      refine ⟨hnb, by simp, ?_⟩
      intro a ha c hc
      simp only [List.mem_cons, List.not_mem_nil, or_false] at hc
      subst hc
      obtain ⟨e, he, rfl⟩ := List.mem_map.1 ha
      have := hlt e he
      omega
    · intro e he
      simp only [Array.toList_push, List.mem_append, List.mem_cons, List.not_mem_nil, or_false] at he
      rcases he with he | rfl
      · have := hlt e he; omega
      · simp
    · unfold mset
      rw [if_neg hx, List.map_append, List.nodup_append]
      exact ⟨hn, by simp, by intro a ha c hc; simp at hc; subst hc; exact fun e => hx (e ▸ ha)⟩
  · have hmem : x ∈ m.map (·.1) := List.mem_iff_getElem?.2 ⟨j, hx⟩
    have hkey : e0.key = enc x := by
      have := congrArg (fun l => l[j]?) hks
      simp only [List.getElem?_map, he, Option.map_some] at this
      rw [List.getElem?_map] at hx
      cases hmj : m[j]? with
      | none => rw [hmj] at hx; cases hx
      | some p =>
        rw [hmj] at this hx
        simp only [Option.map_some, Option.some.injEq] at this hx
        rw [this, hx]
    have hej : es[j]? = some e0 := by simpa using he
    have hjlt : j < es.size := (Array.getElem?_eq_some_iff.1 hej).1
    have hes : es[j] = e0 := (Array.getElem?_eq_some_iff.1 hej).2
    have hmod : (es.modify j fun e => { e with key := enc x, val := v }).toList = es.toList.set j { e0 with key := enc x, val := v } := by
      apply List.ext_getElem?
      intro i
      rw [Array.toList_modify, List.getElem?_modify, List.getElem?_set]
      by_cases hij : j = i
      · subst hij
        simp [hjlt, hes]
      · simp [hij]
    refine ⟨setBlock w b (.map (es.modify j fun e => { e with key := enc x, val := v }) clock), ?_, ⟨_, _, heap_setBlock_same hb _, ?_, ?_, ?_, ?_⟩, grownBy_setBlock ⟨_, _, hb⟩ _, by simp [setBlock]⟩
    · simp [Instr.mapUpdate, run_underlying ht, MapKept.run_getObj_map hb, C.check, hf, MapKept.run_setObj_map _ hb, setBlock, hej, hkey, C.stays]
    · rw [hmod, List.map_set, hm]
      unfold mset
      rw [if_pos hmem, map_set_at hn hx, List.map_set]
    · rw [hmod, List.map_set]
      have : (es.toList.map (·.born)).set j e0.born = es.toList.map (·.born) := by
        apply List.ext_getElem?
        intro i
        rw [List.getElem?_set]
        split
        · rename_i hij; subst hij; simp [hjlt, hes]
        · rfl
      rw [this]; exact hnb
    · intro e hmem'
      rw [hmod] at hmem'
      rcases List.mem_or_eq_of_mem_set hmem' with h1 | h1
      · exact hlt e h1
      · subst h1; exact hlt e0 (List.mem_of_getElem? he)
    · unfold mset
      rw [if_pos hmem, map_set_at hn hx, List.map_set]
      have : (m.map (·.1)).set j x = m.map (·.1) := by
        apply List.ext_getElem?
        intro i
        rw [List.getElem?_set]
        split
        · rename_i hij
          subst hij
          rw [hx, if_pos (List.getElem?_eq_some_iff.1 hx).1]
        · rfl
      rw [this]; exact hn

theorem filter_ne_eraseIdx [DecidableEq α] (hn : (m.map (·.1)).Nodup) {x : α} {j : Nat} (hx : (m.map (·.1))[j]? = some x) : mdel m x = m.eraseIdx j := by
  unfold mdel
  induction m generalizing j with
  | nil => simp at hx
  | cons p m ih =>
    simp only [List.map_cons, List.nodup_cons] at hn
    cases j with
    | zero =>
      simp only [List.map_cons, List.getElem?_cons_zero, Option.some.injEq] at hx
      subst hx
      simp only [List.filter_cons, ne_eq, not_true_eq_false, decide_false, Bool.false_eq_true, if_false, List.eraseIdx_zero, List.tail_cons]
      refine List.filter_eq_self.2 fun q hq => ?_
      simp only [decide_not, Bool.not_eq_true', decide_eq_false_iff_not]
      intro e
      exact hn.1 (e ▸ List.mem_map_of_mem hq)
    | succ j =>
      simp only [List.map_cons, List.getElem?_cons_succ] at hx
      have hne : p.1 ≠ x := by
        rintro rfl
        exact hn.1 (List.mem_of_getElem? hx)
      simp only [List.filter_cons, ne_eq, hne, not_false_eq_true, decide_true, if_true, List.eraseIdx_cons_succ]
      rw [← ih hn.2 hx]

/-- 'delete(m, x)'. -/
theorem MapIs.drop [DecidableEq α] (h : MapIs enc w b m) (C : KeyC P k enc) {t e : TypeId} (ht : P.underlying t = some (.map k e)) (ty : TypeId) (x : α) :
    ∃ w', (Builtin.delete_ #[t, k] ty #[.map (some b), enc x]).run P w = .ok (.tuple #[]) w' ∧ MapIs enc w' b (mdel m x) ∧ w.grownBy w' (some b) ∧ w'.heap.size = w.heap.size := by
  obtain ⟨es, clock, hb, hm, hnb, hlt, hn⟩ := h
  have hks := keys_of es m hm
  rcases run_findKey_enc C w x es.toList (m.map (·.1)) hks with ⟨hx, hf⟩ | ⟨j, e0, hx, he, hf⟩
  · refine ⟨setBlock w b (.map es clock), ?_, ⟨_, _, heap_setBlock_same hb _, ?_, hnb, hlt, ?_⟩, grownBy_setBlock ⟨_, _, hb⟩ _, by simp [setBlock]⟩
    · simp [Builtin.delete_, run_underlying ht, MapKept.run_getObj_map hb, C.check, hf, MapKept.run_setObj_map _ hb, setBlock]
    · have : mdel m x = m := List.filter_eq_self.2 fun q hq => by
        simp only [decide_not, Bool.not_eq_true', decide_eq_false_iff_not]
        intro e
        exact hx (e ▸ List.mem_map_of_mem hq)
      rw [this]; exact hm
    · exact List.Nodup.sublist (List.Sublist.map _ (List.filter_sublist ..)) hn
  · have hjlt : j < es.size := by have := (List.getElem?_eq_some_iff.1 he).1; simpa using this
    have her : (es.eraseIdxIfInBounds j).toList = es.toList.eraseIdx j := by simp [Array.eraseIdxIfInBounds, hjlt]
    refine ⟨setBlock w b (.map (es.eraseIdxIfInBounds j) clock), ?_, ⟨_, _, heap_setBlock_same hb _, ?_, ?_, ?_, ?_⟩, grownBy_setBlock ⟨_, _, hb⟩ _, by simp [setBlock]⟩
    · simp [Builtin.delete_, run_underlying ht, MapKept.run_getObj_map hb, C.check, hf, MapKept.run_setObj_map _ hb, setBlock]
    · rw [her, filter_ne_eraseIdx hn hx, ChangeMaps.map_eraseIdx, ChangeMaps.map_eraseIdx, hm]
    · rw [her, ChangeMaps.map_eraseIdx]
      exact List.Nodup.sublist (List.eraseIdx_sublist ..) hnb
    · intro e hmem
      rw [her] at hmem
      exact hlt e (List.mem_of_mem_eraseIdx hmem)
    · exact List.Nodup.sublist (List.Sublist.map _ (List.filter_sublist ..)) hn

/-- 'clear(m)'. -/
theorem MapIs.clear (h : MapIs enc w b m) {t e : TypeId} (ht : P.underlying t = some (.map k e)) (ty : TypeId) :
    ∃ w', (Builtin.clear_ #[t] ty #[.map (some b)]).run P w = .ok (.tuple #[]) w' ∧ MapIs enc w' b ([] : List (α × Value)) ∧ w.grownBy w' (some b) ∧ w'.heap.size = w.heap.size := by
  obtain ⟨es, clock, hb, hm, hnb, hlt, hn⟩ := h
  exact ⟨setBlock w b (.map #[] clock), by simp [Builtin.clear_, run_underlying ht, MapKept.run_getObj_map hb, MapKept.run_setObj_map _ hb, setBlock],
    ⟨_, _, heap_setBlock_same hb _, by simp, by simp, by simp, by simp⟩, grownBy_setBlock ⟨_, _, hb⟩ _, by simp [setBlock]⟩

/-- 'len(m)'. -/
theorem MapIs.len (h : MapIs enc w b m) {t e : TypeId} (ht : P.underlying t = some (.map k e)) (ty : TypeId) : (Builtin.len_ #[t] ty #[.map (some b)]).run P w = .ok (.int .i64 m.length) w := by
  obtain ⟨es, clock, hb, hm, _⟩ := h
  have : es.size = m.length := by have := congrArg List.length hm; simpa using this
  simp [Builtin.len_, run_underlying ht, MapKept.run_getObj_map hb, goInt, this]

/-! ### ranging over a map that does not turn meanwhile -/
/-- Block r is an iterator over the map in block b, which holds m; 'left' is still to come. -/
def IterIs (enc : α → Value) (w : World) (r b : Nat) (m left : List (α × Value)) : Prop :=
  ∃ es clock seen, w.heap[b]? = some (.map es clock) ∧ es.toList.map (fun e => (e.key, e.val)) = m.map (fun p => (enc p.1, p.2)) ∧
    (es.toList.map (·.born)).Nodup ∧ (∀ e ∈ es.toList, e.born < clock) ∧ (m.map (·.1)).Nodup ∧ w.heap[r]? = some (.mapIter (some b) clock seen clock) ∧
    (es.toList.filter (fun e => !seen.contains e.born)).map (fun e => (e.key, e.val)) = left.map (fun p => (enc p.1, p.2))

variable {r : Nat} {left : List (α × Value)}
theorem IterIs.isMap (h : IterIs enc w r b m left) : MapIs enc w b m := by
  obtain ⟨es, clock, seen, h1, h2, h3, h4, h5, _⟩ := h
  exact ⟨es, clock, h1, h2, h3, h4, h5⟩
theorem IterIs.lt (h : IterIs enc w r b m left) : r < w.heap.size := by
  obtain ⟨es, clock, seen, h1, h2, h3, h4, h5, h6, _⟩ := h
  exact lt_of_some h6
theorem IterIs.obj (h : IterIs enc w r b m left) : ∃ a b c d, w.heap[r]? = some (.mapIter a b c d) := by
  obtain ⟨es, clock, seen, h1, h2, h3, h4, h5, h6, _⟩ := h
  exact ⟨_, _, _, _, h6⟩
theorem IterIs.keep {w' : World} (h : IterIs enc w r b m left) (hr : w'.heap[r]? = w.heap[r]?) (hb : w'.heap[b]? = w.heap[b]?) : IterIs enc w' r b m left := by
  obtain ⟨es, clock, seen, h1, h2, h3, h4, h5, h6, h7⟩ := h
  exact ⟨es, clock, seen, hb.trans h1, h2, h3, h4, h5, hr.trans h6, h7⟩
theorem IterIs.ext {w' : World} (h : IterIs enc w r b m left) (hb : Below w.heap.size w w') : IterIs enc w' r b m left := h.keep (hb.block _ h.lt) (hb.block _ h.isMap.lt)
theorem IterIs.setCell (h : IterIs enc w r b m left) (p : Addr) (v : Value) : IterIs enc (w.setCell p v) r b m left := by
  obtain ⟨es, clock, seen, h1, h2, h3, h4, h5, h6, h7⟩ := h
  refine ⟨es, clock, seen, ?_, h2, h3, h4, h5, ?_, h7⟩
  · simp only [World.setCell, Array.getElem?_modify, h1]; split <;> simp
  · simp only [World.setCell, Array.getElem?_modify, h6]; split <;> simp

/-- 'range m'. -/
theorem MapIs.range (h : MapIs enc w b m) {t e : TypeId} (ht : P.underlying t = some (.map k e)) :
    ∃ o, (Instr.range t (.map (some b))).run P w = .ok (.pointer (some ⟨w.heap.size, 0, none⟩)) (w.alloc o) ∧ IterIs enc (w.alloc o) w.heap.size b m m ∧ ∃ x y z u, o = .mapIter x y z u := by
  obtain ⟨es, clock, hb, hm, hnb, hlt, hn⟩ := h
  have hblt := lt_of_some hb
  refine ⟨.mapIter (some b) clock #[] clock, ?_, ⟨es, clock, #[], (Below.heap_alloc w _ b hblt).trans hb, hm, hnb, hlt, hn, heap_alloc_new w _, ?_⟩, ⟨_, _, _, _, rfl⟩⟩
  · simp [Instr.range, run_underlying ht, MapKept.run_getObj_map hb, newObj, Sem.run]
  · rw [List.filter_eq_self.2 (by simp)]; exact hm

theorem filter_push_perm (es : List MapEntry) (seen : Array Nat) (e : MapEntry) :
    es.filter (fun x => !(seen.push e.born).contains x.born) = (es.filter (fun x => !seen.contains x.born)).filter (fun x => decide (x.born ≠ e.born)) := by
  rw [List.filter_filter]
  refine List.filter_congr fun x _ => ?_
  simp only [Array.contains_push, Bool.not_or]
  by_cases hx : x.born = e.born <;> simp [hx]

/-- The step: nothing is left, or one that is left has come. -/
theorem IterIs.next (h : IterIs enc w r b m left) (ty : TypeId) :
    (left = [] ∧ (Instr.next (.pointer (some ⟨r, 0, none⟩)) false ty).run P w = .ok (.tuple #[.bool false]) w) ∨
    ∃ p l1 l2 w', left = l1 ++ p :: l2 ∧ (Instr.next (.pointer (some ⟨r, 0, none⟩)) false ty).run P w = .ok (.tuple #[.bool true, enc p.1, p.2]) w' ∧ IterIs enc w' r b m (l1 ++ l2) ∧
      w.grownBy w' (some r) ∧ w'.heap.size = w.heap.size ∧ (Instr.entry (.pointer (some ⟨r, 0, none⟩))).run P w' = .ok (.tuple #[enc p.1, p.2]) w' := by
  obtain ⟨es, clock, seen, h1, h2, h3, h4, h5, h6, h7⟩ := h
  rcases run_next_at (P := P) w ty r b clock clock seen es clock h6 h1 h4 (Nat.le_refl _) with ⟨h0, hrun⟩ | ⟨e, he, w1, hw1, hrun⟩
  · refine .inl ⟨?_, hrun⟩
    have hl : (es.toList.filter (fun e => !seen.contains e.born)) = [] := by
      have : (leftOf es seen).toList = [] := by simpa using h0
      simpa [leftOf] using this
    rw [hl] at h7
    simpa using h7.symm
  · right
    have hel : e ∈ es.toList.filter (fun e => !seen.contains e.born) := by simpa [leftOf] using he
    have hees : e ∈ es.toList := (List.mem_filter.1 hel).1
    obtain ⟨j, hj⟩ := List.mem_iff_getElem?.1 hel
    have hjl : ∃ p, left[j]? = some p ∧ e.key = enc p.1 ∧ e.val = p.2 := by
      have := congrArg (fun l => l[j]?) h7
      simp only [List.getElem?_map, hj, Option.map_some] at this
      cases hl : left[j]? with
      | none => rw [hl] at this; cases this
      | some p =>
        rw [hl] at this
        simp only [Option.map_some, Option.some.injEq, Prod.mk.injEq] at this
        exact ⟨p, rfl, this.1, this.2⟩
    obtain ⟨p, hp, hk, hv⟩ := hjl
    have hjlt := (List.getElem?_eq_some_iff.1 hp).1
    have hsplit : left = left.take j ++ p :: left.drop (j + 1) := by
      have := (List.getElem?_eq_some_iff.1 hp).2
      rw [← this, List.getElem_cons_drop hjlt, List.take_append_drop]
    have hr1 : w1.heap[r]? = some (.mapIter (some b) clock seen clock) := by rcases hw1 with rfl | rfl <;> exact h6
    have hb1 : w1.heap[b]? = some (.map es clock) := by rcases hw1 with rfl | rfl <;> exact h1
    have hne : b ≠ r := by rintro rfl; rw [h1] at h6; cases h6
    have hrlt := lt_of_some hr1
    have hset_r : (setBlock w1 r (.mapIter (some b) clock (seen.push e.born) clock)).heap[r]? = some (.mapIter (some b) clock (seen.push e.born) clock) := by simp [setBlock, hrlt]
    have hset_b : (setBlock w1 r (.mapIter (some b) clock (seen.push e.born) clock)).heap[b]? = some (.map es clock) := by
      simp only [setBlock, Array.getElem?_setIfInBounds]
      rw [if_neg (fun e => hne e.symm)]; exact hb1
    have hsz : (setBlock w1 r (.mapIter (some b) clock (seen.push e.born) clock)).heap.size = w.heap.size := by rcases hw1 with rfl | rfl <;> simp [setBlock]
    have hnl : ((es.toList.filter (fun e => !seen.contains e.born)).map (·.born)).Nodup := List.Nodup.sublist (List.Sublist.map _ (List.filter_sublist ..)) h3
    refine ⟨p, left.take j, left.drop (j + 1), _, hsplit, ?_, ⟨es, clock, seen.push e.born, hset_b, h2, h3, h4, h5, hset_r, ?_⟩, ?_, hsz, ?_⟩
    · rw [hrun, hk, hv]
    · rw [filter_push_perm]
      generalize (es.toList.filter (fun e => !seen.contains e.born)) = L at hj h7 hnl
      have hL : L.filter (fun x => decide (x.born ≠ e.born)) = L.eraseIdx j := by
        clear h7 hel hjlt hsplit hp
        induction L generalizing j with
        | nil => simp at hj
        | cons q L ih =>
          simp only [List.map_cons, List.nodup_cons] at hnl
          cases j with
          | zero =>
            simp only [List.getElem?_cons_zero, Option.some.injEq] at hj
            subst hj
            simp only [List.filter_cons, ne_eq, not_true_eq_false, decide_false, Bool.false_eq_true, if_false, List.eraseIdx_zero, List.tail_cons]
            refine List.filter_eq_self.2 fun x hx => ?_
            simp only [decide_not, Bool.not_eq_true', decide_eq_false_iff_not]
            intro hxe
            exact hnl.1 (hxe ▸ List.mem_map_of_mem hx)
          | succ j =>
            simp only [List.getElem?_cons_succ] at hj
            have hqe : q.born ≠ e.born := by
              intro hq
              exact hnl.1 (hq ▸ List.mem_map_of_mem (List.mem_of_getElem? hj))
            simp only [List.filter_cons, ne_eq, hqe, not_false_eq_true, decide_true, if_true, List.eraseIdx_cons_succ]
            rw [← ih j hj hnl.2]
      rw [hL, ChangeMaps.map_eraseIdx, h7, ← ChangeMaps.map_eraseIdx, List.eraseIdx_eq_take_drop_succ]
    · refine ⟨?_, ?_, ?_, Nat.le_of_eq hsz.symm, fun i _ hi => ?_⟩
      · rcases hw1 with rfl | rfl <;> rfl
      · rcases hw1 with rfl | rfl <;> rfl
      · rcases hw1 with rfl | rfl <;> rfl
      · simp only [setBlock, Array.getElem?_setIfInBounds]
        rw [if_neg (fun e => hi (by rw [e]))]
        rcases hw1 with rfl | rfl <;> rfl
    · have := run_entry_at (P := P) _ r b clock seen es clock e hset_r hset_b hees h3
      rw [this, hk, hv]
end

section
variable {P : Program} {k : TypeId} {α β : Type} {enc : α → Value} (w : World) {ops : Array Oper} {rest : List Oper} {o : Oper} {a : Act} {Q : Exit → Act → World → Prop}
/-- 'range m', for the walk. -/
theorem wpList_range_is (hg : o.guard = none) (m : Operand) (t : TypeId) (hop : o.op = Op.range t m) (e : TypeId) (ht : P.underlying t = some (.map k e)) (b : Nat) (l : List (α × Value))
    (hm : a.eval m = .map (some b)) (h : MapIs enc w b l)
    (hK : ∀ ob, IterIs enc (w.alloc ob) w.heap.size b l l → wpList P ops Q rest (a.put o.dst (.pointer (some ⟨w.heap.size, 0, none⟩))) (w.alloc ob)) :
    wpList P ops Q (o :: rest) a w := by
  refine wpList_plain hg fun K' hK' => ?_
  obtain ⟨ob, hrun, hi, _⟩ := h.range ht
  unfold Oper.wp
  simp [execOp, hop, hm, hrun, Result.andThen]
  exact hK' _ _ (hK ob hi)
/-- The step, for the walk: the list is given as what 'fk' and 'fv' make of things of one's own. -/
theorem wpList_next_is (hg : o.guard = none) (it : Operand) (hop : o.op = Op.next it false) (fk : β → α) (fv : β → Value) (b r : Nat) (m : List (α × Value)) (left : List β)
    (hit : a.eval it = .pointer (some ⟨r, 0, none⟩)) (h : IterIs enc w r b m (left.map fun q => (fk q, fv q)))
    (hDone : left = [] → wpList P ops Q rest (a.put o.dst (.tuple #[.bool false])) w)
    (hMore : ∀ (q : β) (l1 l2 : List β) (w' : World), left = l1 ++ q :: l2 → IterIs enc w' r b m ((l1 ++ l2).map fun q => (fk q, fv q)) → w.grownBy w' (some r) → w'.heap.size = w.heap.size →
      (Instr.entry (.pointer (some ⟨r, 0, none⟩))).run P w' = .ok (.tuple #[enc (fk q), fv q]) w' → wpList P ops Q rest (a.put o.dst (.tuple #[.bool true, enc (fk q), fv q])) w') :
    wpList P ops Q (o :: rest) a w := by
  refine wpList_plain hg fun K' hK' => ?_
  unfold Oper.wp
  rcases h.next (P := P) o.type with ⟨h0, hrun⟩ | ⟨p, l1, l2, w', hl, hrun, hi, hgr, hsz, hen⟩
  · simp [execOp, hop, hit, hrun, Result.andThen]
    exact hK' _ _ (hDone (by simpa using h0))
  · obtain ⟨m1, m2, rfl, h1, h2⟩ := List.map_eq_append_iff.1 hl
    obtain ⟨q, m3, rfl, hq, h3⟩ := List.map_eq_cons_iff.1 h2
    subst hq h1 h3
    simp [execOp, hop, hit, hrun, Result.andThen]
    exact hK' _ _ (hMore q m1 m3 w' rfl (by rw [List.map_append]; exact hi) hgr hsz hen)
/-- 'm[x] = v', for the walk. -/
theorem wpList_store_is [DecidableEq α] (hg : o.guard = none) (m x v : Operand) (t : TypeId) (hop : o.op = Op.mapUpdate t m x v) (C : KeyC P k enc) (e : TypeId) (ht : P.underlying t = some (.map k e)) (b : Nat) (l : List (α × Value))
    (hm : a.eval m = .map (some b)) (h : MapIs enc w b l) (key : α) (val : Value) (hx : a.eval x = enc key) (hv : a.eval v = val)
    (hK : ∀ w', MapIs enc w' b (mset l key val) → w.grownBy w' (some b) → w'.heap.size = w.heap.size → wpList P ops Q rest (a.put o.dst undef) w') : wpList P ops Q (o :: rest) a w := by
  refine wpList_plain hg fun K' hK' => ?_
  obtain ⟨w', hrun, h1, h2, h3⟩ := h.store C ht key val
  unfold Oper.wp
  simp [execOp, hop, hm, hx, hv, hrun, Result.andThen]
  exact hK' _ _ (hK w' h1 h2 h3)
/-- .. in a region that draws. -/
theorem step_store_is [DecidableEq α] {K : Act → World → Prop} {E : Prop} (hg : o.guard = none) (m x v : Operand) (t : TypeId) (hop : o.op = Op.mapUpdate t m x v) (C : KeyC P k enc) (e : TypeId) (ht : P.underlying t = some (.map k e)) (b : Nat) (l : List (α × Value))
    (hm : a.eval m = .map (some b)) (h : MapIs enc w b l) (key : α) (val : Value) (hx : a.eval x = enc key) (hv : a.eval v = val)
    (hK : ∀ w', MapIs enc w' b (mset l key val) → w.grownBy w' (some b) → w'.heap.size = w.heap.size → K (a.put o.dst undef) w') :
    if Region.wanted o (yielded ops a.tmps) = true then Oper.wp P o a w K Q else E := by
  rw [if_pos (by simp [Region.wanted, hg])]
  obtain ⟨w', hrun, h1, h2, h3⟩ := h.store C ht key val
  unfold Oper.wp
  simp [execOp, hop, hm, hx, hv, hrun, Result.andThen]
  exact hK w' h1 h2 h3
end
end Go.Proofs.YtgigdhfdpabmoaaDoor
