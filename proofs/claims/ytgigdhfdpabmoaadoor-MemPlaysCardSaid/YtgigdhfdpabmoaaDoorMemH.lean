/- What holds of a memory behind any calls: in plain Lean. -/
import Derived.Test.YtgigdhfdpabmoaaDoorMemF
namespace Go.Proofs.YtgigdhfdpabmoaaDoor
open Go.RowKit

structure Inv (n k max : Nat) (ages : List Id3) (ps : List Pc) : Prop where
  nd : ages.Nodup
  ndp : (ps.map (·.id)).Nodup
  mem : ∀ y, y ∈ ages ↔ (pget ps y).isSome = true
  used : usedN ps ≤ max
  len : ages.length ≤ n
  rows : ∀ p ∈ ps, p.rows.length ≤ 64
  pins : ∀ p ∈ ps, p.pins ≤ n
  pin : pinsN ps ≤ k

theorem inv_nil (max : Nat) : Inv 0 0 max [] [] :=
  ⟨List.nodup_nil, List.nodup_nil, fun y => by simp [pget], Nat.zero_le _, Nat.le_refl _, fun p hp => (by cases hp), fun p hp => (by cases hp), Nat.le_refl _⟩

theorem usedN_len (ps : List Pc) : 8 * ps.length ≤ usedN ps := by
  induction ps with
  | nil => exact Nat.le_refl _
  | cons p ps ih => rw [usedN_cons, List.length_cons]; unfold szR; omega

theorem wo_none {l : List Id3} {x : Id3} (h : x ∉ l) : wo l x = l := by
  unfold wo
  rw [List.filter_eq_self]
  intro y hy
  simp only [decide_eq_true_eq]
  rintro rfl
  exact h hy
theorem wo_mem {l : List Id3} {x y : Id3} : y ∈ wo l x ↔ y ∈ l ∧ y ≠ x := by simp [wo]
theorem wo_nodup {l : List Id3} {x : Id3} (h : l.Nodup) : (wo l x ++ [x]).Nodup := by
  rw [List.nodup_append]
  refine ⟨h.filter _, by simp, ?_⟩
  intro a ha b hb
  simp only [List.mem_cons, List.not_mem_nil, or_false] at hb
  subst hb
  exact (wo_mem.1 ha).2
theorem wo_count {l : List Id3} {x : Id3} (h : l.Nodup) (hx : x ∈ l) : (wo l x).length + 1 = l.length := by
  induction l with
  | nil => cases hx
  | cons y l ih =>
    obtain ⟨h1, h2⟩ := List.nodup_cons.1 h
    by_cases e : y = x
    · subst e
      have : wo (y :: l) y = wo l y := by simp [wo]
      rw [this, wo_none h1, List.length_cons]
    · have : wo (y :: l) x = y :: wo l x := by simp [wo, e]
      rw [this, List.length_cons, List.length_cons]
      have := ih h2 (by rcases List.mem_cons.1 hx with e' | h'; exact absurd e'.symm e; exact h')
      omega
theorem rot_len {l : List Id3} {x : Id3} (h : l.Nodup) (hx : x ∈ l) : (wo l x ++ [x]).length = l.length := by
  rw [List.length_append, List.length_singleton, wo_count h hx]
theorem rot_mem {l : List Id3} {x y : Id3} (hx : x ∈ l) : y ∈ wo l x ++ [x] ↔ y ∈ l := by
  rw [List.mem_append, wo_mem, List.mem_singleton]
  constructor
  · rintro (h | rfl)
    · exact h.1
    · exact hx
  · intro h
    by_cases e : y = x
    · exact .inr e
    · exact .inl ⟨h, e⟩

section
variable {n k max : Nat} {ages : List Id3} {ps : List Pc} {x : Id3}
theorem Inv.step (h : Inv n k max ages ps) : Inv (n + 1) k max ages ps := ⟨h.nd, h.ndp, h.mem, h.used, Nat.le_succ_of_le h.len, h.rows, fun p hp => Nat.le_succ_of_le (h.pins p hp), h.pin⟩
theorem Inv.upto {m : Nat} (h : Inv n k max ages ps) (hm : n ≤ m) : Inv m k max ages ps := ⟨h.nd, h.ndp, h.mem, h.used, Nat.le_trans h.len hm, h.rows, fun p hp => Nat.le_trans (h.pins p hp) hm, h.pin⟩
theorem Inv.rot (h : Inv n k max ages ps) (hx : (pget ps x).isSome = true) : Inv (n + 1) k max (wo ages x ++ [x]) ps := by
  have hm := (h.mem x).2 hx
  exact ⟨wo_nodup h.nd, h.ndp, fun y => (rot_mem hm).trans (h.mem y), h.used, by rw [rot_len h.nd hm]; exact Nat.le_succ_of_le h.len, h.rows, fun p hp => Nat.le_succ_of_le (h.pins p hp), h.pin⟩

theorem pget_setPins (ps : List Pc) (x y : Id3) (m : Nat) : (pget (setPins ps x m) y).isSome = (pget ps y).isSome := by
  unfold pget setPins
  rw [List.find?_map, Option.isSome_map]
  congr 2
  funext q
  simp only [Function.comp_apply]
  split <;> rfl
theorem usedN_setPins (ps : List Pc) (x : Id3) (m : Nat) : usedN (setPins ps x m) = usedN ps := by
  induction ps with
  | nil => rfl
  | cons q ps ih =>
    have : setPins (q :: ps) x m = (if q.id = x then { q with pins := m } else q) :: setPins ps x m := rfl
    rw [this, usedN_cons, usedN_cons, ih]
    split <;> rfl
theorem setPins_ids (ps : List Pc) (x : Id3) (m : Nat) : (setPins ps x m).map (·.id) = ps.map (·.id) := by
  unfold setPins
  rw [List.map_map]
  refine List.map_congr_left fun q _ => ?_
  simp only [Function.comp_def]
  split <;> rfl
theorem pinsN_setPins {ps : List Pc} (x : Id3) (m : Nat) (hn : (ps.map (·.id)).Nodup) : pinsN (setPins ps x m) ≤ pinsN ps + 1 := by
  induction ps with
  | nil => simp [setPins, pinsN]
  | cons q ps ih =>
    have h2 : setPins (q :: ps) x m = (if q.id = x then { q with pins := m } else q) :: setPins ps x m := rfl
    rw [List.map_cons, List.nodup_cons] at hn
    rw [h2]
    by_cases e : q.id = x
    · have h3 : setPins ps x m = ps := by
        unfold setPins
        conv => rhs; rw [← List.map_id ps]
        refine List.map_congr_left fun r hr => ?_
        rw [if_neg]
        · rfl
        · rintro rfl
          exact hn.1 (by rw [e]; exact List.mem_map_of_mem hr)
      rw [if_pos e, h3, pinsN_cons, pinsN_cons]
      split <;> split <;> omega
    · rw [if_neg e, pinsN_cons, pinsN_cons]
      have := ih hn.2
      omega
theorem setPins_mem {ps : List Pc} {x : Id3} {m : Nat} {p : Pc} (h : p ∈ setPins ps x m) : ∃ q ∈ ps, p.rows = q.rows ∧ (p.pins = m ∨ p.pins = q.pins) := by
  unfold setPins at h
  obtain ⟨q, hq, rfl⟩ := List.mem_map.1 h
  refine ⟨q, hq, ?_⟩
  split
  · exact ⟨rfl, .inl rfl⟩
  · exact ⟨rfl, .inr rfl⟩
theorem Inv.pinned (h : Inv n k max ages ps) {p : Pc} (hp : pget ps x = some p) : Inv (n + 1) (k + 1) max (wo ages x ++ [x]) (setPins ps x (p.pins + 1)) := by
  have hs : (pget ps x).isSome = true := by rw [hp]; rfl
  have hm := (h.mem x).2 hs
  have hpm := (pget_mem hp).1
  refine ⟨wo_nodup h.nd, by rw [setPins_ids]; exact h.ndp, fun y => by rw [pget_setPins]; exact (rot_mem hm).trans (h.mem y), by rw [usedN_setPins]; exact h.used, by rw [rot_len h.nd hm]; exact Nat.le_succ_of_le h.len, fun q hq => ?_, fun q hq => ?_, ?_⟩
  · obtain ⟨r, hr, e, _⟩ := setPins_mem hq
    rw [e]; exact h.rows r hr
  · obtain ⟨r, hr, _, e | e⟩ := setPins_mem hq
    · rw [e]; exact Nat.succ_le_succ (h.pins p hpm)
    · rw [e]; exact Nat.le_succ_of_le (h.pins r hr)
  · have := pinsN_setPins x (p.pins + 1) h.ndp
    have := h.pin
    omega
end

/-! ### throwing out -/
theorem usedN_filter (ps : List Pc) (f : Pc → Bool) : usedN (ps.filter f) ≤ usedN ps := by
  induction ps with
  | nil => exact Nat.le_refl _
  | cons p ps ih => rw [List.filter_cons, usedN_cons]; split <;> (try rw [usedN_cons]) <;> omega
theorem pget_of_mem {ps : List Pc} (hn : (ps.map (·.id)).Nodup) {p : Pc} (hp : p ∈ ps) : pget ps p.id = some p := by
  unfold pget
  induction ps with
  | nil => cases hp
  | cons q ps ih =>
    rw [List.map_cons, List.nodup_cons] at hn
    rcases List.mem_cons.1 hp with rfl | h
    · simp
    · have : q.id ≠ p.id := fun e => hn.1 (by rw [e]; exact List.mem_map_of_mem h)
      rw [List.find?_cons_of_neg (by simpa using this)]
      exact ih hn.2 h
theorem pinned_drop {ps : List Pc} {y : Id3} (h : ∀ p ∈ ps, p.id = y → p.pins = 0) : pinnedN (dropPs ps y) = pinnedN ps ∧ pinsN (dropPs ps y) = pinsN ps := by
  induction ps with
  | nil => exact ⟨rfl, rfl⟩
  | cons p ps ih =>
    have ih' := ih fun q hq => h q (List.mem_cons_of_mem _ hq)
    by_cases e : p.id = y
    · have h0 := h p (by simp) e
      have : dropPs (p :: ps) y = dropPs ps y := by simp [dropPs, e]
      rw [this, pinnedN_cons, pinsN_cons, h0]
      exact ⟨by rw [ih'.1]; simp, by rw [ih'.2]; simp⟩
    · have : dropPs (p :: ps) y = p :: dropPs ps y := by simp [dropPs, e]
      rw [this, pinnedN_cons, pinsN_cons, pinnedN_cons, pinsN_cons, ih'.1, ih'.2]
      exact ⟨rfl, rfl⟩
theorem usedN_pinned {ps : List Pc} (h : ∀ p ∈ ps, 0 < p.pins) : usedN ps = pinnedN ps := by
  unfold pinnedN
  rw [List.filter_eq_self.2]
  intro p hp
  simpa using h p hp

/-- What throwing out leaves. -/
structure Evd (max size : Nat) (ages : List Id3) (ps : List Pc) (r : List Id3 × List Pc) : Prop where
  sub : r.1.Sublist ages
  subp : r.2.Sublist ps
  mem : ∀ y, y ∈ r.1 ↔ (pget r.2 y).isSome = true
  pins : pinsN r.2 = pinsN ps
  fits : usedN r.2 + size ≤ max
theorem evict_is (max size : Nat) : ∀ (l ages : List Id3) (ps : List Pc), ages.Nodup → (ps.map (·.id)).Nodup → (∀ y, y ∈ ages ↔ (pget ps y).isSome = true) → (∀ p ∈ ps, p.pins = 0 → p.id ∈ l) → size + pinnedN ps ≤ max → Evd max size ages ps (evict max size l ages ps)
  | [], ages, ps, _, _, hm, hl, hf => by
    unfold evict
    refine ⟨List.Sublist.refl _, List.Sublist.refl _, hm, rfl, ?_⟩
    show usedN ps + size ≤ max
    rw [usedN_pinned (fun p hp => by rcases Nat.eq_zero_or_pos p.pins with h | h; exact absurd (hl p hp h) (by simp); exact h)]
    omega
  | y :: l, ages, ps, hn, hnp, hm, hl, hf => by
    unfold evict
    split
    · next h => exact ⟨List.Sublist.refl _, List.Sublist.refl _, hm, rfl, h⟩
    · split
      · next h0 =>
        have hp0 : ∀ p ∈ ps, p.id = y → p.pins = 0 := by
          intro p hp e
          subst e
          rw [pget_of_mem hnp hp] at h0
          simpa using h0
        have hd := pinned_drop hp0
        have hr := evict_is max size l (wo ages y) (dropPs ps y) (hn.filter _) (List.Nodup.sublist (List.Sublist.map _ List.filter_sublist) hnp) (fun z => ?_) (fun p hp h => ?_) (by rw [hd.1]; exact hf)
        · exact ⟨hr.sub.trans List.filter_sublist, hr.subp.trans List.filter_sublist, hr.mem, hr.pins.trans hd.2, hr.fits⟩
        · rw [wo_mem]
          by_cases e : z = y
          · subst e
            have : pget (dropPs ps z) z = none := by rw [pget_none_iff]; intro p hp; simpa using (List.mem_filter.1 hp).2
            rw [this]
            simp
          · rw [pget_drop_ne e, hm z]
            simp [e]
        · have h1 := List.mem_filter.1 hp
          have h2 := hl p h1.1 h
          rcases List.mem_cons.1 h2 with h3 | h3
          · exact absurd h3 (by simpa using h1.2)
          · exact h3
      · next h0 =>
        refine evict_is max size l ages ps hn hnp hm (fun p hp h => ?_) hf
        rcases List.mem_cons.1 (hl p hp h) with h3 | h3
        · rw [← h3, pget_of_mem hnp hp] at h0
          simp [h] at h0
        · exact h3

theorem sub_eq {α : Type} {r l : List α} (h : r.Sublist l) : l.Nodup → (∀ p ∈ l, p ∈ r) → r = l := by
  induction h with
  | slnil => intro _ _; rfl
  | cons a h ih =>
    intro hn ha
    exact absurd (h.mem (ha a (by simp))) (List.nodup_cons.1 hn).1
  | cons_cons a h ih =>
    intro hn ha
    obtain ⟨h1, h2⟩ := List.nodup_cons.1 hn
    rw [ih h2 fun p hp => ?_]
    rcases List.mem_cons.1 (ha p (List.mem_cons_of_mem _ hp)) with rfl | h3
    · exact absurd hp h1
    · exact h3

section
variable {n k max : Nat} {ages : List Id3} {ps : List Pc} {x : Id3} {l : List Rw}
theorem Inv.evd (h : Inv n k max ages ps) (hf : szR l + pinnedN ps ≤ max) : Evd max (szR l) ages ps (evict max (szR l) ages ages ps) := by
  refine evict_is max (szR l) ages ages ps h.nd h.ndp h.mem (fun p hp _ => ?_) hf
  rw [h.mem, pget_of_mem h.ndp hp]; rfl
theorem pget_app {ps : List Pc} {q : Pc} (y : Id3) : (pget (ps ++ [q]) y).isSome = true ↔ (pget ps y).isSome = true ∨ y = q.id := by
  unfold pget
  rw [List.find?_append, Option.isSome_or]
  by_cases e : q.id = y
  · simp [e]
  · have : ¬ y = q.id := fun h => e h.symm
    simp [e, this]
theorem evd_none {r : List Id3 × List Pc} {max size : Nat} (h : Inv n k max ages ps) (hx : (pget ps x).isSome = false) (he : Evd max size ages ps r) : x ∉ r.1 := by
  intro hm
  have := (h.mem x).1 (he.sub.mem hm)
  rw [hx] at this
  cases this
theorem Inv.put (h : Inv n k max ages ps) (hx : (pget ps x).isSome = false) (hl : l.length ≤ 64) {r : List Id3 × List Pc} (he : Evd max (szR l) ages ps r) {q : Pc} (hq : q.id = x) (hr : q.rows = l) (hp : q.pins = 0) :
    Inv (n + 1) k max (wo r.1 x ++ [x]) (r.2 ++ [q]) := by
  have hxn := evd_none h hx he
  have hw := wo_none hxn
  have hidn : x ∉ r.2.map (·.id) := by
    intro hm
    obtain ⟨p, hp, e⟩ := List.mem_map.1 hm
    have := (he.mem p.id).2 (by
      have hnd : (r.2.map (·.id)).Nodup := List.Nodup.sublist (List.Sublist.map _ he.subp) h.ndp
      rw [pget_of_mem hnd hp]; rfl)
    rw [e] at this
    exact hxn this
  refine ⟨wo_nodup (h.nd.sublist he.sub), ?_, fun y => ?_, ?_, ?_, fun p hp' => ?_, fun p hp' => ?_, ?_⟩
  · rw [List.map_append, List.nodup_append]
    refine ⟨List.Nodup.sublist (List.Sublist.map _ he.subp) h.ndp, by simp, ?_⟩
    intro a ha b hb
    simp only [List.map_cons, List.map_nil, List.mem_cons, List.not_mem_nil, or_false] at hb
    rw [hb, hq]
    rintro rfl
    exact hidn ha
  · rw [hw, pget_app, hq, ← he.mem, List.mem_append, List.mem_singleton]
  · rw [usedN_append, usedN_cons, usedN_nil, hr]
    have := he.fits
    omega
  · rw [hw, List.length_append, List.length_singleton]
    have := he.sub.length_le
    have := h.len
    omega
  · rcases List.mem_append.1 hp' with h1 | h1
    · exact h.rows p (he.subp.mem h1)
    · rw [List.mem_singleton] at h1; rw [h1, hr]; exact hl
  · rcases List.mem_append.1 hp' with h1 | h1
    · exact Nat.le_succ_of_le (h.pins p (he.subp.mem h1))
    · rw [List.mem_singleton] at h1; rw [h1, hp]; exact Nat.zero_le _
  · rw [pinsN_append, pinsN_cons, he.pins, hp]
    have := h.pin
    simpa [pinsN] using this
theorem evict_full (h : Inv n k max ages ps) (hf : szR l + pinnedN ps ≤ max) : (evict max (szR l) ages ages ps).1.length = ages.length ↔ usedN ps + szR l ≤ max := by
  have he := h.evd hf
  constructor
  · intro hlen
    have e1 := he.sub.eq_of_length hlen
    have hall : ∀ p ∈ ps, p ∈ (evict max (szR l) ages ages ps).2 := by
      intro p hp
      have hm : p.id ∈ ages := by rw [h.mem, pget_of_mem h.ndp hp]; rfl
      rw [← e1, he.mem] at hm
      obtain ⟨q, hq⟩ := Option.isSome_iff_exists.1 hm
      obtain ⟨hq1, hq2⟩ := pget_mem hq
      have := nodup_inj h.ndp (he.subp.mem hq1) hp hq2
      rw [← this]; exact hq1
    have e2 : (evict max (szR l) ages ages ps).2 = ps := by
      have hnd : ps.Nodup := List.Pairwise.of_map _ (fun a b hab e => hab (by rw [e])) h.ndp
      exact sub_eq he.subp hnd hall
    have := he.fits
    rw [e2] at this
    exact this
  · intro hu
    cases ages with
    | nil => rfl
    | cons y t => unfold evict; rw [if_pos hu]
end
end Go.Proofs.YtgigdhfdpabmoaaDoor
