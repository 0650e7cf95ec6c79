/- The program's memory and the document's side by side, in plain Lean: the same pieces, the same order of age; throwing out on both sides; the sorted lists. -/
import Derived.Test.YtgigdhfdpabmoaaDoorRefD
import Derived.Test.YtgigdhfdpabmoaaDoorMemH
namespace Go.Proofs.YtgigdhfdpabmoaaDoor
open Go.RowKit Go.Sort

def rcQ (c : Rc) : Id3 × List Rw × Nat := (c.id, c.rows, c.pins)
def pcQ (p : Pc) : Id3 × List Rw × Nat := (p.id, p.rows, p.pins)
structure Sim (ages : List Id3) (ps : List Pc) (l : List Rc) : Prop where
  ages : ages = l.map (·.id)
  has : ∀ c ∈ l, ∃ p, pget ps c.id = some p ∧ p.rows = c.rows ∧ p.pins = c.pins

theorem split_at_ {α : Type} {l : List α} {i : Nat} {y : α} (h : l[i]? = some y) : l = l.take i ++ y :: l.drop (i + 1) := by
  obtain ⟨hi, rfl⟩ := List.getElem?_eq_some_iff.1 h
  rw [← List.drop_eq_getElem_cons hi, List.take_append_drop]
theorem wo_append (a b : List Id3) (x : Id3) : wo (a ++ b) x = wo a x ++ wo b x := by simp [wo]
theorem cut_app (pre post : List Rc) (y : Rc) : cut (pre ++ y :: post) pre.length = pre ++ post := by
  unfold cut
  rw [List.take_left, List.drop_append]
  simp
section
variable {l : List Rc} {i : Nat} {y : Rc} {ages : List Id3} {ps : List Pc} {n k max : Nat}
theorem cut_ids (h : l[i]? = some y) (hn : (l.map (·.id)).Nodup) : (cut l i).map (·.id) = wo (l.map (·.id)) y.id := by
  obtain ⟨pre, post, rfl, rfl⟩ : ∃ pre post, l = pre ++ y :: post ∧ i = pre.length := ⟨l.take i, l.drop (i + 1), split_at_ h, by
    have := (List.getElem?_eq_some_iff.1 h).1
    rw [List.length_take]; omega⟩
  rw [cut_app, List.map_append, List.map_append, List.map_cons, wo_append]
  rw [List.map_append, List.map_cons, List.nodup_append, List.nodup_cons] at hn
  obtain ⟨_, ⟨h2, _⟩, h3⟩ := hn
  rw [wo_none (fun hm => h3 _ hm _ (List.mem_cons_self ..) rfl)]
  have e2 : wo (y.id :: post.map (·.id)) y.id = wo (post.map (·.id)) y.id := by simp [wo]
  rw [e2, wo_none h2]
theorem cut_mem (h : l[i]? = some y) (hn : (l.map (·.id)).Nodup) {c : Rc} (hc : c ∈ cut l i) : c ∈ l ∧ c.id ≠ y.id := by
  have h1 : c.id ∈ wo (l.map (·.id)) y.id := by rw [← cut_ids h hn]; exact List.mem_map_of_mem hc
  refine ⟨?_, (wo_mem.1 h1).2⟩
  rcases List.mem_append.1 hc with h | h
  · exact List.mem_of_mem_take h
  · exact List.mem_of_mem_drop h
theorem cut_sub (l : List Rc) (i : Nat) : (cut l i).Sublist l := by
  have h : (l.take i ++ l.drop (i + 1)).Sublist (l.take i ++ l.drop i) := List.Sublist.append_left (List.drop_sublist_drop_left l (Nat.le_succ i)) _
  rw [List.take_append_drop] at h
  exact h
theorem cut_len (h : i < l.length) : (cut l i).length + 1 = l.length := by simp [cut]; omega
theorem Sim.nd (h : Sim ages ps l) (hn : ages.Nodup) : (l.map (·.id)).Nodup := h.ages ▸ hn
theorem Sim.get (h : Sim ages ps l) (hy : l[i]? = some y) : ∃ p, pget ps y.id = some p ∧ p.rows = y.rows ∧ p.pins = y.pins := h.has y (List.mem_of_getElem? hy)
theorem Sim.noneOf (h : Sim ages ps l) (hm : ∀ y, y ∈ ages ↔ (pget ps y).isSome = true) {x : Id3} (hx : ∀ c ∈ l, c.id ≠ x) : pget ps x = none := by
  cases hp : pget ps x with
  | none => rfl
  | some p =>
    have h1 := (hm x).2 (by rw [hp]; rfl)
    rw [h.ages] at h1
    obtain ⟨c, hc, he⟩ := List.mem_map.1 h1
    exact absurd he (hx c hc)
theorem Sim.rot (h : Sim ages ps l) (hn : ages.Nodup) (hy : l[i]? = some y) : Sim (wo ages y.id ++ [y.id]) ps (cut l i ++ [y]) :=
  ⟨by rw [h.ages, List.map_append, cut_ids hy (h.nd hn)]; rfl, fun c hc => by
    rcases List.mem_append.1 hc with h1 | h1
    · exact h.has c (cut_mem hy (h.nd hn) h1).1
    · rw [List.mem_singleton] at h1; rw [h1]; exact h.get hy⟩
theorem Sim.pin (h : Sim ages ps l) (hn : ages.Nodup) (hy : l[i]? = some y) (m : Nat) : Sim (wo ages y.id ++ [y.id]) (setPins ps y.id m) (cut l i ++ [{ y with pins := m }]) :=
  ⟨by rw [h.ages, List.map_append, cut_ids hy (h.nd hn)]; rfl, fun c hc => by
    rw [pget_setPins_eq]
    rcases List.mem_append.1 hc with h1 | h1
    · obtain ⟨hc1, hc2⟩ := cut_mem hy (h.nd hn) h1
      obtain ⟨p, hp, hr⟩ := h.has c hc1
      have hid := (pget_mem hp).2
      rw [hp]
      exact ⟨p, by simp [hid, hc2], hr⟩
    · rw [List.mem_singleton] at h1
      subst h1
      obtain ⟨p, hp, hr, _⟩ := h.get hy
      have hid := (pget_mem hp).2
      show ∃ p, Option.map _ (pget ps y.id) = some p ∧ _
      rw [hp]
      exact ⟨{ p with pins := m }, by simp [hid], hr, rfl⟩⟩
theorem Sim.unpin (h : Sim ages ps l) (hn : ages.Nodup) (hy : l[i]? = some y) (m : Nat) : Sim ages (setPins ps y.id m) (l.set i { y with pins := m }) := by
  have hnd := h.nd hn
  have hi := (List.getElem?_eq_some_iff.1 hy).1
  have hset : l.set i { y with pins := m } = l.take i ++ { y with pins := m } :: l.drop (i + 1) := by
    rw [List.set_eq_take_append_cons_drop, if_pos hi]
  refine ⟨?_, fun c hc => ?_⟩
  · rw [h.ages, hset]
    conv => lhs; rw [split_at_ hy]
    simp
  · rw [hset] at hc
    rw [pget_setPins_eq]
    have hcc : c ∈ cut l i ∨ c = { y with pins := m } := by
      rcases List.mem_append.1 hc with h1 | h1
      · exact .inl (List.mem_append.2 (.inl h1))
      · rcases List.mem_cons.1 h1 with h2 | h2
        · exact .inr h2
        · exact .inl (List.mem_append.2 (.inr h2))
    rcases hcc with h1 | h1
    · obtain ⟨hc1, hc2⟩ := cut_mem hy hnd h1
      obtain ⟨p, hp, hr⟩ := h.has c hc1
      have hid := (pget_mem hp).2
      rw [hp]
      exact ⟨p, by simp [hid, hc2], hr⟩
    · subst h1
      obtain ⟨p, hp, hr, _⟩ := h.get hy
      have hid := (pget_mem hp).2
      show ∃ p, Option.map _ (pget ps y.id) = some p ∧ _
      rw [hp]
      exact ⟨{ p with pins := m }, by simp [hid], hr, rfl⟩
theorem Sim.drop (h : Sim ages ps l) (hn : ages.Nodup) (hy : l[i]? = some y) : Sim (wo ages y.id) (dropPs ps y.id) (cut l i) :=
  ⟨by rw [h.ages, cut_ids hy (h.nd hn)], fun c hc => by
    obtain ⟨hc1, hc2⟩ := cut_mem hy (h.nd hn) hc
    rw [pget_drop_ne hc2]
    exact h.has c hc1⟩
theorem Sim.nil : Sim [] [] [] := ⟨rfl, fun _ h => by cases h⟩
theorem Sim.put (h : Sim ages ps l) {q : Pc} {c : Rc} (hx : c.id ∉ ages) (hm : ∀ y, y ∈ ages ↔ (pget ps y).isSome = true) (hq : q.id = c.id) (hr : q.rows = c.rows) (hp : q.pins = c.pins) : Sim (wo ages c.id ++ [c.id]) (ps ++ [q]) (l ++ [c]) := by
  have hnone : pget ps c.id = none := by
    cases hp : pget ps c.id with
    | none => rfl
    | some p => exact absurd ((hm _).2 (by rw [hp]; rfl)) hx
  refine ⟨by rw [wo_none hx, h.ages, List.map_append]; rfl, fun d hd => ?_⟩
  unfold pget
  rw [List.find?_append]
  rcases List.mem_append.1 hd with h1 | h1
  · obtain ⟨p, hp, hr⟩ := h.has d h1
    unfold pget at hp
    rw [hp]
    exact ⟨p, rfl, hr⟩
  · rw [List.mem_singleton] at h1
    subst h1
    unfold pget at hnone
    rw [hnone]
    exact ⟨q, by simp [hq], hr, hp⟩
theorem Sim.perm (h : Sim ages ps l) (hn : ages.Nodup) (hnp : (ps.map (·.id)).Nodup) (hm : ∀ y, y ∈ ages ↔ (pget ps y).isSome = true) : (ps.map pcQ).Perm (l.map rcQ) := by
  have n1 : (ps.map pcQ).Nodup := by
    have h1 : ((ps.map pcQ).map Prod.fst).Nodup := by rw [List.map_map]; exact hnp
    exact List.Pairwise.of_map _ (fun a b hab e => hab (by rw [e])) h1
  have n2 : (l.map rcQ).Nodup := by
    have h1 : ((l.map rcQ).map Prod.fst).Nodup := by rw [List.map_map]; exact h.nd hn
    exact List.Pairwise.of_map _ (fun a b hab e => hab (by rw [e])) h1
  rw [List.perm_ext_iff_of_nodup n1 n2]
  intro t
  constructor
  · intro ht
    obtain ⟨p, hp, rfl⟩ := List.mem_map.1 ht
    have h1 := pget_of_mem hnp hp
    have h2 := (hm p.id).2 (by rw [h1]; rfl)
    rw [h.ages] at h2
    obtain ⟨c, hc, he⟩ := List.mem_map.1 h2
    obtain ⟨p', hp', hr, hpn⟩ := h.has c hc
    rw [he, h1] at hp'
    cases hp'
    exact List.mem_map.2 ⟨c, hc, by unfold rcQ pcQ; rw [he, hr, hpn]⟩
  · intro ht
    obtain ⟨c, hc, rfl⟩ := List.mem_map.1 ht
    obtain ⟨p, hp, hr, hpn⟩ := h.has c hc
    obtain ⟨hm1, hid⟩ := pget_mem hp
    exact List.mem_map.2 ⟨p, hm1, by unfold rcQ pcQ; rw [hid, hr, hpn]⟩

/-! ### sums -/
def usedR (l : List Rc) : Nat := usedT (l.map rcT)
def pinnedR (l : List Rc) : Nat := usedR (l.filter fun c => decide (0 < c.pins))
theorem usedR_append (a b : List Rc) : usedR (a ++ b) = usedR a + usedR b := by unfold usedR; rw [List.map_append, usedT_append]
theorem usedR_cons (c : Rc) (l : List Rc) : usedR (c :: l) = szR c.rows + usedR l := by simp [usedR, usedT, rcT]
theorem pinnedR_append (a b : List Rc) : pinnedR (a ++ b) = pinnedR a + pinnedR b := by unfold pinnedR; rw [List.filter_append, usedR_append]
theorem pinnedR_cons (c : Rc) (l : List Rc) : pinnedR (c :: l) = (if 0 < c.pins then szR c.rows else 0) + pinnedR l := by
  unfold pinnedR
  by_cases h : 0 < c.pins
  · rw [List.filter_cons_of_pos (by simpa using h), usedR_cons, if_pos h]
  · rw [List.filter_cons_of_neg (by simpa using h), if_neg h]; omega
theorem pinnedR_all {l : List Rc} (h : ∀ c ∈ l, 0 < c.pins) : pinnedR l = usedR l := by
  unfold pinnedR
  rw [List.filter_eq_self.2]
  intro c hc
  simpa using h c hc
theorem pinnedR_le (l : List Rc) : pinnedR l ≤ usedR l := by
  induction l with
  | nil => exact Nat.le_refl _
  | cons c l ih => rw [pinnedR_cons, usedR_cons]; split <;> omega
def qT (t : Id3 × List Rw × Nat) : Id3 × List Rw := (t.1, t.2.1)
theorem Sim.permT (h : Sim ages ps l) (hn : ages.Nodup) (hnp : (ps.map (·.id)).Nodup) (hm : ∀ y, y ∈ ages ↔ (pget ps y).isSome = true) : (ps.map pcT).Perm (l.map rcT) := by
  have := (h.perm hn hnp hm).map qT
  rw [List.map_map, List.map_map] at this
  exact this
theorem Sim.used (h : Sim ages ps l) (hn : ages.Nodup) (hnp : (ps.map (·.id)).Nodup) (hm : ∀ y, y ∈ ages ↔ (pget ps y).isSome = true) : usedN ps = usedR l := by
  rw [usedN_T]
  exact usedT_perm (h.permT hn hnp hm)
theorem Sim.pinsN (h : Sim ages ps l) (hn : ages.Nodup) (hnp : (ps.map (·.id)).Nodup) (hm : ∀ y, y ∈ ages ↔ (pget ps y).isSome = true) : pinsN ps = pinsR l := by
  have h1 := ((h.perm hn hnp hm).filter fun t => decide (0 < t.2.2)).length_eq
  rw [List.filter_map, List.filter_map, List.length_map, List.length_map] at h1
  exact h1
theorem Sim.pinnedN (h : Sim ages ps l) (hn : ages.Nodup) (hnp : (ps.map (·.id)).Nodup) (hm : ∀ y, y ∈ ages ↔ (pget ps y).isSome = true) : pinnedN ps = pinnedR l := by
  have h1 := ((h.perm hn hnp hm).filter fun t => decide (0 < t.2.2)).map qT
  rw [List.filter_map, List.filter_map, List.map_map, List.map_map] at h1
  unfold Go.Proofs.YtgigdhfdpabmoaaDoor.pinnedN pinnedR usedR
  rw [usedN_T]
  exact usedT_perm h1
end

/-! ### throwing out, as the document does it -/
inductive Rev (max n : Nat) : List Rc → List Rc → Prop
  | stop (l : List Rc) : usedR l + n ≤ max → Rev max n l l
  | go (l : List Rc) (k : Nat) (y : Rc) (r : List Rc) : ¬ usedR l + n ≤ max → l[k]? = some y → y.pins = 0 → (∀ j c, j < k → l[j]? = some c → 0 < c.pins) → Rev max n (cut l k) r → Rev max n l r
theorem Rev.sub {max n : Nat} {l r : List Rc} (h : Rev max n l r) : r.Sublist l := by
  induction h with
  | stop l _ => exact List.Sublist.refl _
  | go l k y r _ _ _ _ _ ih => exact ih.trans (cut_sub l k)
theorem Rev.fits {max n : Nat} {l r : List Rc} (h : Rev max n l r) : usedR r + n ≤ max := by
  induction h with
  | stop l h => exact h
  | go l k y r _ _ _ _ _ ih => exact ih
theorem first_free {max n : Nat} {l : List Rc} (h : ¬ usedR l + n ≤ max) (hf : n + pinnedR l ≤ max) : ∃ c ∈ l, c.pins = 0 := by
  refine Classical.byContradiction fun hno => h ?_
  rw [← pinnedR_all (l := l) fun c hc => ?_]
  · omega
  · rcases Nat.eq_zero_or_pos c.pins with h0 | h0
    · exact absurd ⟨c, hc, h0⟩ hno
    · exact h0
theorem evict_sim (max n : Nat) : ∀ (post pre : List Rc) (ps : List Pc) (r : List Rc), ((pre ++ post).map (·.id)).Nodup → (ps.map (·.id)).Nodup → (∀ y, y ∈ (pre ++ post).map (·.id) ↔ (pget ps y).isSome = true) → Sim ((pre ++ post).map (·.id)) ps (pre ++ post) →
    (∀ c ∈ pre, 0 < c.pins) → n + pinnedR (pre ++ post) ≤ max → Rev max n (pre ++ post) r → Sim (evict max n (post.map (·.id)) ((pre ++ post).map (·.id)) ps).1 (evict max n (post.map (·.id)) ((pre ++ post).map (·.id)) ps).2 r
  | [], pre, ps, r, hn, hnp, hm, hs, hp, hf, hr => by
    have hfit : usedR (pre ++ []) + n ≤ max := by
      rw [List.append_nil] at hf ⊢
      rw [pinnedR_all hp] at hf
      omega
    cases hr with
    | stop _ _ => exact hs
    | go _ k y r h1 _ _ _ _ => exact absurd hfit h1
  | c :: post, pre, ps, r, hn, hnp, hm, hs, hp, hf, hr => by
    have hu := hs.used hn hnp hm
    rw [List.map_cons]
    unfold evict
    rw [hu]
    cases hr with
    | stop _ hfit => rw [if_pos hfit]; exact hs
    | go _ k y r h1 hy hy0 hpre hr' =>
      rw [if_neg h1]
      obtain ⟨p, hpg, _, hpp⟩ := hs.has c (by simp)
      rw [hpg]
      simp only [Option.map_some, Option.getD_some, hpp]
      by_cases hc : c.pins = 0
      · rw [if_pos hc]
        have hk : k = pre.length := by
          rcases Nat.lt_trichotomy k pre.length with hlt | heq | hgt
          · rw [List.getElem?_append_left hlt] at hy
            have := hp y (List.mem_of_getElem? hy)
            omega
          · exact heq
          · have := hpre pre.length c hgt (by simp)
            omega
        subst hk
        have hyc : y = c := by simpa using hy.symm
        subst hyc
        have hcut := cut_app pre post y
        rw [hcut] at hr'
        have hi : (pre ++ y :: post)[pre.length]? = some y := by simp
        have hw : wo ((pre ++ y :: post).map (·.id)) y.id = (pre ++ post).map (·.id) := by rw [← cut_ids hi hn, hcut]
        have hs' := hs.drop hn hi
        rw [hw, hcut] at hs'
        rw [hw]
        refine evict_sim max n post pre (dropPs ps y.id) r ?_ ?_ ?_ hs' hp ?_ hr'
        · rw [← hw]; exact hn.filter _
        · exact List.Nodup.sublist (List.Sublist.map _ List.filter_sublist) hnp
        · intro z
          rw [← hw, wo_mem, hm]
          by_cases e : z = y.id
          · subst e
            have : pget (dropPs ps y.id) y.id = none := by rw [pget_none_iff]; intro p hp; simpa using (List.mem_filter.1 hp).2
            rw [this]
            simp
          · rw [pget_drop_ne e]
            simp [e]
        · rw [pinnedR_append] at hf ⊢
          rw [pinnedR_cons, if_neg (by omega)] at hf
          omega
      · rw [if_neg hc]
        have he : pre ++ c :: post = (pre ++ [c]) ++ post := by simp
        rw [he] at hn hm hs hf hr' ⊢
        refine evict_sim max n post (pre ++ [c]) ps r hn hnp hm hs ?_ hf ?_
        · intro d hd
          rcases List.mem_append.1 hd with h | h
          · exact hp d h
          · rw [List.mem_singleton] at h; rw [h]; omega
        · rw [he] at h1 hy hpre
          exact Rev.go _ k y r h1 hy hy0 hpre hr'
theorem evict_sim0 {max n : Nat} {l r : List Rc} {ages : List Id3} {ps : List Pc} (hs : Sim ages ps l) (hn : ages.Nodup) (hnp : (ps.map (·.id)).Nodup) (hm : ∀ y, y ∈ ages ↔ (pget ps y).isSome = true) (hf : n + pinnedR l ≤ max) (hr : Rev max n l r) :
    Sim (evict max n ages ages ps).1 (evict max n ages ages ps).2 r := by
  have h := hs.ages
  subst h
  exact evict_sim max n l [] ps r hn hnp hm hs (fun _ h => by cases h) hf hr

/-! ### one sorted list -/
theorem bef_trans {x y z : Id3} (h1 : bef x y = true) (h2 : bef y z = true) : bef x z = true := by
  cases x; cases y; cases z
  simp only [bef] at h1 h2 ⊢
  split at h1 <;> split at h2 <;> (try split at h1) <;> (try split at h2) <;> simp only [decide_eq_true_eq] at h1 h2 <;> (split <;> (try split)) <;> simp only [decide_eq_true_eq] <;> omega
theorem bef_irr (x : Id3) : bef x x = false := by simp [bef]
theorem bef_asym {x y : Id3} (h : bef x y = true) : bef y x = false := by
  cases h2 : bef y x with
  | false => rfl
  | true =>
    have := bef_trans h h2
    rw [bef_irr] at this
    cases this
theorem sorted_eq {a b : List (Id3 × List Rw)} (hp : a.Perm b) (hn : (a.map Prod.fst).Nodup) (ha : a.Pairwise fun x y => bef y.1 x.1 = false) (hb : b.Pairwise fun x y => bef y.1 x.1 = false) : a = b := by
  have hnb : (b.map Prod.fst).Nodup := (hp.map Prod.fst).nodup_iff.1 hn
  have sa : a.Pairwise fun x y => bef x.1 y.1 = true := by
    have h1 : a.Pairwise fun x y => x.1 ≠ y.1 := List.pairwise_map.1 hn
    exact (ha.and h1).imp fun h => bef_total h.2 h.1
  have sb : b.Pairwise fun x y => bef x.1 y.1 = true := by
    have h1 : b.Pairwise fun x y => x.1 ≠ y.1 := List.pairwise_map.1 hnb
    exact (hb.and h1).imp fun h => bef_total h.2 h.1
  refine List.Perm.eq_of_pairwise (fun x y _ _ h1 h2 => ?_) sa sb hp
  have := bef_asym h1
  rw [h2] at this
  cases this
end Go.Proofs.YtgigdhfdpabmoaaDoor
