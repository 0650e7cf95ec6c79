/- The program's memory and the document's together, in the heap: what keeps both; what an error's place is. -/
import Derived.Test.YtgigdhfdpabmoaaDoorRefG
import Derived.Test.YtgigdhfdpabmoaaDoorMemI
namespace Go.Proofs.YtgigdhfdpabmoaaDoor
open Go.RowKit Go.Sort
attribute [local go_sem high] id_eqI

theorem MemAt.chgR {B : Nat} {w w' : World} {mb pb : Nat} {A : Option Addr} {cap : Nat} {max : Int} {ages : List Id3} {ps : List Pc} (h : MemAt B w mb pb A cap max ages ps) (hc : Chg muR B w w') : MemAt B w' mb pb A cap max ages ps where
  bm := h.bm
  bp := h.bp
  blk := h.blk.chg hc (.inr rfl)
  cap := h.cap
  ages := h.ages.chg hc (fun _ _ => rfl)
  map := by
    obtain ⟨es, cl, ho⟩ := h.map.obj
    exact h.map.keep ((hc.block pb _ ho (.inr rfl)).trans ho.symm)
  pcs p hp := ⟨(h.pcs p hp).base, (h.pcs p hp).blk.chg hc (.inr rfl), (h.pcs p hp).cap, (h.pcs p hp).rows.chg hc (fun _ _ => rfl)⟩
  nd := h.nd
theorem MemAt.chgS {B : Nat} {w w' : World} {mb pb : Nat} {A : Option Addr} {cap : Nat} {max : Int} {ages : List Id3} {ps : List Pc} (h : MemAt B w mb pb A cap max ages ps) (hc : Chg muS B w w') : MemAt B w' mb pb A cap max ages ps := h.chgR (hc.weak muS_R (Nat.le_refl _))

/-! ### a block of rows that no piece reads -/
theorem Rd.same {w w' : World} {B : Nat} {e : TypeId} {size n : Nat} {A : Option Addr} {xs : List Value} (h : Rd w B e size A n xs) (hs : 0 < n → ∀ ad, A = some ad → ad.block < w.heap.size → w'.heap[ad.block]? = w.heap[ad.block]?) : Rd w' B e size A n xs :=
  ⟨h.1, fun hn => by
    obtain ⟨ad, he, hb, hc⟩ := h.2 hn
    rcases Nat.eq_zero_or_pos xs.length with h0 | h0
    · have hx : xs = [] := List.eq_nil_of_length_eq_zero h0
      subst hx
      refine ⟨ad, he, ?_, fun j u hu => by simp at hu⟩
      rcases hb with hb | ⟨c, f, hb⟩
      · exact .inl hb
      · exact .inr ⟨c, f, (hs hn ad he (lt_of_some hb)).trans hb⟩
    · have hc0 := hc 0 _ (List.getElem?_eq_getElem h0)
      have hlt := World.block_lt_of_cell? w _ hc0
      rw [block_of_add] at hlt
      have hall := hs hn ad he hlt
      refine ⟨ad, he, ?_, fun j u hu => ?_⟩
      · rcases hb with hb | ⟨c, f, hb⟩
        · exact .inl hb
        · exact .inr ⟨c, f, hall.trans hb⟩
      · rw [World.cell?_of_block (w := w) (by rw [block_of_add]; exact hall)]
        exact hc j u hu⟩
theorem Rd.off {w : World} {B g : Nat} {e : TypeId} {size n : Nat} {A : Option Addr} {xs : List Value} (h : Rd w B e size A n xs) (h0 : 0 < size) (hg : w.heap.size ≤ g) : Off g A n := by
  intro hn ad hA
  obtain ⟨ad', he, _, hc⟩ := h.2 hn
  rw [hA] at he
  cases he
  have hl : 0 < xs.length := by rw [h.1]; exact Nat.mul_pos hn h0
  have hlt := World.block_lt_of_cell? w _ (hc 0 _ (List.getElem?_eq_getElem hl))
  rw [block_of_add] at hlt
  omega
theorem adr_eq4 {g i j : Nat} {ad : Addr} (h : ad = ⟨g, 0, none⟩) : (⟨(ad.add (i * 4)).block, (ad.add (i * 4)).off + j, none⟩ : Addr) = ⟨g, i * 4 + j, none⟩ := by
  subst h
  unfold Addr.add
  by_cases h0 : i * 4 = 0
  · rw [if_pos h0, h0]
  · rw [if_neg h0]; simp
theorem adr_eq40 {g i : Nat} {ad : Addr} (h : ad = ⟨g, 0, none⟩) : ad.add (i * 4) = ⟨g, i * 4 + 0, none⟩ := by
  subst h
  unfold Addr.add
  by_cases h0 : i * 4 = 0
  · rw [if_pos h0, h0]
  · rw [if_neg h0]; simp
theorem adr_eq2 {g i j : Nat} {ad : Addr} (h : ad = ⟨g, 0, none⟩) : (⟨(ad.add (i * 2)).block, (ad.add (i * 2)).off + j, none⟩ : Addr) = ⟨g, i * 2 + j, none⟩ := by
  subst h
  unfold Addr.add
  by_cases h0 : i * 2 = 0
  · rw [if_pos h0, h0]
  · rw [if_neg h0]; simp
theorem adr_eq20 {g i : Nat} {ad : Addr} (h : ad = ⟨g, 0, none⟩) : ad.add (i * 2) = ⟨g, i * 2 + 0, none⟩ := by
  subst h
  unfold Addr.add
  by_cases h0 : i * 2 = 0
  · rw [if_pos h0, h0]
  · rw [if_neg h0]; simp
theorem own_frozen {w : World} {base g n cap z : Nat} {e : TypeId} {xs : List Value} (h : w.ownsRow base e z (.slice (some ⟨g, 0, none⟩) n cap) n xs) (j : Nat) : w.frozen? ⟨g, j, none⟩ = false := by
  rcases h.2 with ⟨hv, _⟩ | ⟨g', c, cur, hv, _, hg, _⟩
  · cases hv
  · injection hv with h1
    injection h1 with h1
    injection h1 with h1
    subst h1
    exact Bk.frozen hg j
theorem own_blk {w : World} {base g n cap z : Nat} {e : TypeId} {xs : List Value} (h : w.ownsRow base e z (.slice (some ⟨g, 0, none⟩) n cap) n xs) : ∃ cs, Bk w g e cs := by
  rcases h.2 with ⟨hv, _⟩ | ⟨g', c, cur, hv, _, hg, _⟩
  · cases hv
  · injection hv with h1
    injection h1 with h1
    injection h1 with h1
    subst h1
    exact ⟨cur, hg⟩
theorem own_off {w : World} {base base' g n m cap z z' : Nat} {e t : TypeId} {v : Value} {xs ys : List Value} (h : w.ownsRow base' t z' (.slice (some ⟨g, 0, none⟩) m cap) m ys) (h' : w.ownsRow base e z v n xs) (hne : e ≠ t) (o : Nat) (u : Value) : (w.setCell ⟨g, o, none⟩ u).ownsRow base e z v n xs := by
  obtain ⟨cs, hb⟩ := own_blk h
  exact own_far hb h' hne o u
theorem pw_ne {L : List Pz} (h : L.Pairwise fun x y => ∀ k, (pzS x).ownBlock = some k → (pzS y).ownBlock ≠ some k) {i j : Nat} {x y : Pz} (hi : L[i]? = some x) (hj : L[j]? = some y) (hij : i < j) : (pzS y).ownBlock = none ∨ (pzS y).ownBlock ≠ (pzS x).ownBlock := by
  have h1 := List.getElem?_eq_some_iff.1 hi
  have h2 := List.getElem?_eq_some_iff.1 hj
  have h3 := List.pairwise_iff_getElem.1 h i j h1.1 h2.1 hij
  rw [h1.2, h2.2] at h3
  cases hx : (pzS x).ownBlock with
  | none =>
    cases hy : (pzS y).ownBlock with
    | none => exact .inl rfl
    | some k => exact .inr (by simp)
  | some k => exact .inr (by exact h3 k hx)
theorem grownBy_set (w : World) (g o : Nat) (u : Value) : w.grownBy (w.setCell ⟨g, o, none⟩ u) (some g) :=
  ⟨rfl, rfl, rfl, by simp [World.setCell], fun k _ hne => Below.heap_setCell w ⟨g, o, none⟩ u k (fun e => hne (by rw [e]))⟩
def OffAll (v : Value) (ps : List Pc) (l : List Rc) : Prop := ∀ g, v.ownBlock = some g → (∀ p ∈ ps, Off g p.A p.rows.length) ∧ (∀ c ∈ l, Off g c.A c.rows.length)

structure Two (B : Nat) (w : World) (mb pb rb n mx : Nat) (ages : List Id3) (ps : List Pc) (l : List Rc) : Prop where
  mem : ∃ A cap, MemAt B w mb pb A cap (mx : Int) ages ps
  ref : ∃ A cap, RAt B w rb A cap (mx : Int) l
  inv : ∃ k, Inv n k mx ages ps
  sim : Sim ages ps l
section
variable {B : Nat} {w w' : World} {mb pb rb n mx : Nat} {ages : List Id3} {ps : List Pc} {l : List Rc}
theorem Two.ext (h : Two B w mb pb rb n mx ages ps l) (hb : Below w.heap.size w w') : Two B w' mb pb rb n mx ages ps l := by
  obtain ⟨A, cap, hM⟩ := h.mem
  obtain ⟨A', cap', hR⟩ := h.ref
  exact ⟨⟨A, cap, hM.ext hb⟩, ⟨A', cap', hR.ext hb⟩, h.inv, h.sim⟩
theorem Two.upto (h : Two B w mb pb rb n mx ages ps l) {m : Nat} (hm : n ≤ m) : Two B w mb pb rb m mx ages ps l := by
  obtain ⟨k, hi⟩ := h.inv
  exact ⟨h.mem, h.ref, ⟨k, hi.upto hm⟩, h.sim⟩
theorem Two.offOld (h : Two B w mb pb rb n mx ages ps l) {g : Nat} (hg : w.heap.size ≤ g) : (∀ p ∈ ps, Off g p.A p.rows.length) ∧ (∀ c ∈ l, Off g c.A c.rows.length) := by
  obtain ⟨A, cap, hM⟩ := h.mem
  obtain ⟨A', cap', hR⟩ := h.ref
  exact ⟨fun p hp => (hM.pcs p hp).rows.off (by decide) hg, fun c hc => (hR.rows c hc).off (by decide) hg⟩
theorem Two.len (h : Two B w mb pb rb n mx ages ps l) : l.length ≤ n := by
  obtain ⟨k, hi⟩ := h.inv
  have := hi.len
  rw [h.sim.ages, List.length_map] at this
  exact this
theorem Two.used (h : Two B w mb pb rb n mx ages ps l) : usedN ps = usedR l := by
  obtain ⟨k, hi⟩ := h.inv
  exact h.sim.used hi.nd hi.ndp hi.mem
theorem Two.pinned (h : Two B w mb pb rb n mx ages ps l) : pinnedN ps = pinnedR l := by
  obtain ⟨k, hi⟩ := h.inv
  exact h.sim.pinnedN hi.nd hi.ndp hi.mem
theorem Two.pins (h : Two B w mb pb rb n mx ages ps l) : pinsN ps = pinsR l := by
  obtain ⟨k, hi⟩ := h.inv
  exact h.sim.pinsN hi.nd hi.ndp hi.mem
theorem Two.miss (h : Two B w mb pb rb n mx ages ps l) {x : Id3} (hx : ∀ c ∈ l, c.id ≠ x) : pget ps x = none := by
  obtain ⟨k, hi⟩ := h.inv
  exact h.sim.noneOf hi.mem hx
theorem Two.hit (h : Two B w mb pb rb n mx ages ps l) {x : Id3} {i : Nat} {y : Rc} (hy : l[i]? = some y) (hx : y.id = x) : ∃ p, pget ps x = some p ∧ p.rows = y.rows ∧ p.pins = y.pins ∧ p.rows.length ≤ 64 ∧ p.pins ≤ n := by
  obtain ⟨p, hp, hr, hpn⟩ := h.sim.get hy
  obtain ⟨k, hi⟩ := h.inv
  rw [hx] at hp
  exact ⟨p, hp, hr, hpn, hi.rows p (pget_mem hp).1, hi.pins p (pget_mem hp).1⟩
theorem Two.wrote (h : Two B w mb pb rb n mx ages ps l) {base m : Nat} {v : Value} {xs : List Value} (hown : w.ownsRow base 58 2 v m xs) (hB : B ≤ base) (hoff : OffAll v ps l) (hg : w.grownBy w' v.ownBlock) : Two B w' mb pb rb n mx ages ps l := by
  obtain ⟨A, cap, hM⟩ := h.mem
  obtain ⟨A', cap', hR⟩ := h.ref
  have hKB := keepBut_own hown hB hg
  have hrow : ∀ {A0 : Option Addr} {n0 : Nat} {ys : List Value}, Rd w B 58 2 A0 n0 ys → (∀ g, v.ownBlock = some g → Off g A0 n0) → Rd w' B 58 2 A0 n0 ys := fun hr ho => hr.same fun hn ad hA hlt => hg.block _ hlt (fun he => ho _ he.symm hn ad hA rfl)
  refine ⟨⟨A, cap, hM.bm, hM.bp, hKB.bk hM.blk (by decide), hM.cap, hKB.rd hM.ages (by decide), ?_, fun p hp => ⟨(hM.pcs p hp).base, hKB.bk (hM.pcs p hp).blk (by decide), (hM.pcs p hp).cap, hrow (hM.pcs p hp).rows (fun g hg => (hoff g hg).1 p hp)⟩, hM.nd⟩,
    ⟨A', cap', hR.bm, hKB.bk hR.blk (by decide), hKB.own hR.own (by decide), fun c hc => hrow (hR.rows c hc) (fun g hg => (hoff g hg).2 c hc)⟩, h.inv, h.sim⟩
  obtain ⟨es, cl, ho⟩ := hM.map.obj
  exact hM.map.keep ((hKB pb _ ho (.inr fun _ _ he => by cases he)).trans ho.symm)
theorem OffAll.none_ (ps : List Pc) (l : List Rc) (n c : Nat) : OffAll (.slice none n c) ps l := fun _ h => by cases h
theorem Two.offFresh (h : Two B w mb pb rb n mx ages ps l) {W : World} {base m : Nat} {e : TypeId} {z : Nat} {v : Value} {xs : List Value} (hown : W.ownsRow base e z v m xs) (hb : w.heap.size ≤ base) : OffAll v ps l := by
  intro g hg
  rcases hown.2 with ⟨hv, _⟩ | ⟨g', c, cur, hv, hbb, _⟩
  · rw [hv] at hg; cases hg
  · rw [hv] at hg
    simp only [Value.ownBlock, Option.some.injEq] at hg
    subst hg
    exact h.offOld (by omega)
/-- The pieces behind a step are old ones, or new in a block that was not there. -/
theorem OffAll.step {ps' : List Pc} {l' : List Rc} {W : World} {base m : Nat} {e : TypeId} {z : Nat} {v : Value} {xs : List Value} (h : OffAll v ps l) (hown : W.ownsRow base e z v m xs) (hp : ∀ p ∈ ps', p ∈ ps ∨ ∀ g, g < W.heap.size → Off g p.A p.rows.length) (hl : ∀ c ∈ l', c ∈ l ∨ ∀ g, g < W.heap.size → Off g c.A c.rows.length) : OffAll v ps' l' := by
  intro g hg
  have hlt := (hown.lt g hg).2
  refine ⟨fun p hp' => ?_, fun c hc => ?_⟩
  · rcases hp p hp' with h1 | h1
    · exact (h g hg).1 p h1
    · exact h1 g hlt
  · rcases hl c hc with h1 | h1
    · exact (h g hg).2 c h1
    · exact h1 g hlt
theorem Two.lists (h : Two B w mb pb rb n mx ages ps l) {L L' : List Pz} (h1 : (L.map pzT).Perm (ps.map pcT)) (h2 : L.Pairwise fun x y => bef y.id x.id = false) (h3 : L'.Perm (l.map pzOf)) (h4 : Srt L') : L.map pzT = L'.map pzT := by
  obtain ⟨k, hi⟩ := h.inv
  have hp := h.sim.permT hi.nd hi.ndp hi.mem
  have h5 := h3.map pzT
  rw [List.map_map] at h5
  refine sorted_eq (h1.trans (hp.trans h5.symm)) ?_ (List.pairwise_map.2 h2) (List.pairwise_map.2 h4)
  have h6 := h1.map Prod.fst
  refine h6.nodup_iff.2 ?_
  rw [List.map_map]
  exact hi.ndp
end

/-! ### steps -/
section
variable {B : Nat} {w w1 w2 : World} {mb pb rb n mx : Nat} {ages : List Id3} {ps : List Pc} {l : List Rc} {i : Nat} {y : Rc} {p : Pc}
theorem Two.rotS (h : Two B w mb pb rb n mx ages ps l) (hy : l[i]? = some y) {A A' : Option Addr} {cap cap' : Nat} (hM : MemAt B w2 mb pb A cap (mx : Int) (wo ages y.id ++ [y.id]) ps) (hR : RAt B w2 rb A' cap' (mx : Int) (cut l i ++ [y])) : Two B w2 mb pb rb (n + 1) mx (wo ages y.id ++ [y.id]) ps (cut l i ++ [y]) := by
  obtain ⟨k, hi⟩ := h.inv
  obtain ⟨p, hp, _⟩ := h.sim.get hy
  exact ⟨⟨A, cap, hM⟩, ⟨A', cap', hR⟩, ⟨k, hi.rot (by rw [hp]; rfl)⟩, h.sim.rot hi.nd hy⟩
theorem Two.pinS (h : Two B w mb pb rb n mx ages ps l) (hy : l[i]? = some y) (hp : pget ps y.id = some p) (hpy : p.pins = y.pins) {A A' : Option Addr} {cap cap' : Nat} (hM : MemAt B w2 mb pb A cap (mx : Int) (wo ages y.id ++ [y.id]) (setPins ps y.id (p.pins + 1))) (hR : RAt B w2 rb A' cap' (mx : Int) (cut l i ++ [{ y with pins := y.pins + 1 }])) : Two B w2 mb pb rb (n + 1) mx (wo ages y.id ++ [y.id]) (setPins ps y.id (p.pins + 1)) (cut l i ++ [{ y with pins := y.pins + 1 }]) := by
  obtain ⟨k, hi⟩ := h.inv
  refine ⟨⟨A, cap, hM⟩, ⟨A', cap', hR⟩, ⟨k + 1, hi.pinned hp⟩, ?_⟩
  rw [hpy]
  exact h.sim.pin hi.nd hy (y.pins + 1)
theorem pins_setPins_le {ps : List Pc} {x : Id3} {p : Pc} (hp : pget ps x = some p) (hn : (ps.map (·.id)).Nodup) (h0 : 0 < p.pins) : pinsN (setPins ps x (p.pins - 1)) ≤ pinsN ps := by
  obtain ⟨hm, hid⟩ := pget_mem hp
  clear hp
  induction ps with
  | nil => cases hm
  | cons q ps ih =>
    have h2 : setPins (q :: ps) x (p.pins - 1) = (if q.id = x then { q with pins := p.pins - 1 } else q) :: setPins ps x (p.pins - 1) := rfl
    rw [List.map_cons, List.nodup_cons] at hn
    rw [h2]
    by_cases e : q.id = x
    · have h3 : setPins ps x (p.pins - 1) = ps := by
        unfold setPins
        conv => rhs; rw [← List.map_id ps]
        refine List.map_congr_left fun r hr => ?_
        rw [if_neg]
        · rfl
        · rintro rfl
          exact hn.1 (by rw [e]; exact List.mem_map_of_mem hr)
      have hqp : p = q := by
        rcases List.mem_cons.1 hm with h | h
        · exact h
        · exact absurd (by rw [e, ← hid]; exact List.mem_map_of_mem h) hn.1
      subst hqp
      rw [if_pos e, h3, pinsN_cons, pinsN_cons]
      simp only
      split <;> (try split) <;> omega
    · rw [if_neg e, pinsN_cons, pinsN_cons]
      have hm' : p ∈ ps := by
        rcases List.mem_cons.1 hm with h | h
        · exact absurd (by rw [← h]; exact hid) e
        · exact h
      have := ih hn.2 hm'
      omega
theorem Inv.unpinned {k max : Nat} (h : Inv n k max ages ps) {x : Id3} (hp : pget ps x = some p) (h0 : 0 < p.pins) : Inv (n + 1) k max ages (setPins ps x (p.pins - 1)) := by
  have hpm := (pget_mem hp).1
  refine ⟨h.nd, by rw [setPins_ids]; exact h.ndp, fun y => by rw [pget_setPins]; exact h.mem y, by rw [usedN_setPins]; exact h.used, Nat.le_succ_of_le h.len, fun q hq => ?_, fun q hq => ?_, Nat.le_trans (pins_setPins_le hp h.ndp h0) h.pin⟩
  · obtain ⟨r, hr, e, _⟩ := setPins_mem hq
    rw [e]; exact h.rows r hr
  · obtain ⟨r, hr, _, e | e⟩ := setPins_mem hq
    · rw [e]; have := h.pins p hpm; omega
    · rw [e]; exact Nat.le_succ_of_le (h.pins r hr)
theorem Two.unpinS (h : Two B w mb pb rb n mx ages ps l) (hy : l[i]? = some y) (hp : pget ps y.id = some p) (hpy : p.pins = y.pins) (h0 : 0 < p.pins) {A A' : Option Addr} {cap cap' : Nat} (hM : MemAt B w2 mb pb A cap (mx : Int) ages (setPins ps y.id (p.pins - 1))) (hR : RAt B w2 rb A' cap' (mx : Int) (l.set i { y with pins := y.pins - 1 })) : Two B w2 mb pb rb (n + 1) mx ages (setPins ps y.id (p.pins - 1)) (l.set i { y with pins := y.pins - 1 }) := by
  obtain ⟨k, hi⟩ := h.inv
  refine ⟨⟨A, cap, hM⟩, ⟨A', cap', hR⟩, ⟨k, hi.unpinned hp h0⟩, ?_⟩
  rw [hpy]
  exact h.sim.unpin hi.nd hy (y.pins - 1)
theorem Inv.dropped {k max : Nat} (h : Inv n k max ages ps) (x : Id3) : Inv (n + 1) k max (wo ages x) (dropPs ps x) := by
  have hsub : (dropPs ps x).Sublist ps := List.filter_sublist
  refine ⟨h.nd.filter _, List.Nodup.sublist (List.Sublist.map _ hsub) h.ndp, fun y => ?_, Nat.le_trans (usedN_drop _ _) h.used, Nat.le_succ_of_le (Nat.le_trans (wo_len _ _) h.len), fun p hp => h.rows p (hsub.mem hp), fun p hp => Nat.le_succ_of_le (h.pins p (hsub.mem hp)), Nat.le_trans ?_ h.pin⟩
  · rw [wo_mem, h.mem]
    by_cases e : y = x
    · subst e
      have : pget (dropPs ps y) y = none := by rw [pget_none_iff]; intro p hp; simpa using (List.mem_filter.1 hp).2
      rw [this]
      simp
    · rw [pget_drop_ne e]
      simp [e]
  · unfold pinsN
    exact (List.Sublist.filter _ hsub).length_le
theorem Two.dropS (h : Two B w mb pb rb n mx ages ps l) (hy : l[i]? = some y) {A A' : Option Addr} {cap cap' : Nat} (hM : MemAt B w2 mb pb A cap (mx : Int) (wo ages y.id) (dropPs ps y.id)) (hR : RAt B w2 rb A' cap' (mx : Int) (cut l i)) : Two B w2 mb pb rb (n + 1) mx (wo ages y.id) (dropPs ps y.id) (cut l i) := by
  obtain ⟨k, hi⟩ := h.inv
  exact ⟨⟨A, cap, hM⟩, ⟨A', cap', hR⟩, ⟨k, hi.dropped y.id⟩, h.sim.drop hi.nd hy⟩
theorem inv_nil' (n max : Nat) : Inv n 0 max [] [] := (inv_nil max).upto (Nat.zero_le _)
theorem Two.putS (h : Two B w mb pb rb n mx ages ps l) {x : Id3} (hx : ∀ c ∈ l, c.id ≠ x) {rows : List Rw} (hrl : rows.length ≤ 64) (hf : szR rows + pinnedR l ≤ mx) {r : List Rc} {q : Pc} {c : Rc} (hr : Rev mx (szR rows) l r) (hq : q.id = x) (hqr : q.rows = rows) (hqp : q.pins = 0) (hc : c.id = x) (hcr : c.rows = rows) (hcp : c.pins = 0)
    {A A' : Option Addr} {cap cap' : Nat} (hM : MemAt B w2 mb pb A cap (mx : Int) (wo (evict mx (szR rows) ages ages ps).1 x ++ [x]) ((evict mx (szR rows) ages ages ps).2 ++ [q])) (hR : RAt B w2 rb A' cap' (mx : Int) (r ++ [c])) :
    Two B w2 mb pb rb (n + 1) mx (wo (evict mx (szR rows) ages ages ps).1 x ++ [x]) ((evict mx (szR rows) ages ages ps).2 ++ [q]) (r ++ [c]) := by
  obtain ⟨k, hi⟩ := h.inv
  have hpn := h.pinned
  have hxs : (pget ps x).isSome = false := by rw [h.miss hx]; rfl
  have hev := hi.evd (l := rows) (by omega)
  have hsim := evict_sim0 h.sim hi.nd hi.ndp hi.mem hf hr
  have hxn := evd_none hi hxs hev
  refine ⟨⟨A, cap, hM⟩, ⟨A', cap', hR⟩, ⟨k, hi.put hxs hrl hev hq hqr hqp⟩, ?_⟩
  rw [← hc]
  exact hsim.put (by rw [hc]; exact hxn) hev.mem (hq.trans hc.symm) (hqr.trans hcr.symm) (hqp.trans hcp.symm)
end

section
variable {B : Nat} {w w1 w2 : World} {mb pb rb n mx : Nat} {ages : List Id3} {ps : List Pc} {l : List Rc} {i : Nat} {y : Rc} {p : Pc} {x : Id3} {A A' : Option Addr} {cap cap' : Nat}
theorem Two.rotX (h : Two B w mb pb rb n mx ages ps l) (hy : l[i]? = some y) (hx : y.id = x) (hM : MemAt B w2 mb pb A cap (mx : Int) (wo ages x ++ [x]) ps) (hR : RAt B w2 rb A' cap' (mx : Int) (cut l i ++ [y])) : ∃ a q m, Two B w2 mb pb rb (n + 1) mx a q m ∧ q = ps ∧ m = cut l i ++ [y] := by
  subst hx
  exact ⟨_, _, _, h.rotS hy hM hR, rfl, rfl⟩
theorem Two.pinX (h : Two B w mb pb rb n mx ages ps l) (hy : l[i]? = some y) (hx : y.id = x) (hp : pget ps x = some p) (hpy : p.pins = y.pins) (hM : MemAt B w2 mb pb A cap (mx : Int) (wo ages x ++ [x]) (setPins ps x (p.pins + 1))) (hR : RAt B w2 rb A' cap' (mx : Int) (cut l i ++ [{ y with pins := y.pins + 1 }])) : ∃ a q m, Two B w2 mb pb rb (n + 1) mx a q m := by
  subst hx
  exact ⟨_, _, _, h.pinS hy hp hpy hM hR⟩
theorem Two.unpinX (h : Two B w mb pb rb n mx ages ps l) (hy : l[i]? = some y) (hx : y.id = x) (hp : pget ps x = some p) (hpy : p.pins = y.pins) (h0 : 0 < p.pins) (hM : MemAt B w2 mb pb A cap (mx : Int) ages (setPins ps x (p.pins - 1))) (hR : RAt B w2 rb A' cap' (mx : Int) (l.set i { y with pins := y.pins - 1 })) : ∃ a q m, Two B w2 mb pb rb (n + 1) mx a q m := by
  subst hx
  exact ⟨_, _, _, h.unpinS hy hp hpy h0 hM hR⟩
theorem Two.dropX (h : Two B w mb pb rb n mx ages ps l) (hy : l[i]? = some y) (hx : y.id = x) (hM : MemAt B w2 mb pb A cap (mx : Int) (wo ages x) (dropPs ps x)) (hR : RAt B w2 rb A' cap' (mx : Int) (cut l i)) : ∃ a q m, Two B w2 mb pb rb (n + 1) mx a q m := by
  subst hx
  exact ⟨_, _, _, h.dropS hy hM hR⟩
end

/-! ### the place that an error tells -/
theorem isFault (v : Value) (w : World) : (Instr.typeAssert (.iface 79 v) 28 79 true).run Tryd.prog w = .ok (.tuple #[v, .bool true]) w := by
  first | kernel_rfl | simp [Instr.typeAssert, run_underlying Tryd.underlying79]
set_option maxRecDepth 100000 in
theorem lat_c (w : World) (v : Value) (at_ code : Int) (h : ErrV w v at_ code) : Calls Tryd.prog 22 #[v] w (IntPost w at_) := by
  obtain ⟨fb, rfl, hb⟩ := h
  have c1 : w.cell? ⟨fb, 1, none⟩ = some (.int .i64 at_) := by rw [hb.cell]; rfl
  have hlt := hb.lt
  clear hb
  have hta := isFault
  go_enter Tryd.func22, Tryd.ntmps22
  go_wp2
  go_ret
  exact ⟨rfl, Below.refl _ _⟩
end Go.Proofs.YtgigdhfdpabmoaaDoor
