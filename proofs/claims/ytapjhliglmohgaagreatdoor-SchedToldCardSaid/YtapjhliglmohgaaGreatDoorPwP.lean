/- LineB, LineC: laid together. -/
import Derived.Test.YtapjhliglmohgaaGreatDoorPwL
import Derived.Test.YtapjhliglmohgaaGreatDoorPwO
/- The walk through a lineage: what an append to one of its lists leaves in memory. (Printed by mkline.py.) -/
namespace Go.Proofs.YtapjhliglmohgaaGreatDoor
open Go.RowKit Go.Sort
/-- What a call that turns the walk leaves. -/
def LnTurn (B : Nat) (lb : Nat) (R : Nat → Prop) (p : PlanD) (A : Option Addr) (c : Nat) (mark : Int) (held : List Id3) (d : LnD) (w w' : World) : Prop :=
 ∃ (X' : LnX) (R' : Nat → Prop), LnAt B X' R' p A c mark held d d.seen w' ∧ X'.lb = lb ∧ (∀ k, R' k → R k ∨ w.heap.size ≤ k) ∧ Fr R w w'
section
variable {B : Nat} {X : LnX} {R : Nat → Prop} {p : PlanD} {A : Option Addr} {c : Nat} {mark : Int} {held : List Id3} {d : LnD}
theorem LnTurn.trans {d'' : LnD} {w w1 w2 : World} {R1 : Nat → Prop} {lb : Nat} (hR : ∀ k, R1 k → R k ∨ w.heap.size ≤ k) (hF : Fr R w w1) (h : LnTurn B lb R1 p A c mark held d'' w1 w2) : LnTurn B lb R p A c mark held d'' w w2 := by
 obtain ⟨X', R', k1, k2, k3, k4⟩ := h
 have hs := hF.size
 exact ⟨X', R', k1, k2, fun k hk => (k3 k hk).elim (hR k) (fun h => .inr (by omega)), hF.trans k4 hR⟩
theorem LnTurn.below {d' : LnD} {w w1 w2 : World} {lb : Nat} (hb : Below w.heap.size w w1) (h : LnTurn B lb R p A c mark held d' w1 w2) : LnTurn B lb R p A c mark held d' w w2 := by
 obtain ⟨X', R', k1, k2, k3, k4⟩ := h
 have hs := hb.size
 exact ⟨X', R', k1, k2, fun k hk => (k3 k hk).imp id (fun h => by omega), (Fr.of_below hb).trans k4 (fun k hk => .inl hk)⟩
theorem LnTurn.ext {d' : LnD} {w w1 w2 : World} {lb : Nat} (h : LnTurn B lb R p A c mark held d' w w1) (hb : Below w1.heap.size w1 w2) : LnTurn B lb R p A c mark held d' w w2 := by
 obtain ⟨X', R', k1, k2, k3, k4⟩ := h
 exact ⟨X', R', k1.ext hb, k2, k3, k4.ext hb⟩
theorem LnAt.see_ {w w2 w4 : World} {x : Id3} {A4 : Option Addr} {c4 : Nat} (h : LnAt B X R p A c mark held d (d.seen ++ [x]) w) (hb : Below w.heap.size w w2) (hown : w4.ownsRow B 35 3 (.slice A4 (d.seen ++ [x]).length c4) (d.seen ++ [x]).length (idsC (d.seen ++ [x]))) (hg : w2.grownBy w4 (X.v1 d).ownBlock)
 (hn : (Value.slice A4 (d.seen ++ [x]).length c4).ownBlock = (X.v1 d).ownBlock ∨ (Value.slice A4 (d.seen ++ [x]).length c4).ownBlock = some w2.heap.size) : LnTurn B X.lb R p A c mark held (d.see x) w (w4.setCell ⟨X.lb, 6, none⟩ (.slice A4 (d.seen ++ [x]).length c4)) := by
 have hz2 := hb.size
 have hz4 := hg.size
 have hbd := h.bd
 have hBw : B ≤ w.heap.size := h.hB
 have h2 := h.ext hb
 have hone : ∀ k, (X.v1 d).ownBlock = some k → R k ∧ ¬ X.Rw k := h.r1
 have hFg : Fr (fun k => (X.v1 d).ownBlock = some k) w2 w4 := Fr.grown (S := fun k => (X.v1 d).ownBlock = some k) Fr.refl hg (fun k hk => .inl hk)
 have hbk4 : Bk w4 X.lb 181 (X.cells p A c mark d) := h2.bk.grown hg (fun e => own_ne_bk h2.s1 h2.bk (by decide) e.symm)
 have hRl : ∀ k, X.Rw k → k ≠ X.lb := fun k hk e => h.rl.2 (e ▸ hk)
 have hFl : Fr (fun k => k = X.lb) w4 (w4.setCell ⟨X.lb, 6, none⟩ (.slice A4 (d.seen ++ [x]).length c4)) := Fr.one w4 X.lb 6 _
 have hnew : ∀ k, (Value.slice A4 (d.seen ++ [x]).length c4).ownBlock = some k → (R k ∨ (w2.heap.size ≤ k ∧ k < w4.heap.size)) ∧ ¬ X.Rw k := by
  intro k hk
  have hlt := (hown.lt k hk).2
  rcases hn with hn | hn
  · rw [hn] at hk
    exact ⟨.inl (hone k hk).1, (hone k hk).2⟩
  · rw [hn] at hk
    injection hk with hk
    exact ⟨.inr ⟨by omega, hlt⟩, fun hr => by have := (hbd k (h.rw_ k hr)).2; omega⟩
 have hne2 : ∀ k, (X.v2 d).ownBlock = some k → (Value.slice A4 (d.seen ++ [x]).length c4).ownBlock ≠ some k := by
  intro k hj hk
  rcases hn with hn | hn
  · rw [hn] at hk
    exact absurd hk (fun e => h.n12 k e hj)
  · rw [hn] at hk
    injection hk with hk
    have := (hbd k (h.r2 k hj).1).2
    omega
 have hk2 : w4.ownsRow B 35 3 (X.v2 d) d.ready.length (idsC d.ready) := own_fr h2.s2 hFg (fun k hj => fun e => h.n12 k e hj)
 have hne3 : ∀ k, (X.v3 d).ownBlock = some k → (Value.slice A4 (d.seen ++ [x]).length c4).ownBlock ≠ some k := by
  intro k hj hk
  rcases hn with hn | hn
  · rw [hn] at hk
    exact absurd hk (fun e => h.n13 k e hj)
  · rw [hn] at hk
    injection hk with hk
    have := (hbd k (h.r3 k hj).1).2
    omega
 have hk3 : w4.ownsRow B 35 3 (X.v3 d) d.used.length (idsC d.used) := own_fr h2.s3 hFg (fun k hj => fun e => h.n13 k e hj)
 refine ⟨⟨X.lb, X.wyb, X.hb, X.mb, X.Rw, X.K, X.kc, A4, c4, X.A2, X.c2, X.A3, X.c3⟩, fun k => R k ∨ (w2.heap.size ≤ k ∧ k < w4.heap.size), ⟨?_, ?_, ?_, ?_, own_far hbk4 hown (by decide) 6 _, own_far hbk4 hk2 (by decide) 6 _, own_far hbk4 hk3 (by decide) 6 _, ⟨.inl h.rl.1, h.rl.2⟩, ⟨.inl h.rh.1, h.rh.2⟩, ⟨.inl h.rm.1, h.rm.2⟩, hnew, fun k hk => ⟨.inl (h.r2 k hk).1, (h.r2 k hk).2⟩, fun k hk => ⟨.inl (h.r3 k hk).1, (h.r3 k hk).2⟩, fun k hk => .inl (h.rw_ k hk), fun k hk e => hne2 k e hk, fun k hk e => hne3 k e hk, h.n23, h.nm, fun k hk => ?_⟩, rfl, fun k hk => hk.imp id (fun hk => by omega), ?_⟩
 · exact hbk4.set_ 6 _
 · exact (h2.ways.fr hFg (fun k hk e => (hone k e).2 hk) (fun k hk e => by have := (hbd k (hone k e).1).1; omega)).fr hFl (fun k hk => hRl k hk) (fun k hk e => by have := (hbd _ h.rl.1).1; omega)
 · exact (h2.hm.fr hFg (fun e => by
     rcases h2.s1.2 with ⟨hv, _⟩ | ⟨g, c', cur, hv, _, hgg, _⟩
     · rw [hv] at e; cases e
     · rw [hv] at e
       injection e with e
       exact h2.hm.ne_cells hgg e.symm)).fr hFl (fun e => h2.hm.ne_cells h2.bk e)
 · exact (h2.sm.fr hFg (fun e => by
     rcases h2.s1.2 with ⟨hv, _⟩ | ⟨g, c', cur, hv, _, hgg, _⟩
     · rw [hv] at e; cases e
     · rw [hv] at e
       injection e with e
       exact h2.sm.ne_cells hgg e.symm)).fr hFl (fun e => h2.sm.ne_cells h2.bk e)
 · rcases hk with hk | hk
   · have := hbd k hk
     exact ⟨this.1, by simp only [World.size_setCell]; omega⟩
   · exact ⟨by omega, by simp only [World.size_setCell]; omega⟩
 · exact ((Fr.of_below hb).trans hFg (fun k hk => .inl (hone k hk).1)).trans hFl (fun k hk => .inl (by
     have hk' : k = X.lb := hk
     rw [hk']
     exact h.rl.1))
theorem LnAt.rdy_ {w w2 w4 : World} {x : Id3} {A4 : Option Addr} {c4 : Nat} (h : LnAt B X R p A c mark held d d.seen w) (hb : Below w.heap.size w w2) (hown : w4.ownsRow B 35 3 (.slice A4 (d.ready ++ [x]).length c4) (d.ready ++ [x]).length (idsC (d.ready ++ [x]))) (hg : w2.grownBy w4 (X.v2 d).ownBlock)
 (hn : (Value.slice A4 (d.ready ++ [x]).length c4).ownBlock = (X.v2 d).ownBlock ∨ (Value.slice A4 (d.ready ++ [x]).length c4).ownBlock = some w2.heap.size) : LnTurn B X.lb R p A c mark held (d.rdy x) w (w4.setCell ⟨X.lb, 7, none⟩ (.slice A4 (d.ready ++ [x]).length c4)) := by
 have hz2 := hb.size
 have hz4 := hg.size
 have hbd := h.bd
 have hBw : B ≤ w.heap.size := h.hB
 have h2 := h.ext hb
 have hone : ∀ k, (X.v2 d).ownBlock = some k → R k ∧ ¬ X.Rw k := h.r2
 have hFg : Fr (fun k => (X.v2 d).ownBlock = some k) w2 w4 := Fr.grown (S := fun k => (X.v2 d).ownBlock = some k) Fr.refl hg (fun k hk => .inl hk)
 have hbk4 : Bk w4 X.lb 181 (X.cells p A c mark d) := h2.bk.grown hg (fun e => own_ne_bk h2.s2 h2.bk (by decide) e.symm)
 have hRl : ∀ k, X.Rw k → k ≠ X.lb := fun k hk e => h.rl.2 (e ▸ hk)
 have hFl : Fr (fun k => k = X.lb) w4 (w4.setCell ⟨X.lb, 7, none⟩ (.slice A4 (d.ready ++ [x]).length c4)) := Fr.one w4 X.lb 7 _
 have hnew : ∀ k, (Value.slice A4 (d.ready ++ [x]).length c4).ownBlock = some k → (R k ∨ (w2.heap.size ≤ k ∧ k < w4.heap.size)) ∧ ¬ X.Rw k := by
  intro k hk
  have hlt := (hown.lt k hk).2
  rcases hn with hn | hn
  · rw [hn] at hk
    exact ⟨.inl (hone k hk).1, (hone k hk).2⟩
  · rw [hn] at hk
    injection hk with hk
    exact ⟨.inr ⟨by omega, hlt⟩, fun hr => by have := (hbd k (h.rw_ k hr)).2; omega⟩
 have hne1 : ∀ k, (X.v1 d).ownBlock = some k → (Value.slice A4 (d.ready ++ [x]).length c4).ownBlock ≠ some k := by
  intro k hj hk
  rcases hn with hn | hn
  · rw [hn] at hk
    exact absurd hk (h.n12 k hj)
  · rw [hn] at hk
    injection hk with hk
    have := (hbd k (h.r1 k hj).1).2
    omega
 have hk1 : w4.ownsRow B 35 3 (X.v1 d) d.seen.length (idsC d.seen) := own_fr h2.s1 hFg (fun k hj => h.n12 k hj)
 have hne3 : ∀ k, (X.v3 d).ownBlock = some k → (Value.slice A4 (d.ready ++ [x]).length c4).ownBlock ≠ some k := by
  intro k hj hk
  rcases hn with hn | hn
  · rw [hn] at hk
    exact absurd hk (fun e => h.n23 k e hj)
  · rw [hn] at hk
    injection hk with hk
    have := (hbd k (h.r3 k hj).1).2
    omega
 have hk3 : w4.ownsRow B 35 3 (X.v3 d) d.used.length (idsC d.used) := own_fr h2.s3 hFg (fun k hj => fun e => h.n23 k e hj)
 refine ⟨⟨X.lb, X.wyb, X.hb, X.mb, X.Rw, X.K, X.kc, X.A1, X.c1, A4, c4, X.A3, X.c3⟩, fun k => R k ∨ (w2.heap.size ≤ k ∧ k < w4.heap.size), ⟨?_, ?_, ?_, ?_, own_far hbk4 hk1 (by decide) 7 _, own_far hbk4 hown (by decide) 7 _, own_far hbk4 hk3 (by decide) 7 _, ⟨.inl h.rl.1, h.rl.2⟩, ⟨.inl h.rh.1, h.rh.2⟩, ⟨.inl h.rm.1, h.rm.2⟩, fun k hk => ⟨.inl (h.r1 k hk).1, (h.r1 k hk).2⟩, hnew, fun k hk => ⟨.inl (h.r3 k hk).1, (h.r3 k hk).2⟩, fun k hk => .inl (h.rw_ k hk), hne1, h.n13, fun k hk e => hne3 k e hk, h.nm, fun k hk => ?_⟩, rfl, fun k hk => hk.imp id (fun hk => by omega), ?_⟩
 · exact hbk4.set_ 7 _
 · exact (h2.ways.fr hFg (fun k hk e => (hone k e).2 hk) (fun k hk e => by have := (hbd k (hone k e).1).1; omega)).fr hFl (fun k hk => hRl k hk) (fun k hk e => by have := (hbd _ h.rl.1).1; omega)
 · exact (h2.hm.fr hFg (fun e => by
     rcases h2.s2.2 with ⟨hv, _⟩ | ⟨g, c', cur, hv, _, hgg, _⟩
     · rw [hv] at e; cases e
     · rw [hv] at e
       injection e with e
       exact h2.hm.ne_cells hgg e.symm)).fr hFl (fun e => h2.hm.ne_cells h2.bk e)
 · exact (h2.sm.fr hFg (fun e => by
     rcases h2.s2.2 with ⟨hv, _⟩ | ⟨g, c', cur, hv, _, hgg, _⟩
     · rw [hv] at e; cases e
     · rw [hv] at e
       injection e with e
       exact h2.sm.ne_cells hgg e.symm)).fr hFl (fun e => h2.sm.ne_cells h2.bk e)
 · rcases hk with hk | hk
   · have := hbd k hk
     exact ⟨this.1, by simp only [World.size_setCell]; omega⟩
   · exact ⟨by omega, by simp only [World.size_setCell]; omega⟩
 · exact ((Fr.of_below hb).trans hFg (fun k hk => .inl (hone k hk).1)).trans hFl (fun k hk => .inl (by
     have hk' : k = X.lb := hk
     rw [hk']
     exact h.rl.1))
theorem LnAt.use_ {w w2 w4 : World} {x : Id3} {A4 : Option Addr} {c4 : Nat} (h : LnAt B X R p A c mark held d d.seen w) (hb : Below w.heap.size w w2) (hown : w4.ownsRow B 35 3 (.slice A4 (d.used ++ [x]).length c4) (d.used ++ [x]).length (idsC (d.used ++ [x]))) (hg : w2.grownBy w4 (X.v3 d).ownBlock)
 (hn : (Value.slice A4 (d.used ++ [x]).length c4).ownBlock = (X.v3 d).ownBlock ∨ (Value.slice A4 (d.used ++ [x]).length c4).ownBlock = some w2.heap.size) : LnTurn B X.lb R p A c mark held (d.use x) w (w4.setCell ⟨X.lb, 8, none⟩ (.slice A4 (d.used ++ [x]).length c4)) := by
 have hz2 := hb.size
 have hz4 := hg.size
 have hbd := h.bd
 have hBw : B ≤ w.heap.size := h.hB
 have h2 := h.ext hb
 have hone : ∀ k, (X.v3 d).ownBlock = some k → R k ∧ ¬ X.Rw k := h.r3
 have hFg : Fr (fun k => (X.v3 d).ownBlock = some k) w2 w4 := Fr.grown (S := fun k => (X.v3 d).ownBlock = some k) Fr.refl hg (fun k hk => .inl hk)
 have hbk4 : Bk w4 X.lb 181 (X.cells p A c mark d) := h2.bk.grown hg (fun e => own_ne_bk h2.s3 h2.bk (by decide) e.symm)
 have hRl : ∀ k, X.Rw k → k ≠ X.lb := fun k hk e => h.rl.2 (e ▸ hk)
 have hFl : Fr (fun k => k = X.lb) w4 (w4.setCell ⟨X.lb, 8, none⟩ (.slice A4 (d.used ++ [x]).length c4)) := Fr.one w4 X.lb 8 _
 have hnew : ∀ k, (Value.slice A4 (d.used ++ [x]).length c4).ownBlock = some k → (R k ∨ (w2.heap.size ≤ k ∧ k < w4.heap.size)) ∧ ¬ X.Rw k := by
  intro k hk
  have hlt := (hown.lt k hk).2
  rcases hn with hn | hn
  · rw [hn] at hk
    exact ⟨.inl (hone k hk).1, (hone k hk).2⟩
  · rw [hn] at hk
    injection hk with hk
    exact ⟨.inr ⟨by omega, hlt⟩, fun hr => by have := (hbd k (h.rw_ k hr)).2; omega⟩
 have hne1 : ∀ k, (X.v1 d).ownBlock = some k → (Value.slice A4 (d.used ++ [x]).length c4).ownBlock ≠ some k := by
  intro k hj hk
  rcases hn with hn | hn
  · rw [hn] at hk
    exact absurd hk (h.n13 k hj)
  · rw [hn] at hk
    injection hk with hk
    have := (hbd k (h.r1 k hj).1).2
    omega
 have hk1 : w4.ownsRow B 35 3 (X.v1 d) d.seen.length (idsC d.seen) := own_fr h2.s1 hFg (fun k hj => h.n13 k hj)
 have hne2 : ∀ k, (X.v2 d).ownBlock = some k → (Value.slice A4 (d.used ++ [x]).length c4).ownBlock ≠ some k := by
  intro k hj hk
  rcases hn with hn | hn
  · rw [hn] at hk
    exact absurd hk (h.n23 k hj)
  · rw [hn] at hk
    injection hk with hk
    have := (hbd k (h.r2 k hj).1).2
    omega
 have hk2 : w4.ownsRow B 35 3 (X.v2 d) d.ready.length (idsC d.ready) := own_fr h2.s2 hFg (fun k hj => h.n23 k hj)
 refine ⟨⟨X.lb, X.wyb, X.hb, X.mb, X.Rw, X.K, X.kc, X.A1, X.c1, X.A2, X.c2, A4, c4⟩, fun k => R k ∨ (w2.heap.size ≤ k ∧ k < w4.heap.size), ⟨?_, ?_, ?_, ?_, own_far hbk4 hk1 (by decide) 8 _, own_far hbk4 hk2 (by decide) 8 _, own_far hbk4 hown (by decide) 8 _, ⟨.inl h.rl.1, h.rl.2⟩, ⟨.inl h.rh.1, h.rh.2⟩, ⟨.inl h.rm.1, h.rm.2⟩, fun k hk => ⟨.inl (h.r1 k hk).1, (h.r1 k hk).2⟩, fun k hk => ⟨.inl (h.r2 k hk).1, (h.r2 k hk).2⟩, hnew, fun k hk => .inl (h.rw_ k hk), h.n12, hne1, hne2, h.nm, fun k hk => ?_⟩, rfl, fun k hk => hk.imp id (fun hk => by omega), ?_⟩
 · exact hbk4.set_ 8 _
 · exact (h2.ways.fr hFg (fun k hk e => (hone k e).2 hk) (fun k hk e => by have := (hbd k (hone k e).1).1; omega)).fr hFl (fun k hk => hRl k hk) (fun k hk e => by have := (hbd _ h.rl.1).1; omega)
 · exact (h2.hm.fr hFg (fun e => by
     rcases h2.s3.2 with ⟨hv, _⟩ | ⟨g, c', cur, hv, _, hgg, _⟩
     · rw [hv] at e; cases e
     · rw [hv] at e
       injection e with e
       exact h2.hm.ne_cells hgg e.symm)).fr hFl (fun e => h2.hm.ne_cells h2.bk e)
 · exact (h2.sm.fr hFg (fun e => by
     rcases h2.s3.2 with ⟨hv, _⟩ | ⟨g, c', cur, hv, _, hgg, _⟩
     · rw [hv] at e; cases e
     · rw [hv] at e
       injection e with e
       exact h2.sm.ne_cells hgg e.symm)).fr hFl (fun e => h2.sm.ne_cells h2.bk e)
 · rcases hk with hk | hk
   · have := hbd k hk
     exact ⟨this.1, by simp only [World.size_setCell]; omega⟩
   · exact ⟨by omega, by simp only [World.size_setCell]; omega⟩
 · exact ((Fr.of_below hb).trans hFg (fun k hk => .inl (hone k hk).1)).trans hFl (fun k hk => .inl (by
     have hk' : k = X.lb := hk
     rw [hk']
     exact h.rl.1))
end
end Go.Proofs.YtapjhliglmohgaaGreatDoor
/- The walk through a lineage: how deep; what was come to. -/
namespace Go.Proofs.YtapjhliglmohgaaGreatDoor
open Go.RowKit Go.Sort
section
variable {B : Nat} {X : LnX} {R : Nat → Prop} {p : PlanD} {A : Option Addr} {c : Nat} {mark : Int} {held : List Id3} {d : LnD} {ks : List Id3}
theorem LnAt.deep {w : World} (h : LnAt B X R p A c mark held d ks w) {steps v : Int} (hv : v = max d.depth steps) : LnAt B X R p A c mark held (d.at_ steps) ks (w.setCell ⟨X.lb, 9, none⟩ (.int .i64 v)) := by
 have hBl : ∀ k, k < B → k ≠ X.lb := fun k hk e => by have := (h.bd _ h.rl.1).1; omega
 have hF : Fr (fun k => k = X.lb) w (w.setCell ⟨X.lb, 9, none⟩ (.int .i64 v)) := Fr.one w X.lb 9 _
 subst hv
 exact ⟨h.bk.set_ 9 _, h.ways.fr hF (fun k hk e => h.rl.2 (e ▸ hk)) hBl, h.hm.fr hF (fun e => h.hm.ne_cells h.bk e), h.sm.fr hF (fun e => h.sm.ne_cells h.bk e), own_far h.bk h.s1 (by decide) 9 _, own_far h.bk h.s2 (by decide) 9 _, own_far h.bk h.s3 (by decide) 9 _,
   h.rl, h.rh, h.rm, h.r1, h.r2, h.r3, h.rw_, h.n12, h.n13, h.n23, h.nm, fun k hk => ⟨(h.bd k hk).1, by simp only [World.size_setCell]; exact (h.bd k hk).2⟩⟩
theorem own_ne_map {w : World} {α : Type} {enc : α → Value} {g base n z : Nat} {e : TypeId} {v : Value} {xs : List Value} {m : List (α × Value)} (h : w.ownsRow base e z v n xs) (hm : MapIs enc w g m) : ∀ k, v.ownBlock = some k → k ≠ g := by
 intro k hk e
 subst e
 rcases h.2 with ⟨hv, _⟩ | ⟨g, c', cur, hv, _, hgg, _⟩
 · rw [hv] at hk; cases hk
 · rw [hv] at hk
   injection hk with hk
   exact hm.ne_cells hgg hk.symm
theorem LnAt.mark_ {w w1 : World} {x : Id3} (h : LnAt B X R p A c mark held d ks w) (hx : x ∉ ks) (hm : MapIs idV w1 X.mb (mset (ks.map fun x => (x, .int .i64 1)) x (.int .i64 1))) (hg : w.grownBy w1 (some X.mb)) : LnAt B X R p A c mark held d (ks ++ [x]) w1 := by
 have hBl : ∀ k, k < B → k ≠ X.mb := fun k hk e => by have := (h.bd _ h.rm.1).1; omega
 have hF : Fr (fun k => k = X.mb) w w1 := Fr.map_ hg
 have hms : mset (ks.map fun x => (x, (.int .i64 1 : Value))) x (.int .i64 1) = (ks ++ [x]).map fun x => (x, (.int .i64 1 : Value)) := by
  unfold mset
  rw [if_neg, List.map_append]
  · rfl
  · rw [List.map_map]
    simpa using hx
 rw [hms] at hm
 exact ⟨h.bk.fr hF (fun e => h.sm.ne_cells h.bk e.symm), h.ways.fr hF (fun k hk e => h.rm.2 (e ▸ hk)) hBl, h.hm.fr hF h.nm, hm, own_fr h.s1 hF (own_ne_map h.s1 h.sm), own_fr h.s2 hF (own_ne_map h.s2 h.sm), own_fr h.s3 hF (own_ne_map h.s3 h.sm),
   h.rl, h.rh, h.rm, h.r1, h.r2, h.r3, h.rw_, h.n12, h.n13, h.n23, h.nm, fun k hk => ⟨(h.bd k hk).1, Nat.lt_of_lt_of_le (h.bd k hk).2 hF.size⟩⟩
/-- The ways turn. -/
theorem LnAt.waysT {w w' : World} {Rw' : Nat → Prop} (h : LnAt B X R p A c mark held d ks w) (hW : WaysIs B X.wyb Rw' p A X.K c X.kc w') (hF : Fr X.Rw w w') (hR : ∀ k, Rw' k → X.Rw k ∨ w.heap.size ≤ k) :
 LnAt B ⟨X.lb, X.wyb, X.hb, X.mb, Rw', X.K, X.kc, X.A1, X.c1, X.A2, X.c2, X.A3, X.c3⟩ (fun k => R k ∨ Rw' k) p A c mark held d ks w' := by
 have hbd := h.bd
 have hoff : ∀ k, R k → ¬ X.Rw k → ¬ Rw' k := fun k hk hn hr => (hR k hr).elim hn (fun h1 => by have := (hbd k hk).2; omega)
 exact ⟨h.bk.fr hF h.rl.2, hW, h.hm.fr hF h.rh.2, h.sm.fr hF h.rm.2, own_fr h.s1 hF (fun k hk => (h.r1 k hk).2), own_fr h.s2 hF (fun k hk => (h.r2 k hk).2), own_fr h.s3 hF (fun k hk => (h.r3 k hk).2),
   ⟨.inl h.rl.1, hoff _ h.rl.1 h.rl.2⟩, ⟨.inl h.rh.1, hoff _ h.rh.1 h.rh.2⟩, ⟨.inl h.rm.1, hoff _ h.rm.1 h.rm.2⟩, fun k hk => ⟨.inl (h.r1 k hk).1, hoff _ (h.r1 k hk).1 (h.r1 k hk).2⟩, fun k hk => ⟨.inl (h.r2 k hk).1, hoff _ (h.r2 k hk).1 (h.r2 k hk).2⟩, fun k hk => ⟨.inl (h.r3 k hk).1, hoff _ (h.r3 k hk).1 (h.r3 k hk).2⟩,
   fun k hk => .inr hk, h.n12, h.n13, h.n23, h.nm, fun k hk => hk.elim (fun hk => ⟨(hbd k hk).1, Nat.lt_of_lt_of_le (hbd k hk).2 hF.size⟩) (fun hk => hW.bd k hk)⟩
end
end Go.Proofs.YtapjhliglmohgaaGreatDoor
