/- LineE: laid together. -/
import Derived.Test.YtapjhliglmohgaaGreatDoorPwQ
/- The walk through a lineage: come of the program, at a piece that must be made. -/
namespace Go.Proofs.YtapjhliglmohgaaGreatDoor
open Go.RowKit Go.Sort
def foldD (p : PlanD) (mark : Int) (held : List Id3) (n : Nat) (d : LnD) (x : Id3) (steps : Int) (l : List Id3) : LnD × Bool :=
 l.foldl (stepsD p mark held fun e y => comeD p mark held n e y (steps + 1)) ((d.at_ steps).see x, true)
theorem comeD_seen {p : PlanD} {mark : Int} {held : List Id3} {n : Nat} {d : LnD} {x : Id3} {steps : Int} (ht : thereD p mark held x = false) (hs : x ∈ d.seen) : comeD p mark held (n + 1) d x steps = d.at_ steps := by
 unfold comeD
 rw [if_neg (by rw [ht]; simp), if_pos hs]
theorem comeD_new {p : PlanD} {mark : Int} {held : List Id3} {n : Nat} {d : LnD} {x : Id3} {steps : Int} (ht : thereD p mark held x = false) (hs : x ∉ d.seen) : comeD p mark held (n + 1) d x steps = if (foldD p mark held n d x steps (needsX p x)).2 then (foldD p mark held n d x steps (needsX p x)).1.rdy x else (foldD p mark held n d x steps (needsX p x)).1 := by
 unfold comeD
 rw [if_neg (by rw [ht]; simp), if_neg hs]
 rfl
theorem foldD_snoc {p : PlanD} {mark : Int} {held : List Id3} {n : Nat} {d : LnD} {x : Id3} {steps : Int} {l : List Id3} {i : Nat} {y : Id3} (h : l[i]? = some y) :
 foldD p mark held n d x steps (l.take (i + 1)) = (comeD p mark held n (foldD p mark held n d x steps (l.take i)).1 y (steps + 1), (foldD p mark held n d x steps (l.take i)).2 && thereD p mark held y) := by
 unfold foldD
 rw [List.take_add_one, h]
 simp only [Option.toList_some, List.foldl_append, List.foldl_cons, List.foldl_nil]
 rfl
theorem foldD_ok {p : PlanD} {mark : Int} {held : List Id3} {n : Nat} {d : LnD} {x : Id3} {steps : Int} (hp : Shaped p) (hok : LnOk p mark d) (hc : CanD p mark x) (hx : x ∉ d.seen) (hl : leafD p x mark = false) (h0 : 0 ≤ steps) (hn : steps + (n + 1 : Nat) ≤ 100000) :
 ∀ i, LnOk p mark (foldD p mark held n d x steps ((needsX p x).take i)).1 ∧ (foldD p mark held n d x steps ((needsX p x).take i)).1.ready.length + 1 ≤ (foldD p mark held n d x steps ((needsX p x).take i)).1.seen.length := by
 intro i
 have hat := hok.at_ h0 (by omega)
 obtain ⟨k1, k2⟩ := hat.see hx hc
 have hfold : ∀ (l : List Id3) (a : LnD × Bool), (∀ y ∈ l, CanD p mark y) → LnOk p mark a.1 → LnOk p mark (l.foldl (stepsD p mark held fun e y => comeD p mark held n e y (steps + 1)) a).1 ∧ Adds a.1 (l.foldl (stepsD p mark held fun e y => comeD p mark held n e y (steps + 1)) a).1 := by
  intro l
  induction l with
  | nil => intro a _ ha; exact ⟨ha, Nat.le_of_eq (Nat.add_comm _ _)⟩
  | cons y l ih =>
    intro a hy ha
    obtain ⟨j1, j2⟩ := comeD_ok (held := held) hp n a.1 y (steps + 1) ha (hy y (List.mem_cons_self ..)) (by omega) (by omega)
    obtain ⟨j3, j4⟩ := ih (stepsD p mark held (fun e y => comeD p mark held n e y (steps + 1)) a y) (fun z hz => hy z (List.mem_cons_of_mem _ hz)) j1
    exact ⟨j3, Adds.trans j2 j4⟩
 obtain ⟨m1, m2⟩ := hfold ((needsX p x).take i) ((d.at_ steps).see x, true) (fun y hy => (needs_can hp hc hl (List.mem_of_mem_take hy)).1) k1
 refine ⟨m1, ?_⟩
 unfold Adds at m2
 simp only at m2
 unfold foldD
 omega
theorem needsX_len {p : PlanD} {mark : Int} {x : Id3} (hp : Shaped p) (hc : CanD p mark x) : (needsX p x).length ≤ 49 := by
 obtain ⟨hb1, s, q, hs, hq, hsl, hql⟩ := hasB_parts hc.has
 have h1 := (good_own hp hsl (show q < p.parts.toNat by omega)).len
 unfold needsX needsL
 rw [hs, hq, Int.toNat_natCast, Int.toNat_natCast, List.length_append, List.length_map]
 have h2 : (if isSt p.ops s && decide (1 < x.b) then [(⟨x.b - 1, (s : Nat), (q : Nat)⟩ : Id3)] else []).length ≤ 1 := by split <;> simp
 omega
theorem needs_x (B wb : Nat) (R : Nat → Prop) (p : PlanD) (A K : Option Addr) (c kc : Nat) (mark : Int) (x : Id3) (w : World) (h : WaysIs B wb R p A K c kc w) (hp : Shaped p) (hc : CanD p mark x) :
 Calls Tryz.prog 82 #[.pointer (some ⟨wb, 0, none⟩), idV x] w (NeedsPost B wb R p A K c kc (needsX p x) w) := by
 obtain ⟨hb1, s, q, hs, hq, hsl, hql⟩ := hasB_parts hc.has
 have h1 := needs_yes B wb R p A K c kc x.b s q w h hp hb1 hc.top hsl (show q < p.parts.toNat by omega)
 have hx : (⟨x.b, (s : Nat), (q : Nat)⟩ : Id3) = x := by rw [← hs, ← hq]
 have hn : needsL p x.b s q = needsX p x := by unfold needsX; rw [hs, hq, Int.toNat_natCast, Int.toNat_natCast]
 rw [hx, hn] at h1
 exact h1
/-- The state of the walk while it goes over what a piece needs. -/
def CStep (B lb : Nat) (R : Nat → Prop) (p : PlanD) (A : Option Addr) (c : Nat) (mark : Int) (held : List Id3) (w0 : World) (xg : Nat) (x : Id3) (base : Nat) (v : Value) (l : List Id3) (d : LnD) (w : World) : Prop :=
 ∃ (X' : LnX) (R' : Nat → Prop), LnAt B X' R' p A c mark held d d.seen w ∧ X'.lb = lb ∧ (∀ k, R' k → R k ∨ w0.heap.size ≤ k) ∧ ¬ R' xg ∧ Fr R w0 w ∧ Bk w xg 35 #[.int .i64 x.b, .int .i64 x.s, .int .i64 x.p] ∧ w.ownsRow base 35 3 v l.length (idsC l) ∧ (∀ k, v.ownBlock = some k → ¬ R' k)
section
variable {B lb : Nat} {R : Nat → Prop} {p : PlanD} {A : Option Addr} {c : Nat} {mark : Int} {held : List Id3} {w0 : World} {xg : Nat} {x : Id3} {base : Nat} {v : Value} {l : List Id3} {d : LnD}
theorem CStep.ext {w w' : World} (h : CStep B lb R p A c mark held w0 xg x base v l d w) (hb : Below w.heap.size w w') : CStep B lb R p A c mark held w0 xg x base v l d w' := by
 obtain ⟨X', R', k1, k2, k3, k4, k5, k6, k7, k8⟩ := h
 exact ⟨X', R', k1.ext hb, k2, k3, k4, k5.ext hb, k6.ext hb, own_ext k7 hb, k8⟩
theorem CStep.turn {w w' : World} {R' : Nat → Prop} {d' : LnD} (hL : LnTurn B lb R' p A c mark held d' w w') (k3 : ∀ k, R' k → R k ∨ w0.heap.size ≤ k) (k4 : ¬ R' xg) (k5 : Fr R w0 w) (k6 : Bk w xg 35 #[.int .i64 x.b, .int .i64 x.s, .int .i64 x.p]) (k7 : w.ownsRow base 35 3 v l.length (idsC l)) (k8 : ∀ k, v.ownBlock = some k → ¬ R' k) :
 CStep B lb R p A c mark held w0 xg x base v l d' w' := by
 obtain ⟨X2, R2, j1, j2, j3, j4⟩ := hL
 have hs := k5.size
 exact ⟨X2, R2, j1, j2, fun k hk => (j3 k hk).elim (k3 k) (fun h => .inr (by omega)), fun hk => (j3 _ hk).elim k4 (fun h => by have := k6.lt; omega), k5.trans j4 k3, k6.fr j4 k4, own_fr k7 j4 k8, fun k hk hr => (j3 k hr).elim (k8 k hk) (fun h => by have := (k7.lt k hk).2; omega)⟩
end
section
variable {B : Nat} {p : PlanD} {A : Option Addr} {c : Nat} {mark : Int} {held : List Id3}
set_option maxRecDepth 100000 in
set_option maxHeartbeats 64000000 in
theorem come_not (hp : Shaped p) (n : Nat) (ih : ∀ (X : LnX) (R : Nat → Prop) (d : LnD) (x : Id3) (steps : Int) (w : World), LnAt B X R p A c mark held d d.seen w → LnOk p mark d → CanD p mark x → (leafD p x mark = true ∧ 0 < n ∨ deepD mark x + 1 < n) → 0 ≤ steps → steps + n ≤ 100000 →
 Calls Tryz.prog 117 #[.pointer (some ⟨X.lb, 0, none⟩), idV x, .int .i64 steps] w (ComePost B X.lb R p A c mark held (comeD p mark held n d x steps) w))
 (X : LnX) (R : Nat → Prop) (d : LnD) (x : Id3) (steps : Int) (w : World) (h : LnAt B X R p A c mark held d d.seen w) (hok : LnOk p mark d) (hc : CanD p mark x) (hd : leafD p x mark = true ∧ 0 < n + 1 ∨ deepD mark x + 1 < n + 1) (h0 : 0 ≤ steps) (hn : steps + (n + 1 : Nat) ≤ 100000) (hth : thereD p mark held x = false) :
 Calls Tryz.prog 117 #[.pointer (some ⟨X.lb, 0, none⟩), idV x, .int .i64 steps] w (ComePost B X.lb R p A c mark held (comeD p mark held (n + 1) d x steps) w) := by
 obtain ⟨xb, xs, xp⟩ := x
 obtain ⟨W, hW⟩ : ∃ W, W = w.alloc (.cells #[.int .i64 xb, .int .i64 xs, .int .i64 xp] 35 (0, 0)) := ⟨_, rfl⟩
 have HBW := Lib.hid (show Below w.heap.size w W from by rw [hW]; exact ext_alloc (Below.refl _ _) _)
 have HXW := Lib.hid (show Bk W w.heap.size 35 #[.int .i64 xb, .int .i64 xs, .int .i64 xp] from by rw [hW]; exact Bk.new _ _ _)
 have H := Lib.hid (h.ext HBW.out)
 have HWW := Lib.hid hW
 have hnb : ∀ k, R k → k < w.heap.size := fun k hk => (h.bd k hk).2
 have HNb := Lib.hid hnb
 have HIh := Lib.hid ih
 have HOk := Lib.hid hok
 have HC := Lib.hid hc
 have HDp := Lib.hid hd
 have l9 : W.cell? ⟨X.lb, 9, none⟩ = some (.int .i64 d.depth) := (H.out.bk.cell 9).trans rfl
 have f9 := H.out.bk.frozen 9
 have z1 := H.out.bk.lt
 have HTf := Lib.hid hth
 clear h hW hnb ih hok hc hd hth
 go_enter Tryz.func117, Tryz.ntmps117
 go_upto_region 1 with fail
 rw [← HWW.out]
 go_cut [16] (fun _ wx => Hid (LnAt B X R p A c mark held (d.at_ steps) d.seen wx) ∧ Hid (Fr R W wx) ∧ Hid (Bk wx w.heap.size 35 #[.int .i64 xb, .int .i64 xs, .int .i64 xp]))
 case first =>
  by_cases hm : d.depth < steps
  · have HM := Lib.hid (show steps = max d.depth steps by omega)
    go_wp2_with fail
    go_meet
    exact ⟨Lib.hid (H.out.deep HM.out), Lib.hid (Fr.refl.set_ (.inl H.out.rl.1) _), Lib.hid (HXW.out.far (p := ⟨X.lb, 9, none⟩) (fun e => by have := HNb.out _ H.out.rl.1; have e' : w.heap.size = X.lb := e; omega) _)⟩
  · have HM := Lib.hid (show d.depth = max d.depth steps by omega)
    go_wp2_with fail
    go_meet
    exact ⟨Lib.hid (H.out.deep HM.out), Lib.hid (Fr.refl.set_ (.inl H.out.rl.1) _), Lib.hid (HXW.out.far (p := ⟨X.lb, 9, none⟩) (fun e => by have := HNb.out _ H.out.rl.1; have e' : w.heap.size = X.lb := e; omega) _)⟩
 case rest =>
  obtain ⟨H1, HF1, HX1⟩ := hcut
  obtain ⟨w1, rfl⟩ : ∃ w1 : World, w1 = wc := ⟨_, rfl⟩
  have x0 : w1.cell? ⟨w.heap.size, 0, none⟩ = some (.int .i64 xb) := (HX1.out.cell 0).trans rfl
  have x1 : w1.cell? ⟨w.heap.size, 1, none⟩ = some (.int .i64 xs) := (HX1.out.cell 1).trans rfl
  have x2 : w1.cell? ⟨w.heap.size, 2, none⟩ = some (.int .i64 xp) := (HX1.out.cell 2).trans rfl
  have xl := HX1.out.lt
  have hlen := (HOk.out.at_ h0 (by omega)).lens hp
  have hul : d.used.length ≤ 816 := hlen.2.2
  have hsl : d.seen.length ≤ 816 := hlen.1
  have hrl : d.ready.length ≤ 816 := hlen.2.1
  clear hlen
  have HTh := Lib.hid (there_c (⟨xb, xs, xp⟩ : Id3) w1 H1.out)
  rw [HTf.out] at HTh
  have HLb := Lib.hid (show X.lb < w.heap.size from HNb.out _ H.out.rl.1)
  have HFa := Lib.hid (show w.heap.size ≠ X.lb from fun e => by have := HLb.out; omega)
  clear l9 f9 z1
  go_upto_region 5 with (first
   | (go_at_call 156; refine HTh.out.mono ?_; rintro e w2 ⟨rfl, hb⟩
      have H2 := Lib.hid (H1.out.ext hb)
      have HX2 := Lib.hid (HX1.out.ext hb)
      have HB2 := Lib.hid hb
      clear hb x0 x1 x2))
  have x0 : w2.cell? ⟨w.heap.size, 0, none⟩ = some (.int .i64 xb) := (HX2.out.cell 0).trans rfl
  have x1 : w2.cell? ⟨w.heap.size, 1, none⟩ = some (.int .i64 xs) := (HX2.out.cell 1).trans rfl
  have x2 : w2.cell? ⟨w.heap.size, 2, none⟩ = some (.int .i64 xp) := (HX2.out.cell 2).trans rfl
  have l5 : w2.cell? ⟨X.lb, 5, none⟩ = some (.map (some X.mb)) := (H2.out.bk.cell 5).trans rfl
  go_cut [62] (fun v62 wx => v62 = .bool (decide ((⟨xb, xs, xp⟩ : Id3) ∈ d.seen)) ∧ Hid (LnAt B X R p A c mark held (d.at_ steps) d.seen wx) ∧ Hid (Bk wx w.heap.size 35 #[.int .i64 xb, .int .i64 xs, .int .i64 xp]) ∧ Hid (Below w2.heap.size w2 wx))
  case first =>
   have hlk := fun n => (H2.out.sm.drewN n).lookup idKey (t := 110) (e := 3) (by kernel_rfl) (zero_intL _) (⟨xb, xs, xp⟩ : Id3)
   by_cases hin : (⟨xb, xs, xp⟩ : Id3) ∈ d.seen
   · simp only [mget_ones, if_pos hin, Option.getD_some, idV] at hlk
     have HI := Lib.hid (decide_eq_true hin)
     clear hin
     go_quiet (fail)
     go_wp2_with fail
     go_meet
     exact ⟨by rw [HI.out], Lib.hid (H2.out.ext (below_drewN (Below.refl _ _) _)), Lib.hid (HX2.out.ext (below_drewN (Below.refl _ _) _)), Lib.hid (below_drewN (Below.refl _ _) _)⟩
   · simp only [mget_ones, if_neg hin, Option.getD_none, idV] at hlk
     have HI := Lib.hid (decide_eq_false hin)
     clear hin
     go_quiet (fail)
     go_wp2_with fail
     go_meet
     exact ⟨by rw [HI.out], Lib.hid (H2.out.ext (below_drewN (Below.refl _ _) _)), Lib.hid (HX2.out.ext (below_drewN (Below.refl _ _) _)), Lib.hid (below_drewN (Below.refl _ _) _)⟩
  case rest =>
   obtain ⟨rfl, H3, HX3, HB3⟩ := hcut
   obtain ⟨w3, rfl⟩ : ∃ w3 : World, w3 = wc := ⟨_, rfl⟩
   clear x0 x1 x2 l5
   obtain ⟨g, hg⟩ : ∃ g, g = decide ((⟨xb, xs, xp⟩ : Id3) ∈ d.seen) := ⟨_, rfl⟩
   rw [← hg]
   cases g with
   | true =>
     have HE := Lib.hid (comeD_seen (n := n) (steps := steps) HTf.out (of_decide_eq_true hg.symm))
     clear hg
     go_wp2_with fail
     go_returns
     rw [HE.out]
     exact ⟨rfl, LnTurn.below HBW.out ⟨X, R, H3.out, rfl, fun k hk => .inl hk, (HF1.out.ext HB2.out).ext HB3.out⟩⟩
   | false =>
     have HNs := Lib.hid (of_decide_eq_false hg.symm)
     clear hg
     go_upto_region 6 with fail
     have x0 : w3.cell? ⟨w.heap.size, 0, none⟩ = some (.int .i64 xb) := (HX3.out.cell 0).trans rfl
     have x1 : w3.cell? ⟨w.heap.size, 1, none⟩ = some (.int .i64 xs) := (HX3.out.cell 1).trans rfl
     have x2 : w3.cell? ⟨w.heap.size, 2, none⟩ = some (.int .i64 xp) := (HX3.out.cell 2).trans rfl
     have l5 : w3.cell? ⟨X.lb, 5, none⟩ = some (.map (some X.mb)) := (H3.out.bk.cell 5).trans rfl
     have xl3 := HX3.out.lt
     have zl3 := H3.out.bk.lt
     go_cut [66] (fun _ wx => Hid (LnAt B X R p A c mark held (d.at_ steps) (d.seen ++ [⟨xb, xs, xp⟩]) wx) ∧ Hid (Bk wx w.heap.size 35 #[.int .i64 xb, .int .i64 xs, .int .i64 xp]) ∧ Hid (Fr R w3 wx))
     case first =>
      obtain ⟨w4, hrun4, hm4, hg4, hs4⟩ := (H3.out.sm.drew).store idKey Tryz.underlying110 (⟨xb, xs, xp⟩ : Id3) (.int .i64 1)
      have HM4 := Lib.hid hm4
      have HG4 := Lib.hid hg4
      simp only [idV] at hrun4
      clear hm4 hg4 hs4
      go_region
      go_wp2_with fail
      go_meet
      have hF4 : Fr (fun k => k = X.mb) w3 w4 := (Fr.drew Fr.refl).trans (Fr.map_ HG4.out) (fun k hk => .inl hk)
      exact ⟨Lib.hid ((H3.out.ext (below_drewN (Below.refl _ _) 1)).mark_ HNs.out HM4.out HG4.out), Lib.hid (HX3.out.fr hF4 (fun e => by have := HNb.out _ H3.out.rm.1; have e' : w.heap.size = X.mb := e; omega)), Lib.hid (hF4.mono (fun k _ hk => by have e : k = X.mb := hk; rw [e]; exact H3.out.rm.1))⟩
     case rest =>
      obtain ⟨H4, HX4, HF4⟩ := hcut
      obtain ⟨w4, rfl⟩ : ∃ w4 : World, w4 = wc := ⟨_, rfl⟩
      clear x0 x1 x2 l5 xl3 zl3
      go_upto_region 7 with fail
      go_cut [76] (fun _ wx => Hid (LnTurn B X.lb R p A c mark held ((d.at_ steps).see ⟨xb, xs, xp⟩) w4 wx) ∧ Hid (Bk wx w.heap.size 35 #[.int .i64 xb, .int .i64 xs, .int .i64 xp]))
      case first =>
       have x0 : w4.cell? ⟨w.heap.size, 0, none⟩ = some (.int .i64 xb) := (HX4.out.cell 0).trans rfl
       have x1 : w4.cell? ⟨w.heap.size, 1, none⟩ = some (.int .i64 xs) := (HX4.out.cell 1).trans rfl
       have x2 : w4.cell? ⟨w.heap.size, 2, none⟩ = some (.int .i64 xp) := (HX4.out.cell 2).trans rfl
       have l6 : w4.cell? ⟨X.lb, 6, none⟩ = some (.slice X.A1 d.seen.length X.c1) := (H4.out.bk.cell 6).trans rfl
       have xl := HX4.out.lt
       have zl := H4.out.bk.lt
       have HE4 := Lib.hid (show Below w4.heap.size w4 (w4.drew.alloc (.cells #[.int .i64 xb, .int .i64 xs, .int .i64 xp] 35 (0, 0))) from ext_alloc (Below.refl _ _).drew _)
       have HN4 := Lib.hid (show Bk (w4.drew.alloc (.cells #[.int .i64 xb, .int .i64 xs, .int .i64 xp] 35 (0, 0))) w4.heap.size 35 #[.int .i64 xb, .int .i64 xs, .int .i64 xp] from Bk.new w4.drew _ _)
       have H5 := Lib.hid (H4.out.ext HE4.out)
       refine wp_region_held_drew (S := (fun w' => w'.cell? ⟨w.heap.size, 0, none⟩ = some (.int .i64 xb) ∧ w'.cell? ⟨w.heap.size, 1, none⟩ = some (.int .i64 xs) ∧ w'.cell? ⟨w.heap.size, 2, none⟩ = some (.int .i64 xp))) (by kernel_rfl) ?_ (fun hHeld => ?_)
       · (first | exact ⟨(HX5.out.cell 0).trans rfl, (HX5.out.cell 1).trans rfl, (HX5.out.cell 2).trans rfl⟩ | exact ⟨((HX5.out.far (p := ⟨X.lb, 6, none⟩) HFa.out _).cell 0).trans rfl, ((HX5.out.far (p := ⟨X.lb, 6, none⟩) HFa.out _).cell 1).trans rfl, ((HX5.out.far (p := ⟨X.lb, 6, none⟩) HFa.out _).cell 2).trans rfl⟩ | exact ⟨x0, x1, x2⟩ | exact ⟨((HX4.out.ext HE4.out).cell 0).trans rfl, ((HX4.out.ext HE4.out).cell 1).trans rfl, ((HX4.out.ext HE4.out).cell 2).trans rfl⟩ | go_keep)
       refine wpAnyH_take (i := 0) (oi := ⟨some 68, .move (.tmp 0), 179, "line.go:54", #[], none⟩) (v := ?v1z0) rfl (by kernel_rfl) (by kernel_rfl) (by kernel_rfl) (fun _ _ _ h => h) (Or.inl ⟨by rfl, ?hy1z0⟩) (by assumption) ?rest1z0
       case hy1z0 => (intro w hSw; (try dsimp only at hSw); go_simp; try (with_reducible rfl))
       simp only [Act.put, List.setIfInBounds_toArray, List.set_cons_zero, List.set_cons_succ]
       refine wpAnyH_take (i := 1) (oi := ⟨some 69, .move (.tmp 0), 179, "line.go:54", #[], none⟩) (v := ?v1z1) rfl (by kernel_rfl) (by kernel_rfl) (by kernel_rfl) (fun _ _ _ h => h) (Or.inl ⟨by rfl, ?hy1z1⟩) (by assumption) ?rest1z1
       case hy1z1 => (intro w hSw; (try dsimp only at hSw); go_simp; try (with_reducible rfl))
       simp only [Act.put, List.setIfInBounds_toArray, List.set_cons_zero, List.set_cons_succ]
       refine wpAnyH_take (i := 2) (oi := ⟨some 70, .nilCheck (.tmp 69), 0, "line.go:54", #[⟨1, .data⟩], none⟩) (v := ?v1z2) rfl (by kernel_rfl) (by kernel_rfl) (by kernel_rfl) (fun _ _ _ h => h) (Or.inl ⟨by rfl, ?hy1z2⟩) (by assumption) ?rest1z2
       case hy1z2 => (intro w hSw; (try dsimp only at hSw); go_simp; try (with_reducible rfl))
       simp only [Act.put, List.setIfInBounds_toArray, List.set_cons_zero, List.set_cons_succ]
       refine wpAnyH_take (i := 3) (oi := ⟨some 71, .fieldAddr 181 (.tmp 70) 5, 0, "line.go:54", #[⟨2, .data⟩], none⟩) (v := ?v1z3) rfl (by kernel_rfl) (by kernel_rfl) (by kernel_rfl) (fun _ _ _ h => h) (Or.inl ⟨by rfl, ?hy1z3⟩) (by assumption) ?rest1z3
       case hy1z3 => (intro w hSw; (try dsimp only at hSw); go_simp; try (with_reducible rfl))
       simp only [Act.put, List.setIfInBounds_toArray, List.set_cons_zero, List.set_cons_succ]
       refine wpAnyH_take (i := 4) (oi := ⟨some 72, .fieldAddr 120 (.tmp 71) 0, 0, "line.go:54", #[⟨3, .data⟩], none⟩) (v := ?v1z4) rfl (by kernel_rfl) (by kernel_rfl) (by kernel_rfl) (fun _ _ _ h => h) (Or.inl ⟨by rfl, ?hy1z4⟩) (by assumption) ?rest1z4
       case hy1z4 => (intro w hSw; (try dsimp only at hSw); go_simp; try (with_reducible rfl))
       simp only [Act.put, List.setIfInBounds_toArray, List.set_cons_zero, List.set_cons_succ]
       refine wpAnyH_take (i := 6) (oi := ⟨some 74, .load 35 (.tmp 4), 35, "line.go:54", #[], none⟩) (v := ?v1z6) rfl (by kernel_rfl) (by kernel_rfl) (by kernel_rfl) (fun _ _ _ h => h) (Or.inl ⟨by rfl, ?hy1z6⟩) (by assumption) ?rest1z6
       case hy1z6 => (intro w hSw; (try dsimp only at hSw); go_simp; try (with_reducible rfl))
       simp only [Act.put, List.setIfInBounds_toArray, List.set_cons_zero, List.set_cons_succ]
       refine wpAnyH_ready (rs := [5, 7]) (by kernel_rfl) (by simp) ?_
       refine AllReadyH.cons (o := ⟨some 73, .load 33 (.tmp 72), 33, "line.go:54", #[⟨4, .data⟩], none⟩) rfl (fun K hK => ?_) ?_
       ·
         go_simp
         refine hK.out _ _ ?_ (fun hHeld => ?_)
         · (first | exact ⟨(HX5.out.cell 0).trans rfl, (HX5.out.cell 1).trans rfl, (HX5.out.cell 2).trans rfl⟩ | exact ⟨((HX5.out.far (p := ⟨X.lb, 6, none⟩) HFa.out _).cell 0).trans rfl, ((HX5.out.far (p := ⟨X.lb, 6, none⟩) HFa.out _).cell 1).trans rfl, ((HX5.out.far (p := ⟨X.lb, 6, none⟩) HFa.out _).cell 2).trans rfl⟩ | exact ⟨x0, x1, x2⟩ | exact ⟨((HX4.out.ext HE4.out).cell 0).trans rfl, ((HX4.out.ext HE4.out).cell 1).trans rfl, ((HX4.out.ext HE4.out).cell 2).trans rfl⟩ | go_keep)
         clear hK K
         try simp only [Act.put, List.setIfInBounds_toArray, List.set_cons_zero, List.set_cons_succ]
         refine wpAnyH_ready (rs := [7]) (by kernel_rfl) (by simp) ?_
         refine AllReadyH.cons (o := ⟨some 75, .buildSlice 33 1 #[(0, .tmp 74)], 33, "line.go:54", #[⟨6, .data⟩], none⟩) rfl (fun K hK => ?_) ?_
         ·
           go_simp
           refine hK.out _ _ ?_ (fun hHeld => ?_)
           · (first | exact ⟨(HX5.out.cell 0).trans rfl, (HX5.out.cell 1).trans rfl, (HX5.out.cell 2).trans rfl⟩ | exact ⟨((HX5.out.far (p := ⟨X.lb, 6, none⟩) HFa.out _).cell 0).trans rfl, ((HX5.out.far (p := ⟨X.lb, 6, none⟩) HFa.out _).cell 1).trans rfl, ((HX5.out.far (p := ⟨X.lb, 6, none⟩) HFa.out _).cell 2).trans rfl⟩ | exact ⟨x0, x1, x2⟩ | exact ⟨((HX4.out.ext HE4.out).cell 0).trans rfl, ((HX4.out.ext HE4.out).cell 1).trans rfl, ((HX4.out.ext HE4.out).cell 2).trans rfl⟩ | go_keep)
           clear hK K
           try simp only [Act.put, List.setIfInBounds_toArray, List.set_cons_zero, List.set_cons_succ]
           refine wpAnyH_ready (rs := [8]) (by kernel_rfl) (by simp) ?_
           refine AllReadyH.cons (o := ⟨some 76, .call { callee := .builtin .append, args := #[.tmp 73, .tmp 75], argTypes := #[33, 33] }, 33, "line.go:54", #[⟨5, .data⟩, ⟨7, .data⟩], none⟩) rfl (fun K hK => ?_) ?_
           ·
             refine step_appG id_app _ rfl (.tmp 73) (.tmp 75) rfl B (.slice X.A1 d.seen.length X.c1) d.seen (by rfl) H5.out.s1 (⟨xb, xs, xp⟩ : Id3) w4.heap.size (by rfl) HN4.out (by omega) (by have h5 := H5.out.hB; exact h5) ?_
             intro A5 c5 w5 hown5 hg5 hc5 hn5
             have HO5 := Lib.hid hown5
             have HG5 := Lib.hid hg5
             have HN5 := Lib.hid hn5
             have HX5 := Lib.hid ((HX4.out.ext HE4.out).grown hg5 (fun e => by
              rcases H4.out.s1.2 with ⟨hv, _⟩ | ⟨g, c', cur, hv, _, hgg, _⟩
              · have hv' : X.v1 (d.at_ steps) = .slice X.A1 d.seen.length X.c1 := rfl
                rw [← hv', hv] at e; cases e
              · have hv' : X.v1 (d.at_ steps) = .slice X.A1 d.seen.length X.c1 := rfl
                have h7 := (H4.out.r1 g (by rw [hv]; rfl)).1
                have h8 := HNb.out g h7
                rw [← hv', hv] at e
                injection e with e
                have e' : w.heap.size = g := e
                omega))
             have HK5 := Lib.hid (H5.out.bk.grown hg5 (fun e => own_ne_bk H5.out.s1 H5.out.bk (by decide) e.symm))
             have r1 := HK5.out.frozen 6
             have r2 : w5.cell? ⟨X.lb, 6, none⟩ = some (.slice X.A1 d.seen.length X.c1) := (HK5.out.cell 6).trans rfl
             have r3 := HK5.out.lt
             clear hown5 hg5 hn5
             refine hK.out _ _ ?_ (fun hHeld => ?_)
             · (first | exact ⟨(HX5.out.cell 0).trans rfl, (HX5.out.cell 1).trans rfl, (HX5.out.cell 2).trans rfl⟩ | exact ⟨((HX5.out.far (p := ⟨X.lb, 6, none⟩) HFa.out _).cell 0).trans rfl, ((HX5.out.far (p := ⟨X.lb, 6, none⟩) HFa.out _).cell 1).trans rfl, ((HX5.out.far (p := ⟨X.lb, 6, none⟩) HFa.out _).cell 2).trans rfl⟩ | exact ⟨x0, x1, x2⟩ | exact ⟨((HX4.out.ext HE4.out).cell 0).trans rfl, ((HX4.out.ext HE4.out).cell 1).trans rfl, ((HX4.out.ext HE4.out).cell 2).trans rfl⟩ | go_keep)
             clear hK K
             try simp only [Act.put, List.setIfInBounds_toArray, List.set_cons_zero, List.set_cons_succ]
             refine wpAnyH_take (i := 9) (oi := ⟨some 77, .nilCheck (.tmp 68), 0, "line.go:54", #[⟨0, .data⟩, ⟨0, .phase⟩, ⟨1, .phase⟩, ⟨2, .phase⟩, ⟨3, .phase⟩, ⟨4, .phase⟩, ⟨5, .phase⟩, ⟨6, .phase⟩, ⟨7, .phase⟩, ⟨8, .phase⟩], none⟩) (v := ?v1z9) rfl (by kernel_rfl) (by kernel_rfl) (by kernel_rfl) (fun _ _ _ h => h) (Or.inl ⟨by rfl, ?hy1z9⟩) (by assumption) ?rest1z9
             case hy1z9 => (intro w hSw; (try dsimp only at hSw); go_simp; try (with_reducible rfl))
             simp only [Act.put, List.setIfInBounds_toArray, List.set_cons_zero, List.set_cons_succ]
             refine wpAnyH_take (i := 10) (oi := ⟨some 78, .fieldAddr 181 (.tmp 77) 5, 0, "line.go:54", #[⟨9, .data⟩, ⟨0, .phase⟩, ⟨1, .phase⟩, ⟨2, .phase⟩, ⟨3, .phase⟩, ⟨4, .phase⟩, ⟨5, .phase⟩, ⟨6, .phase⟩, ⟨7, .phase⟩, ⟨8, .phase⟩], none⟩) (v := ?v1z10) rfl (by kernel_rfl) (by kernel_rfl) (by kernel_rfl) (fun _ _ _ h => h) (Or.inl ⟨by rfl, ?hy1z10⟩) (by assumption) ?rest1z10
             case hy1z10 => (intro w hSw; (try dsimp only at hSw); go_simp; try (with_reducible rfl))
             simp only [Act.put, List.setIfInBounds_toArray, List.set_cons_zero, List.set_cons_succ]
             refine wpAnyH_take (i := 11) (oi := ⟨some 79, .fieldAddr 120 (.tmp 78) 0, 0, "line.go:54", #[⟨10, .data⟩, ⟨0, .phase⟩, ⟨1, .phase⟩, ⟨2, .phase⟩, ⟨3, .phase⟩, ⟨4, .phase⟩, ⟨5, .phase⟩, ⟨6, .phase⟩, ⟨7, .phase⟩, ⟨8, .phase⟩], none⟩) (v := ?v1z11) rfl (by kernel_rfl) (by kernel_rfl) (by kernel_rfl) (fun _ _ _ h => h) (Or.inl ⟨by rfl, ?hy1z11⟩) (by assumption) ?rest1z11
             case hy1z11 => (intro w hSw; (try dsimp only at hSw); go_simp; try (with_reducible rfl))
             simp only [Act.put, List.setIfInBounds_toArray, List.set_cons_zero, List.set_cons_succ]
             refine wpAnyH_ready (rs := [12]) (by kernel_rfl) (by simp) ?_
             refine AllReadyH.cons (o := ⟨none, .store 33 (.tmp 79) (.tmp 76), 0, "line.go:54", #[⟨11, .data⟩, ⟨8, .data⟩, ⟨8, .chain⟩, ⟨0, .phase⟩, ⟨1, .phase⟩, ⟨2, .phase⟩, ⟨3, .phase⟩, ⟨4, .phase⟩, ⟨5, .phase⟩, ⟨6, .phase⟩, ⟨7, .phase⟩, ⟨8, .phase⟩], none⟩) rfl (fun K hK => ?_) ?_
             ·
               go_simp
               refine hK.out _ _ ?_ (fun hHeld => ?_)
               · (first | exact ⟨(HX5.out.cell 0).trans rfl, (HX5.out.cell 1).trans rfl, (HX5.out.cell 2).trans rfl⟩ | exact ⟨((HX5.out.far (p := ⟨X.lb, 6, none⟩) HFa.out _).cell 0).trans rfl, ((HX5.out.far (p := ⟨X.lb, 6, none⟩) HFa.out _).cell 1).trans rfl, ((HX5.out.far (p := ⟨X.lb, 6, none⟩) HFa.out _).cell 2).trans rfl⟩ | exact ⟨x0, x1, x2⟩ | exact ⟨((HX4.out.ext HE4.out).cell 0).trans rfl, ((HX4.out.ext HE4.out).cell 1).trans rfl, ((HX4.out.ext HE4.out).cell 2).trans rfl⟩ | go_keep)
               clear hK K
               try simp only [Act.put]
               refine wpAnyH_done (by kernel_rfl) ?_ _
               go_wp2_with fail
               go_meet
               refine ⟨Lib.hid ?_, Lib.hid (HX5.out.far (p := ⟨X.lb, 6, none⟩) (fun e => by have e' : w.heap.size = X.lb := e; have := HLb.out; omega) _)⟩
               rw [show d.seen.length + 1 = ((d.at_ steps).seen ++ [(⟨xb, xs, xp⟩ : Id3)]).length from by rw [List.length_append]; rfl]
               exact LnAt.see_ H4.out HE4.out HO5.out HG5.out HN5.out
             exact AllReadyH.nil
           exact AllReadyH.nil
         exact AllReadyH.nil
       refine AllReadyH.cons (o := ⟨some 75, .buildSlice 33 1 #[(0, .tmp 74)], 33, "line.go:54", #[⟨6, .data⟩], none⟩) rfl (fun K hK => ?_) ?_
       ·
         go_simp
         refine hK.out _ _ ?_ (fun hHeld => ?_)
         · (first | exact ⟨(HX5.out.cell 0).trans rfl, (HX5.out.cell 1).trans rfl, (HX5.out.cell 2).trans rfl⟩ | exact ⟨((HX5.out.far (p := ⟨X.lb, 6, none⟩) HFa.out _).cell 0).trans rfl, ((HX5.out.far (p := ⟨X.lb, 6, none⟩) HFa.out _).cell 1).trans rfl, ((HX5.out.far (p := ⟨X.lb, 6, none⟩) HFa.out _).cell 2).trans rfl⟩ | exact ⟨x0, x1, x2⟩ | exact ⟨((HX4.out.ext HE4.out).cell 0).trans rfl, ((HX4.out.ext HE4.out).cell 1).trans rfl, ((HX4.out.ext HE4.out).cell 2).trans rfl⟩ | go_keep)
         clear hK K
         try simp only [Act.put, List.setIfInBounds_toArray, List.set_cons_zero, List.set_cons_succ]
         refine wpAnyH_ready (rs := [5]) (by kernel_rfl) (by simp) ?_
         refine AllReadyH.cons (o := ⟨some 73, .load 33 (.tmp 72), 33, "line.go:54", #[⟨4, .data⟩], none⟩) rfl (fun K hK => ?_) ?_
         ·
           go_simp
           refine hK.out _ _ ?_ (fun hHeld => ?_)
           · (first | exact ⟨(HX5.out.cell 0).trans rfl, (HX5.out.cell 1).trans rfl, (HX5.out.cell 2).trans rfl⟩ | exact ⟨((HX5.out.far (p := ⟨X.lb, 6, none⟩) HFa.out _).cell 0).trans rfl, ((HX5.out.far (p := ⟨X.lb, 6, none⟩) HFa.out _).cell 1).trans rfl, ((HX5.out.far (p := ⟨X.lb, 6, none⟩) HFa.out _).cell 2).trans rfl⟩ | exact ⟨x0, x1, x2⟩ | exact ⟨((HX4.out.ext HE4.out).cell 0).trans rfl, ((HX4.out.ext HE4.out).cell 1).trans rfl, ((HX4.out.ext HE4.out).cell 2).trans rfl⟩ | go_keep)
           clear hK K
           try simp only [Act.put, List.setIfInBounds_toArray, List.set_cons_zero, List.set_cons_succ]
           refine wpAnyH_ready (rs := [8]) (by kernel_rfl) (by simp) ?_
           refine AllReadyH.cons (o := ⟨some 76, .call { callee := .builtin .append, args := #[.tmp 73, .tmp 75], argTypes := #[33, 33] }, 33, "line.go:54", #[⟨5, .data⟩, ⟨7, .data⟩], none⟩) rfl (fun K hK => ?_) ?_
           ·
             refine step_appG id_app _ rfl (.tmp 73) (.tmp 75) rfl B (.slice X.A1 d.seen.length X.c1) d.seen (by rfl) H5.out.s1 (⟨xb, xs, xp⟩ : Id3) w4.heap.size (by rfl) HN4.out (by omega) (by have h5 := H5.out.hB; exact h5) ?_
             intro A5 c5 w5 hown5 hg5 hc5 hn5
             have HO5 := Lib.hid hown5
             have HG5 := Lib.hid hg5
             have HN5 := Lib.hid hn5
             have HX5 := Lib.hid ((HX4.out.ext HE4.out).grown hg5 (fun e => by
              rcases H4.out.s1.2 with ⟨hv, _⟩ | ⟨g, c', cur, hv, _, hgg, _⟩
              · have hv' : X.v1 (d.at_ steps) = .slice X.A1 d.seen.length X.c1 := rfl
                rw [← hv', hv] at e; cases e
              · have hv' : X.v1 (d.at_ steps) = .slice X.A1 d.seen.length X.c1 := rfl
                have h7 := (H4.out.r1 g (by rw [hv]; rfl)).1
                have h8 := HNb.out g h7
                rw [← hv', hv] at e
                injection e with e
                have e' : w.heap.size = g := e
                omega))
             have HK5 := Lib.hid (H5.out.bk.grown hg5 (fun e => own_ne_bk H5.out.s1 H5.out.bk (by decide) e.symm))
             have r1 := HK5.out.frozen 6
             have r2 : w5.cell? ⟨X.lb, 6, none⟩ = some (.slice X.A1 d.seen.length X.c1) := (HK5.out.cell 6).trans rfl
             have r3 := HK5.out.lt
             clear hown5 hg5 hn5
             refine hK.out _ _ ?_ (fun hHeld => ?_)
             · (first | exact ⟨(HX5.out.cell 0).trans rfl, (HX5.out.cell 1).trans rfl, (HX5.out.cell 2).trans rfl⟩ | exact ⟨((HX5.out.far (p := ⟨X.lb, 6, none⟩) HFa.out _).cell 0).trans rfl, ((HX5.out.far (p := ⟨X.lb, 6, none⟩) HFa.out _).cell 1).trans rfl, ((HX5.out.far (p := ⟨X.lb, 6, none⟩) HFa.out _).cell 2).trans rfl⟩ | exact ⟨x0, x1, x2⟩ | exact ⟨((HX4.out.ext HE4.out).cell 0).trans rfl, ((HX4.out.ext HE4.out).cell 1).trans rfl, ((HX4.out.ext HE4.out).cell 2).trans rfl⟩ | go_keep)
             clear hK K
             try simp only [Act.put, List.setIfInBounds_toArray, List.set_cons_zero, List.set_cons_succ]
             refine wpAnyH_take (i := 9) (oi := ⟨some 77, .nilCheck (.tmp 68), 0, "line.go:54", #[⟨0, .data⟩, ⟨0, .phase⟩, ⟨1, .phase⟩, ⟨2, .phase⟩, ⟨3, .phase⟩, ⟨4, .phase⟩, ⟨5, .phase⟩, ⟨6, .phase⟩, ⟨7, .phase⟩, ⟨8, .phase⟩], none⟩) (v := ?v1z9x1) rfl (by kernel_rfl) (by kernel_rfl) (by kernel_rfl) (fun _ _ _ h => h) (Or.inl ⟨by rfl, ?hy1z9x1⟩) (by assumption) ?rest1z9x1
             case hy1z9x1 => (intro w hSw; (try dsimp only at hSw); go_simp; try (with_reducible rfl))
             simp only [Act.put, List.setIfInBounds_toArray, List.set_cons_zero, List.set_cons_succ]
             refine wpAnyH_take (i := 10) (oi := ⟨some 78, .fieldAddr 181 (.tmp 77) 5, 0, "line.go:54", #[⟨9, .data⟩, ⟨0, .phase⟩, ⟨1, .phase⟩, ⟨2, .phase⟩, ⟨3, .phase⟩, ⟨4, .phase⟩, ⟨5, .phase⟩, ⟨6, .phase⟩, ⟨7, .phase⟩, ⟨8, .phase⟩], none⟩) (v := ?v1z10x1) rfl (by kernel_rfl) (by kernel_rfl) (by kernel_rfl) (fun _ _ _ h => h) (Or.inl ⟨by rfl, ?hy1z10x1⟩) (by assumption) ?rest1z10x1
             case hy1z10x1 => (intro w hSw; (try dsimp only at hSw); go_simp; try (with_reducible rfl))
             simp only [Act.put, List.setIfInBounds_toArray, List.set_cons_zero, List.set_cons_succ]
             refine wpAnyH_take (i := 11) (oi := ⟨some 79, .fieldAddr 120 (.tmp 78) 0, 0, "line.go:54", #[⟨10, .data⟩, ⟨0, .phase⟩, ⟨1, .phase⟩, ⟨2, .phase⟩, ⟨3, .phase⟩, ⟨4, .phase⟩, ⟨5, .phase⟩, ⟨6, .phase⟩, ⟨7, .phase⟩, ⟨8, .phase⟩], none⟩) (v := ?v1z11x1) rfl (by kernel_rfl) (by kernel_rfl) (by kernel_rfl) (fun _ _ _ h => h) (Or.inl ⟨by rfl, ?hy1z11x1⟩) (by assumption) ?rest1z11x1
             case hy1z11x1 => (intro w hSw; (try dsimp only at hSw); go_simp; try (with_reducible rfl))
             simp only [Act.put, List.setIfInBounds_toArray, List.set_cons_zero, List.set_cons_succ]
             refine wpAnyH_ready (rs := [12]) (by kernel_rfl) (by simp) ?_
             refine AllReadyH.cons (o := ⟨none, .store 33 (.tmp 79) (.tmp 76), 0, "line.go:54", #[⟨11, .data⟩, ⟨8, .data⟩, ⟨8, .chain⟩, ⟨0, .phase⟩, ⟨1, .phase⟩, ⟨2, .phase⟩, ⟨3, .phase⟩, ⟨4, .phase⟩, ⟨5, .phase⟩, ⟨6, .phase⟩, ⟨7, .phase⟩, ⟨8, .phase⟩], none⟩) rfl (fun K hK => ?_) ?_
             ·
               go_simp
               refine hK.out _ _ ?_ (fun hHeld => ?_)
               · (first | exact ⟨(HX5.out.cell 0).trans rfl, (HX5.out.cell 1).trans rfl, (HX5.out.cell 2).trans rfl⟩ | exact ⟨((HX5.out.far (p := ⟨X.lb, 6, none⟩) HFa.out _).cell 0).trans rfl, ((HX5.out.far (p := ⟨X.lb, 6, none⟩) HFa.out _).cell 1).trans rfl, ((HX5.out.far (p := ⟨X.lb, 6, none⟩) HFa.out _).cell 2).trans rfl⟩ | exact ⟨x0, x1, x2⟩ | exact ⟨((HX4.out.ext HE4.out).cell 0).trans rfl, ((HX4.out.ext HE4.out).cell 1).trans rfl, ((HX4.out.ext HE4.out).cell 2).trans rfl⟩ | go_keep)
               clear hK K
               try simp only [Act.put]
               refine wpAnyH_done (by kernel_rfl) ?_ _
               go_wp2_with fail
               go_meet
               refine ⟨Lib.hid ?_, Lib.hid (HX5.out.far (p := ⟨X.lb, 6, none⟩) (fun e => by have e' : w.heap.size = X.lb := e; have := HLb.out; omega) _)⟩
               rw [show d.seen.length + 1 = ((d.at_ steps).seen ++ [(⟨xb, xs, xp⟩ : Id3)]).length from by rw [List.length_append]; rfl]
               exact LnAt.see_ H4.out HE4.out HO5.out HG5.out HN5.out
             exact AllReadyH.nil
           exact AllReadyH.nil
         exact AllReadyH.nil
       exact AllReadyH.nil
      case rest =>
       obtain ⟨HL5, HX5⟩ := hcut
       obtain ⟨w5, rfl⟩ : ∃ w5 : World, w5 = wc := ⟨_, rfl⟩
       obtain ⟨X5, R5, hA5, hlb5, hR5, hF5⟩ := HL5.out
       have HA5 := Lib.hid hA5
       have HR5 := Lib.hid hR5
       have HF5 := Lib.hid hF5
       have x0 : w5.cell? ⟨w.heap.size, 0, none⟩ = some (.int .i64 xb) := (HX5.out.cell 0).trans rfl
       have x1 : w5.cell? ⟨w.heap.size, 1, none⟩ = some (.int .i64 xs) := (HX5.out.cell 1).trans rfl
       have x2 : w5.cell? ⟨w.heap.size, 2, none⟩ = some (.int .i64 xp) := (HX5.out.cell 2).trans rfl
       have l2 : w5.cell? ⟨X.lb, 2, none⟩ = some (.pointer (some ⟨X5.wyb, 0, none⟩)) := by rw [← hlb5]; exact (hA5.bk.cell 2).trans rfl
       have xl := HX5.out.lt
       have zl : X.lb < w5.heap.size := by rw [← hlb5]; exact hA5.bk.lt
       have HLB5 := Lib.hid hlb5
       have HLf := Lib.hid (show leafD p ⟨xb, xs, xp⟩ mark = false from by
        cases hl : leafD p ⟨xb, xs, xp⟩ mark with
        | false => rfl
        | true => have h1 := HTf.out; unfold thereD at h1; rw [hl] at h1; cases h1)
       have HNd := Lib.hid (needs_x B X5.wyb X5.Rw p A X5.K c X5.kc mark ⟨xb, xs, xp⟩ w5.drew (HA5.out.ways.ext (below_drewN (Below.refl _ _) 1)) hp HC.out)
       have hll := needsX_len hp HC.out
       have HCa := Lib.hid (fun y (hy : y ∈ needsX p ⟨xb, xs, xp⟩) => needs_can hp HC.out HLf.out hy)
       have HFo := Lib.hid (foldD_ok (n := n) (steps := steps) (held := held) hp HOk.out HC.out HNs.out HLf.out h0 hn)
       have HE := Lib.hid (comeD_new (n := n) (steps := steps) HTf.out HNs.out)
       have HSn := Lib.hid (fun (i : Nat) (y : Id3) (h : (needsX p ⟨xb, xs, xp⟩)[i]? = some y) => foldD_snoc (p := p) (mark := mark) (held := held) (n := n) (d := d) (x := ⟨xb, xs, xp⟩) (steps := steps) h)
       have HF0 := Lib.hid (show foldD p mark held n d ⟨xb, xs, xp⟩ steps ((needsX p ⟨xb, xs, xp⟩).take 0) = ((d.at_ steps).see ⟨xb, xs, xp⟩, true) from by rw [List.take_zero]; rfl)
       obtain ⟨fo, hfo⟩ : ∃ fo : Nat → LnD × Bool, fo = fun i => foldD p mark held n d ⟨xb, xs, xp⟩ steps ((needsX p ⟨xb, xs, xp⟩).take i) := ⟨_, rfl⟩
       have hfi : ∀ i, foldD p mark held n d ⟨xb, xs, xp⟩ steps ((needsX p ⟨xb, xs, xp⟩).take i) = fo i := fun i => by rw [hfo]
       have HFi := Lib.hid (show foldD p mark held n d ⟨xb, xs, xp⟩ steps (needsX p ⟨xb, xs, xp⟩) = fo (needsX p ⟨xb, xs, xp⟩).length from by rw [← hfi, List.take_length])
       rw [HFi.out] at HE
       simp only [hfi] at HFo HSn HF0
       obtain ⟨l, hl⟩ : ∃ l, l = needsX p ⟨xb, xs, xp⟩ := ⟨_, rfl⟩
       rw [← hl] at HNd hll HCa HE HSn
       clear hl hfo hfi HFi hA5 hR5 hF5 hlb5
       go_upto_region 9 with fail
       go_cut [85, 86, 87] (fun v85 v86 v87 wx => ∃ (A6 : Option Addr) (c6 : Nat), v85 = .slice A6 l.length c6 ∧ v86 = .int .i64 (l.length : Nat) ∧ v87 = .int .i64 0 ∧ Hid (CStep B X.lb R p A c mark held w4 w.heap.size ⟨xb, xs, xp⟩ w5.heap.size (.slice A6 l.length c6) l (fo 0).1 wx))
       case first =>
        refine wp_region_held_drew (S := (fun w' => w'.cell? ⟨w.heap.size, 0, none⟩ = some (.int .i64 xb) ∧ w'.cell? ⟨w.heap.size, 1, none⟩ = some (.int .i64 xs) ∧ w'.cell? ⟨w.heap.size, 2, none⟩ = some (.int .i64 xp) ∧ w'.cell? ⟨X.lb, 2, none⟩ = some (.pointer (some ⟨X5.wyb, 0, none⟩)))) (by kernel_rfl) ?_ (fun hHeld => ?_)
        · (first | exact ⟨(HX6.out.cell 0).trans rfl, (HX6.out.cell 1).trans rfl, (HX6.out.cell 2).trans rfl, by rw [← HLB5.out]; exact (H6.out.bk.cell 2).trans rfl⟩ | exact ⟨x0, x1, x2, l2⟩ | go_keep)
        refine wpAnyH_take (i := 0) (oi := ⟨some 80, .move (.tmp 0), 179, "line.go:56", #[], none⟩) (v := ?v2z0) rfl (by kernel_rfl) (by kernel_rfl) (by kernel_rfl) (fun _ _ _ h => h) (Or.inl ⟨by rfl, ?hy2z0⟩) (by assumption) ?rest2z0
        case hy2z0 => (intro w hSw; (try dsimp only at hSw); go_simp; try (with_reducible rfl))
        simp only [Act.put, List.setIfInBounds_toArray, List.set_cons_zero, List.set_cons_succ]
        refine wpAnyH_take (i := 1) (oi := ⟨some 81, .nilCheck (.tmp 80), 0, "line.go:56", #[⟨0, .data⟩], none⟩) (v := ?v2z1) rfl (by kernel_rfl) (by kernel_rfl) (by kernel_rfl) (fun _ _ _ h => h) (Or.inl ⟨by rfl, ?hy2z1⟩) (by assumption) ?rest2z1
        case hy2z1 => (intro w hSw; (try dsimp only at hSw); go_simp; try (with_reducible rfl))
        simp only [Act.put, List.setIfInBounds_toArray, List.set_cons_zero, List.set_cons_succ]
        refine wpAnyH_take (i := 2) (oi := ⟨some 82, .fieldAddr 181 (.tmp 81) 1, 0, "line.go:56", #[⟨1, .data⟩], none⟩) (v := ?v2z2) rfl (by kernel_rfl) (by kernel_rfl) (by kernel_rfl) (fun _ _ _ h => h) (Or.inl ⟨by rfl, ?hy2z2⟩) (by assumption) ?rest2z2
        case hy2z2 => (intro w hSw; (try dsimp only at hSw); go_simp; try (with_reducible rfl))
        simp only [Act.put, List.setIfInBounds_toArray, List.set_cons_zero, List.set_cons_succ]
        refine wpAnyH_take (i := 3) (oi := ⟨some 83, .load 107 (.tmp 82), 107, "line.go:56", #[⟨2, .data⟩], none⟩) (v := ?v2z3) rfl (by kernel_rfl) (by kernel_rfl) (by kernel_rfl) (fun _ _ _ h => h) (Or.inl ⟨by rfl, ?hy2z3⟩) (by assumption) ?rest2z3
        case hy2z3 => (intro w hSw; (try dsimp only at hSw); go_simp; try (with_reducible rfl))
        simp only [Act.put, List.setIfInBounds_toArray, List.set_cons_zero, List.set_cons_succ]
        refine wpAnyH_take (i := 4) (oi := ⟨some 84, .load 35 (.tmp 4), 35, "line.go:56", #[], none⟩) (v := ?v2z4) rfl (by kernel_rfl) (by kernel_rfl) (by kernel_rfl) (fun _ _ _ h => h) (Or.inl ⟨by rfl, ?hy2z4⟩) (by assumption) ?rest2z4
        case hy2z4 => (intro w hSw; (try dsimp only at hSw); go_simp; try (with_reducible rfl))
        simp only [Act.put, List.setIfInBounds_toArray, List.set_cons_zero, List.set_cons_succ]
        refine wpAnyH_take (i := 7) (oi := ⟨some 87, .move (.const (.int .i64 0)), 3, "line.go:56", #[], none⟩) (v := ?v2z7) rfl (by kernel_rfl) (by kernel_rfl) (by kernel_rfl) (fun _ _ _ h => h) (Or.inl ⟨by rfl, ?hy2z7⟩) (by assumption) ?rest2z7
        case hy2z7 => (intro w hSw; (try dsimp only at hSw); go_simp; try (with_reducible rfl))
        simp only [Act.put, List.setIfInBounds_toArray, List.set_cons_zero, List.set_cons_succ]
        refine wpAnyH_ready (rs := [5]) (by kernel_rfl) (by simp) ?_
        refine AllReadyH.cons (o := ⟨some 85, .call { callee := .value (.func 82), args := #[.tmp 83, .tmp 84], argTypes := #[107, 35] }, 33, "line.go:56", #[⟨3, .data⟩, ⟨4, .data⟩], none⟩) rfl (fun K hK => ?_) ?_
        ·
          go_simp
          go_at_call 82
          refine HNd.out.mono ?_
          rintro e w6 ⟨A6, c6, R6, rfl, hown6, hF6, hW6, hR6, hd6⟩
          have H6 := Lib.hid ((HA5.out.ext (below_drewN (Below.refl _ _) 1)).waysT hW6 hF6 hR6)
          have HX6 := Lib.hid ((HX5.out.drew).fr hF6 (fun hk => by
           have h1 := HA5.out.rw_ _ hk
           rcases HR5.out _ h1 with h2 | h2
           · have := HNb.out _ h2; omega
           · have := HX4.out.lt; omega))
          have HO6 := Lib.hid hown6
          have HF6 := Lib.hid hF6
          have HR6 := Lib.hid hR6
          have HD6 := Lib.hid hd6
          clear hown6 hF6 hW6 hR6 hd6
          refine hK.out _ _ ?_ (fun hHeld => ?_)
          · (first | exact ⟨(HX6.out.cell 0).trans rfl, (HX6.out.cell 1).trans rfl, (HX6.out.cell 2).trans rfl, by rw [← HLB5.out]; exact (H6.out.bk.cell 2).trans rfl⟩ | exact ⟨x0, x1, x2, l2⟩ | go_keep)
          clear hK K
          try simp only [Act.put, List.setIfInBounds_toArray, List.set_cons_zero, List.set_cons_succ]
          refine wpAnyH_take (i := 6) (oi := ⟨some 86, .call { callee := .builtin .len, args := #[.tmp 85], argTypes := #[33] }, 3, "line.go:56", #[⟨5, .data⟩], none⟩) (v := ?v2z6) rfl (by kernel_rfl) (by kernel_rfl) (by kernel_rfl) (fun _ _ _ h => h) (Or.inl ⟨by rfl, ?hy2z6⟩) (by assumption) ?rest2z6
          case hy2z6 => (intro w hSw; (try dsimp only at hSw); go_simp; try (with_reducible rfl))
          simp only [Act.put, List.setIfInBounds_toArray, List.set_cons_zero, List.set_cons_succ]
          refine wpAnyH_done (by kernel_rfl) ?_ _
          have HS6 := Lib.hid (show CStep B X.lb R p A c mark held w4 w.heap.size ⟨xb, xs, xp⟩ w5.heap.size (.slice A6 l.length c6) l (fo 0).1 w6 from by
           rw [HF0.out]
           have hbd := HA5.out.bd
           have hx4 := HX4.out.lt
           refine ⟨_, fun k => R5 k ∨ R6 k, H6.out, HLB5.out, fun k hk => ?_, fun hk => ?_, (HF5.out.drew).trans HF6.out (fun k hk => HR5.out k (HA5.out.rw_ k hk)), HX6.out, HO6.out, fun k hk hr => ?_⟩
           · rcases hk with hk | hk
             · exact HR5.out k hk
             · rcases HR6.out k hk with h1 | h1
               · exact HR5.out k (HA5.out.rw_ k h1)
               · have h2 := HF5.out.size
                 have h3 : w5.heap.size ≤ k := h1
                 exact .inr (by omega)
           · rcases hk with hk | hk
             · rcases HR5.out _ hk with h2 | h2
               · have := HNb.out _ h2; omega
               · omega
             · rcases HR6.out _ hk with h1 | h1
               · rcases HR5.out _ (HA5.out.rw_ _ h1) with h2 | h2
                 · have := HNb.out _ h2; omega
                 · omega
               · have h3 : w5.heap.size ≤ w.heap.size := h1
                 omega
           · rcases hr with hr | hr
             · have h1 := (hbd k hr).2
               have h2 := (HO6.out.lt k hk).1
               have h3 : w5.heap.size ≤ k := h2
               omega
             · exact HD6.out k hk hr)
          go_wp2_with fail
          go_meet
          exact ⟨A6, c6, rfl, rfl, rfl, HS6⟩
        exact AllReadyH.nil
       case rest =>
        obtain ⟨A6, c6, rfl, rfl, rfl, HS6⟩ := hcut
        obtain ⟨w6, rfl⟩ : ∃ w6 : World, w6 = wc := ⟨_, rfl⟩
        clear x0 x1 x2 l2 xl zl
        have HWs := Lib.hid ((HF1.out.ext HB2.out).ext HB3.out)
        have HW4 := Lib.hid (HWs.out.trans HF4.out (fun k hk => .inl hk))
        have h0' := h0
        have hst : steps ≤ 99999 := by omega
        have est : IntKind.i64.wrap (steps + 1) = steps + 1 := IntWalk.i64_in _ (by omega)
        go_wp2_with fail
        go_loopg [6, 8, 87] l.length (fun gk v6 v8 v87 wr => ∃ i : Nat, i + gk = l.length ∧ v87 = .int .i64 (i : Nat) ∧ v6 = .bool (fo i).2 ∧ Hid (CStep B X.lb R p A c mark held w4 w.heap.size ⟨xb, xs, xp⟩ w5.heap.size (.slice A6 l.length c6) l (fo i).1 wr))
        case atStart => exact ⟨0, by omega, rfl, by rw [HF0.out], HS6⟩
        case round =>
         obtain ⟨i, hik, rfl, rfl, HS⟩ := hrel
         obtain ⟨X7, R7, hA7, hlb7, hR7, hxg7, hF7, hBx7, hown7, hd7⟩ := HS.out
         have HA7 := Lib.hid hA7
         have HLB7 := Lib.hid hlb7
         have HR7 := Lib.hid hR7
         have HXg7 := Lib.hid hxg7
         have HF7 := Lib.hid hF7
         have HBx7 := Lib.hid hBx7
         have HO7 := Lib.hid hown7
         have HD7 := Lib.hid hd7
         clear hA7 hlb7 hR7 hxg7 hF7 hBx7 hown7 hd7
         by_cases hi : i < l.length
         · have hy : l[i]? = some (l[i]) := List.getElem?_eq_getElem hi
           generalize l[i] = y at hy
           obtain ⟨ad, rfl, d0, d1, d2⟩ := (Rd.of_own (B := 0) HO7.out).ids hy hi
           obtain ⟨k1, k2⟩ := HCa.out y (List.mem_of_getElem? hy)
           have HFy := Lib.hid (HSn.out i y hy)
           have hdn : leafD p y mark = true ∧ 0 < n ∨ deepD mark y + 1 < n := by
            have h1 := HDp.out.resolve_left (fun h => by rw [HLf.out] at h; cases h.1)
            rcases k2 with k2 | k2
            · exact .inl ⟨k2, by omega⟩
            · exact .inr (by omega)
           have HCm := Lib.hid (fun (W : World) (hb : Below wr.heap.size wr W) => (by
            have h1 := HIh.out X7 R7 (fo i).1 y (steps + 1) W (HA7.out.ext hb) (HFo.out i).1 k1 hdn (by omega) (by omega)
            rw [HLB7.out] at h1
            exact h1 : Calls Tryz.prog 117 #[.pointer (some ⟨X.lb, 0, none⟩), idV y, .int .i64 (steps + 1)] W (ComePost B X.lb R7 p A c mark held (comeD p mark held n (fo i).1 y (steps + 1)) W)))
           obtain ⟨WY, hWY⟩ : ∃ WY, WY = wr.alloc (.cells #[.int .i64 y.b, .int .i64 y.s, .int .i64 y.p] 35 (0, 0)) := ⟨_, rfl⟩
           have HBY := Lib.hid (show Below wr.heap.size wr WY from by rw [hWY]; exact ext_alloc (Below.refl _ _) _)
           have HXY := Lib.hid (show Bk WY wr.heap.size 35 #[.int .i64 y.b, .int .i64 y.s, .int .i64 y.p] from by rw [hWY]; exact Bk.new _ _ _)
           have HWY := Lib.hid hWY
           have y0 : WY.cell? ⟨wr.heap.size, 0, none⟩ = some (.int .i64 y.b) := (HXY.out.cell 0).trans rfl
           have y1 : WY.cell? ⟨wr.heap.size, 1, none⟩ = some (.int .i64 y.s) := (HXY.out.cell 1).trans rfl
           have y2 : WY.cell? ⟨wr.heap.size, 2, none⟩ = some (.int .i64 y.p) := (HXY.out.cell 2).trans rfl
           have yl := HXY.out.lt
           clear hWY hy k1 k2 hdn
           obtain ⟨r2, hr2⟩ : ∃ r2, r2 = (fo i).2 := ⟨_, rfl⟩
           rw [← hr2]
           have HR2 := Lib.hid hr2
           clear hr2
           go_upto_region 12 with fail
           rw [← HWY.out]
           go_upto_region 13 with (first
            | (go_at_call 117; refine (HCm.out _ HBY.out).mono ?_; rintro e w8 ⟨rfl, hL⟩
               have HY8 := Lib.hid (show Bk w8 wr.heap.size 35 #[.int .i64 y.b, .int .i64 y.s, .int .i64 y.p] from by
                obtain ⟨X9, R9, j1, j2, j3, j4⟩ := hL
                exact HXY.out.fr j4 (fun hk => by have := (HA7.out.bd _ hk).2; omega))
               have HS8 := Lib.hid (show CStep B X.lb R p A c mark held w4 w.heap.size ⟨xb, xs, xp⟩ w5.heap.size (.slice (some ad) l.length c6) l (comeD p mark held n (fo i).1 y (steps + 1)) w8 from CStep.turn (x := ⟨xb, xs, xp⟩) (l := l) hL HR7.out HXg7.out (HF7.out.ext HBY.out) (HBx7.out.ext HBY.out) (own_ext HO7.out HBY.out) HD7.out)
               clear hL y0 y1 y2 yl))
           obtain ⟨X9, R9, hA9, hlb9, hR9, hxg9, hF9, hBx9, hown9, hd9⟩ := HS8.out
           have HTc := Lib.hid (there_c y w8 hA9)
           rw [hlb9] at HTc
           have y0 : w8.cell? ⟨wr.heap.size, 0, none⟩ = some (.int .i64 y.b) := (HY8.out.cell 0).trans rfl
           have y1 : w8.cell? ⟨wr.heap.size, 1, none⟩ = some (.int .i64 y.s) := (HY8.out.cell 1).trans rfl
           have y2 : w8.cell? ⟨wr.heap.size, 2, none⟩ = some (.int .i64 y.p) := (HY8.out.cell 2).trans rfl
           have yl := HY8.out.lt
           clear hA9 hlb9 hR9 hxg9 hF9 hBx9 hown9 hd9
           cases r2 with
           | false =>
             go_wp2_with fail
             go_roundg (gk - 1)
             case measure => omega
             case rel => exact ⟨i + 1, by omega, by go_num, by rw [HFy.out, ← HR2.out, Bool.false_and], by rw [HFy.out]; exact HS8⟩
           | true =>
             go_wp2_with (first
              | (go_at_call 156; refine HTc.out.mono ?_; rintro e w10 ⟨rfl, hb⟩; have HB10 := Lib.hid hb; clear hb y0 y1 y2 yl))
             go_roundg (gk - 1)
             case measure => omega
             case rel => exact ⟨i + 1, by omega, by go_num, by rw [HFy.out, ← HR2.out, Bool.true_and], by rw [HFy.out]; exact Lib.hid (HS8.out.ext HB10.out)⟩
         · have hil : i = l.length := by omega
           subst hil
           obtain ⟨e1, e2⟩ := HFo.out l.length
           obtain ⟨f1, f2, f3⟩ := e1.lens hp
           obtain ⟨r1, hr1⟩ : ∃ r1, r1 = (fo l.length).1 := ⟨_, rfl⟩
           obtain ⟨r2, hr2⟩ : ∃ r2, r2 = (fo l.length).2 := ⟨_, rfl⟩
           rw [← hr1] at HE HA7 e2 f1 f2 f3
           rw [← hr2] at HE
           rw [← hr2]
           clear HCa HSn HFo HF0 HIh HDp HNd HS HS6 e1 hr1 hr2
           cases r2 with
           | false =>
             have HE2 := Lib.hid (HE.out.trans (if_neg (by simp)))
             go_wp2_with fail
             go_returns
             rw [HE2.out]
             have hT : LnTurn B X.lb R p A c mark held r1 w4 wr := ⟨X7, R7, HA7.out, HLB7.out, HR7.out, HF7.out⟩
             have hT2 : LnTurn B X.lb R p A c mark held r1 W wr := hT.trans (R := R) (fun k hk => .inl hk) HW4.out
             exact ⟨rfl, hT2.below HBW.out⟩
           | true =>
             have HE2 := Lib.hid (HE.out.trans (if_pos rfl))
             go_upto_region 16 with fail
             have x0 : wr.cell? ⟨w.heap.size, 0, none⟩ = some (.int .i64 xb) := (HBx7.out.cell 0).trans rfl
             have x1 : wr.cell? ⟨w.heap.size, 1, none⟩ = some (.int .i64 xs) := (HBx7.out.cell 1).trans rfl
             have x2 : wr.cell? ⟨w.heap.size, 2, none⟩ = some (.int .i64 xp) := (HBx7.out.cell 2).trans rfl
             have l7 : wr.cell? ⟨X.lb, 7, none⟩ = some (.slice X7.A2 r1.ready.length X7.c2) := by rw [← HLB7.out]; exact (HA7.out.bk.cell 7).trans rfl
             have xl := HBx7.out.lt
             have zl : X.lb < wr.heap.size := by rw [← HLB7.out]; exact HA7.out.bk.lt
             have HE7 := Lib.hid (show Below wr.heap.size wr (wr.drew.alloc (.cells #[.int .i64 xb, .int .i64 xs, .int .i64 xp] 35 (0, 0))) from ext_alloc (Below.refl _ _).drew _)
             have HN7 := Lib.hid (show Bk (wr.drew.alloc (.cells #[.int .i64 xb, .int .i64 xs, .int .i64 xp] 35 (0, 0))) wr.heap.size 35 #[.int .i64 xb, .int .i64 xs, .int .i64 xp] from Bk.new wr.drew _ _)
             have H8 := Lib.hid (HA7.out.ext HE7.out)
             refine wp_region_held_drew (S := (fun w' => w'.cell? ⟨w.heap.size, 0, none⟩ = some (.int .i64 xb) ∧ w'.cell? ⟨w.heap.size, 1, none⟩ = some (.int .i64 xs) ∧ w'.cell? ⟨w.heap.size, 2, none⟩ = some (.int .i64 xp))) (by kernel_rfl) ?_ (fun hHeld => ?_)
             · (first | exact ⟨(HX8.out.cell 0).trans rfl, (HX8.out.cell 1).trans rfl, (HX8.out.cell 2).trans rfl⟩ | exact ⟨((HX8.out.far (p := ⟨X.lb, 7, none⟩) HFa.out _).cell 0).trans rfl, ((HX8.out.far (p := ⟨X.lb, 7, none⟩) HFa.out _).cell 1).trans rfl, ((HX8.out.far (p := ⟨X.lb, 7, none⟩) HFa.out _).cell 2).trans rfl⟩ | exact ⟨x0, x1, x2⟩ | exact ⟨((HBx7.out.ext HE7.out).cell 0).trans rfl, ((HBx7.out.ext HE7.out).cell 1).trans rfl, ((HBx7.out.ext HE7.out).cell 2).trans rfl⟩ | go_keep)
             refine wpAnyH_take (i := 0) (oi := ⟨some 104, .move (.tmp 0), 179, "line.go:61", #[], none⟩) (v := ?v3z0) rfl (by kernel_rfl) (by kernel_rfl) (by kernel_rfl) (fun _ _ _ h => h) (Or.inl ⟨by rfl, ?hy3z0⟩) (by assumption) ?rest3z0
             case hy3z0 => (intro w hSw; (try dsimp only at hSw); go_simp; try (with_reducible rfl))
             simp only [Act.put, List.setIfInBounds_toArray, List.set_cons_zero, List.set_cons_succ]
             refine wpAnyH_take (i := 1) (oi := ⟨some 105, .move (.tmp 0), 179, "line.go:61", #[], none⟩) (v := ?v3z1) rfl (by kernel_rfl) (by kernel_rfl) (by kernel_rfl) (fun _ _ _ h => h) (Or.inl ⟨by rfl, ?hy3z1⟩) (by assumption) ?rest3z1
             case hy3z1 => (intro w hSw; (try dsimp only at hSw); go_simp; try (with_reducible rfl))
             simp only [Act.put, List.setIfInBounds_toArray, List.set_cons_zero, List.set_cons_succ]
             refine wpAnyH_take (i := 2) (oi := ⟨some 106, .nilCheck (.tmp 105), 0, "line.go:61", #[⟨1, .data⟩], none⟩) (v := ?v3z2) rfl (by kernel_rfl) (by kernel_rfl) (by kernel_rfl) (fun _ _ _ h => h) (Or.inl ⟨by rfl, ?hy3z2⟩) (by assumption) ?rest3z2
             case hy3z2 => (intro w hSw; (try dsimp only at hSw); go_simp; try (with_reducible rfl))
             simp only [Act.put, List.setIfInBounds_toArray, List.set_cons_zero, List.set_cons_succ]
             refine wpAnyH_take (i := 3) (oi := ⟨some 107, .fieldAddr 181 (.tmp 106) 5, 0, "line.go:61", #[⟨2, .data⟩], none⟩) (v := ?v3z3) rfl (by kernel_rfl) (by kernel_rfl) (by kernel_rfl) (fun _ _ _ h => h) (Or.inl ⟨by rfl, ?hy3z3⟩) (by assumption) ?rest3z3
             case hy3z3 => (intro w hSw; (try dsimp only at hSw); go_simp; try (with_reducible rfl))
             simp only [Act.put, List.setIfInBounds_toArray, List.set_cons_zero, List.set_cons_succ]
             refine wpAnyH_take (i := 4) (oi := ⟨some 108, .fieldAddr 120 (.tmp 107) 1, 0, "line.go:61", #[⟨3, .data⟩], none⟩) (v := ?v3z4) rfl (by kernel_rfl) (by kernel_rfl) (by kernel_rfl) (fun _ _ _ h => h) (Or.inl ⟨by rfl, ?hy3z4⟩) (by assumption) ?rest3z4
             case hy3z4 => (intro w hSw; (try dsimp only at hSw); go_simp; try (with_reducible rfl))
             simp only [Act.put, List.setIfInBounds_toArray, List.set_cons_zero, List.set_cons_succ]
             refine wpAnyH_take (i := 6) (oi := ⟨some 110, .load 35 (.tmp 4), 35, "line.go:61", #[], none⟩) (v := ?v3z6) rfl (by kernel_rfl) (by kernel_rfl) (by kernel_rfl) (fun _ _ _ h => h) (Or.inl ⟨by rfl, ?hy3z6⟩) (by assumption) ?rest3z6
             case hy3z6 => (intro w hSw; (try dsimp only at hSw); go_simp; try (with_reducible rfl))
             simp only [Act.put, List.setIfInBounds_toArray, List.set_cons_zero, List.set_cons_succ]
             refine wpAnyH_ready (rs := [5, 7]) (by kernel_rfl) (by simp) ?_
             refine AllReadyH.cons (o := ⟨some 109, .load 33 (.tmp 108), 33, "line.go:61", #[⟨4, .data⟩], none⟩) rfl (fun K hK => ?_) ?_
             ·
               go_simp
               refine hK.out _ _ ?_ (fun hHeld => ?_)
               · (first | exact ⟨(HX8.out.cell 0).trans rfl, (HX8.out.cell 1).trans rfl, (HX8.out.cell 2).trans rfl⟩ | exact ⟨((HX8.out.far (p := ⟨X.lb, 7, none⟩) HFa.out _).cell 0).trans rfl, ((HX8.out.far (p := ⟨X.lb, 7, none⟩) HFa.out _).cell 1).trans rfl, ((HX8.out.far (p := ⟨X.lb, 7, none⟩) HFa.out _).cell 2).trans rfl⟩ | exact ⟨x0, x1, x2⟩ | exact ⟨((HBx7.out.ext HE7.out).cell 0).trans rfl, ((HBx7.out.ext HE7.out).cell 1).trans rfl, ((HBx7.out.ext HE7.out).cell 2).trans rfl⟩ | go_keep)
               clear hK K
               try simp only [Act.put, List.setIfInBounds_toArray, List.set_cons_zero, List.set_cons_succ]
               refine wpAnyH_ready (rs := [7]) (by kernel_rfl) (by simp) ?_
               refine AllReadyH.cons (o := ⟨some 111, .buildSlice 33 1 #[(0, .tmp 110)], 33, "line.go:61", #[⟨6, .data⟩], none⟩) rfl (fun K hK => ?_) ?_
               ·
                 go_simp
                 refine hK.out _ _ ?_ (fun hHeld => ?_)
                 · (first | exact ⟨(HX8.out.cell 0).trans rfl, (HX8.out.cell 1).trans rfl, (HX8.out.cell 2).trans rfl⟩ | exact ⟨((HX8.out.far (p := ⟨X.lb, 7, none⟩) HFa.out _).cell 0).trans rfl, ((HX8.out.far (p := ⟨X.lb, 7, none⟩) HFa.out _).cell 1).trans rfl, ((HX8.out.far (p := ⟨X.lb, 7, none⟩) HFa.out _).cell 2).trans rfl⟩ | exact ⟨x0, x1, x2⟩ | exact ⟨((HBx7.out.ext HE7.out).cell 0).trans rfl, ((HBx7.out.ext HE7.out).cell 1).trans rfl, ((HBx7.out.ext HE7.out).cell 2).trans rfl⟩ | go_keep)
                 clear hK K
                 try simp only [Act.put, List.setIfInBounds_toArray, List.set_cons_zero, List.set_cons_succ]
                 refine wpAnyH_ready (rs := [8]) (by kernel_rfl) (by simp) ?_
                 refine AllReadyH.cons (o := ⟨some 112, .call { callee := .builtin .append, args := #[.tmp 109, .tmp 111], argTypes := #[33, 33] }, 33, "line.go:61", #[⟨5, .data⟩, ⟨7, .data⟩], none⟩) rfl (fun K hK => ?_) ?_
                 ·
                   refine step_appG id_app _ rfl (.tmp 109) (.tmp 111) rfl B (.slice X7.A2 r1.ready.length X7.c2) r1.ready (by rfl) H8.out.s2 (⟨xb, xs, xp⟩ : Id3) wr.heap.size (by rfl) HN7.out (by omega) (by have h5 := H8.out.hB; exact h5) ?_
                   intro A8 c8 w8 hown8 hg8 hc8 hn8
                   have HO8 := Lib.hid hown8
                   have HG8 := Lib.hid hg8
                   have HN8 := Lib.hid hn8
                   have HX8 := Lib.hid ((HBx7.out.ext HE7.out).grown hg8 (fun e => HXg7.out (HA7.out.r2 _ e.symm).1))
                   have HK8 := Lib.hid (H8.out.bk.grown hg8 (fun e => own_ne_bk H8.out.s2 H8.out.bk (by decide) e.symm))
                   have r1' : w8.frozen? ⟨X.lb, 7, none⟩ = false := by rw [← HLB7.out]; exact HK8.out.frozen 7
                   have r2' : w8.cell? ⟨X.lb, 7, none⟩ = some (.slice X7.A2 r1.ready.length X7.c2) := by rw [← HLB7.out]; exact (HK8.out.cell 7).trans rfl
                   have r3' : X.lb < w8.heap.size := by rw [← HLB7.out]; exact HK8.out.lt
                   clear hown8 hg8 hn8
                   refine hK.out _ _ ?_ (fun hHeld => ?_)
                   · (first | exact ⟨(HX8.out.cell 0).trans rfl, (HX8.out.cell 1).trans rfl, (HX8.out.cell 2).trans rfl⟩ | exact ⟨((HX8.out.far (p := ⟨X.lb, 7, none⟩) HFa.out _).cell 0).trans rfl, ((HX8.out.far (p := ⟨X.lb, 7, none⟩) HFa.out _).cell 1).trans rfl, ((HX8.out.far (p := ⟨X.lb, 7, none⟩) HFa.out _).cell 2).trans rfl⟩ | exact ⟨x0, x1, x2⟩ | exact ⟨((HBx7.out.ext HE7.out).cell 0).trans rfl, ((HBx7.out.ext HE7.out).cell 1).trans rfl, ((HBx7.out.ext HE7.out).cell 2).trans rfl⟩ | go_keep)
                   clear hK K
                   try simp only [Act.put, List.setIfInBounds_toArray, List.set_cons_zero, List.set_cons_succ]
                   refine wpAnyH_take (i := 9) (oi := ⟨some 113, .nilCheck (.tmp 104), 0, "line.go:61", #[⟨0, .data⟩, ⟨0, .phase⟩, ⟨1, .phase⟩, ⟨2, .phase⟩, ⟨3, .phase⟩, ⟨4, .phase⟩, ⟨5, .phase⟩, ⟨6, .phase⟩, ⟨7, .phase⟩, ⟨8, .phase⟩], none⟩) (v := ?v3z9) rfl (by kernel_rfl) (by kernel_rfl) (by kernel_rfl) (fun _ _ _ h => h) (Or.inl ⟨by rfl, ?hy3z9⟩) (by assumption) ?rest3z9
                   case hy3z9 => (intro w hSw; (try dsimp only at hSw); go_simp; try (with_reducible rfl))
                   simp only [Act.put, List.setIfInBounds_toArray, List.set_cons_zero, List.set_cons_succ]
                   refine wpAnyH_take (i := 10) (oi := ⟨some 114, .fieldAddr 181 (.tmp 113) 5, 0, "line.go:61", #[⟨9, .data⟩, ⟨0, .phase⟩, ⟨1, .phase⟩, ⟨2, .phase⟩, ⟨3, .phase⟩, ⟨4, .phase⟩, ⟨5, .phase⟩, ⟨6, .phase⟩, ⟨7, .phase⟩, ⟨8, .phase⟩], none⟩) (v := ?v3z10) rfl (by kernel_rfl) (by kernel_rfl) (by kernel_rfl) (fun _ _ _ h => h) (Or.inl ⟨by rfl, ?hy3z10⟩) (by assumption) ?rest3z10
                   case hy3z10 => (intro w hSw; (try dsimp only at hSw); go_simp; try (with_reducible rfl))
                   simp only [Act.put, List.setIfInBounds_toArray, List.set_cons_zero, List.set_cons_succ]
                   refine wpAnyH_take (i := 11) (oi := ⟨some 115, .fieldAddr 120 (.tmp 114) 1, 0, "line.go:61", #[⟨10, .data⟩, ⟨0, .phase⟩, ⟨1, .phase⟩, ⟨2, .phase⟩, ⟨3, .phase⟩, ⟨4, .phase⟩, ⟨5, .phase⟩, ⟨6, .phase⟩, ⟨7, .phase⟩, ⟨8, .phase⟩], none⟩) (v := ?v3z11) rfl (by kernel_rfl) (by kernel_rfl) (by kernel_rfl) (fun _ _ _ h => h) (Or.inl ⟨by rfl, ?hy3z11⟩) (by assumption) ?rest3z11
                   case hy3z11 => (intro w hSw; (try dsimp only at hSw); go_simp; try (with_reducible rfl))
                   simp only [Act.put, List.setIfInBounds_toArray, List.set_cons_zero, List.set_cons_succ]
                   refine wpAnyH_ready (rs := [12]) (by kernel_rfl) (by simp) ?_
                   refine AllReadyH.cons (o := ⟨none, .store 33 (.tmp 115) (.tmp 112), 0, "line.go:61", #[⟨11, .data⟩, ⟨8, .data⟩, ⟨8, .chain⟩, ⟨0, .phase⟩, ⟨1, .phase⟩, ⟨2, .phase⟩, ⟨3, .phase⟩, ⟨4, .phase⟩, ⟨5, .phase⟩, ⟨6, .phase⟩, ⟨7, .phase⟩, ⟨8, .phase⟩], none⟩) rfl (fun K hK => ?_) ?_
                   ·
                     go_simp
                     refine hK.out _ _ ?_ (fun hHeld => ?_)
                     · (first | exact ⟨(HX8.out.cell 0).trans rfl, (HX8.out.cell 1).trans rfl, (HX8.out.cell 2).trans rfl⟩ | exact ⟨((HX8.out.far (p := ⟨X.lb, 7, none⟩) HFa.out _).cell 0).trans rfl, ((HX8.out.far (p := ⟨X.lb, 7, none⟩) HFa.out _).cell 1).trans rfl, ((HX8.out.far (p := ⟨X.lb, 7, none⟩) HFa.out _).cell 2).trans rfl⟩ | exact ⟨x0, x1, x2⟩ | exact ⟨((HBx7.out.ext HE7.out).cell 0).trans rfl, ((HBx7.out.ext HE7.out).cell 1).trans rfl, ((HBx7.out.ext HE7.out).cell 2).trans rfl⟩ | go_keep)
                     clear hK K
                     try simp only [Act.put]
                     refine wpAnyH_done (by kernel_rfl) ?_ _
                     go_wp2_with fail
                     go_returns
                     rw [HE2.out]
                     have hT := LnAt.rdy_ HA7.out HE7.out HO8.out HG8.out HN8.out
                     rw [HLB7.out, List.length_append] at hT
                     exact ⟨rfl, LnTurn.below HBW.out (LnTurn.trans (R1 := R) (fun k hk => .inl hk) HW4.out (LnTurn.trans (R1 := R7) HR7.out HF7.out hT))⟩
                   exact AllReadyH.nil
                 exact AllReadyH.nil
               exact AllReadyH.nil
             refine AllReadyH.cons (o := ⟨some 111, .buildSlice 33 1 #[(0, .tmp 110)], 33, "line.go:61", #[⟨6, .data⟩], none⟩) rfl (fun K hK => ?_) ?_
             ·
               go_simp
               refine hK.out _ _ ?_ (fun hHeld => ?_)
               · (first | exact ⟨(HX8.out.cell 0).trans rfl, (HX8.out.cell 1).trans rfl, (HX8.out.cell 2).trans rfl⟩ | exact ⟨((HX8.out.far (p := ⟨X.lb, 7, none⟩) HFa.out _).cell 0).trans rfl, ((HX8.out.far (p := ⟨X.lb, 7, none⟩) HFa.out _).cell 1).trans rfl, ((HX8.out.far (p := ⟨X.lb, 7, none⟩) HFa.out _).cell 2).trans rfl⟩ | exact ⟨x0, x1, x2⟩ | exact ⟨((HBx7.out.ext HE7.out).cell 0).trans rfl, ((HBx7.out.ext HE7.out).cell 1).trans rfl, ((HBx7.out.ext HE7.out).cell 2).trans rfl⟩ | go_keep)
               clear hK K
               try simp only [Act.put, List.setIfInBounds_toArray, List.set_cons_zero, List.set_cons_succ]
               refine wpAnyH_ready (rs := [5]) (by kernel_rfl) (by simp) ?_
               refine AllReadyH.cons (o := ⟨some 109, .load 33 (.tmp 108), 33, "line.go:61", #[⟨4, .data⟩], none⟩) rfl (fun K hK => ?_) ?_
               ·
                 go_simp
                 refine hK.out _ _ ?_ (fun hHeld => ?_)
                 · (first | exact ⟨(HX8.out.cell 0).trans rfl, (HX8.out.cell 1).trans rfl, (HX8.out.cell 2).trans rfl⟩ | exact ⟨((HX8.out.far (p := ⟨X.lb, 7, none⟩) HFa.out _).cell 0).trans rfl, ((HX8.out.far (p := ⟨X.lb, 7, none⟩) HFa.out _).cell 1).trans rfl, ((HX8.out.far (p := ⟨X.lb, 7, none⟩) HFa.out _).cell 2).trans rfl⟩ | exact ⟨x0, x1, x2⟩ | exact ⟨((HBx7.out.ext HE7.out).cell 0).trans rfl, ((HBx7.out.ext HE7.out).cell 1).trans rfl, ((HBx7.out.ext HE7.out).cell 2).trans rfl⟩ | go_keep)
                 clear hK K
                 try simp only [Act.put, List.setIfInBounds_toArray, List.set_cons_zero, List.set_cons_succ]
                 refine wpAnyH_ready (rs := [8]) (by kernel_rfl) (by simp) ?_
                 refine AllReadyH.cons (o := ⟨some 112, .call { callee := .builtin .append, args := #[.tmp 109, .tmp 111], argTypes := #[33, 33] }, 33, "line.go:61", #[⟨5, .data⟩, ⟨7, .data⟩], none⟩) rfl (fun K hK => ?_) ?_
                 ·
                   refine step_appG id_app _ rfl (.tmp 109) (.tmp 111) rfl B (.slice X7.A2 r1.ready.length X7.c2) r1.ready (by rfl) H8.out.s2 (⟨xb, xs, xp⟩ : Id3) wr.heap.size (by rfl) HN7.out (by omega) (by have h5 := H8.out.hB; exact h5) ?_
                   intro A8 c8 w8 hown8 hg8 hc8 hn8
                   have HO8 := Lib.hid hown8
                   have HG8 := Lib.hid hg8
                   have HN8 := Lib.hid hn8
                   have HX8 := Lib.hid ((HBx7.out.ext HE7.out).grown hg8 (fun e => HXg7.out (HA7.out.r2 _ e.symm).1))
                   have HK8 := Lib.hid (H8.out.bk.grown hg8 (fun e => own_ne_bk H8.out.s2 H8.out.bk (by decide) e.symm))
                   have r1' : w8.frozen? ⟨X.lb, 7, none⟩ = false := by rw [← HLB7.out]; exact HK8.out.frozen 7
                   have r2' : w8.cell? ⟨X.lb, 7, none⟩ = some (.slice X7.A2 r1.ready.length X7.c2) := by rw [← HLB7.out]; exact (HK8.out.cell 7).trans rfl
                   have r3' : X.lb < w8.heap.size := by rw [← HLB7.out]; exact HK8.out.lt
                   clear hown8 hg8 hn8
                   refine hK.out _ _ ?_ (fun hHeld => ?_)
                   · (first | exact ⟨(HX8.out.cell 0).trans rfl, (HX8.out.cell 1).trans rfl, (HX8.out.cell 2).trans rfl⟩ | exact ⟨((HX8.out.far (p := ⟨X.lb, 7, none⟩) HFa.out _).cell 0).trans rfl, ((HX8.out.far (p := ⟨X.lb, 7, none⟩) HFa.out _).cell 1).trans rfl, ((HX8.out.far (p := ⟨X.lb, 7, none⟩) HFa.out _).cell 2).trans rfl⟩ | exact ⟨x0, x1, x2⟩ | exact ⟨((HBx7.out.ext HE7.out).cell 0).trans rfl, ((HBx7.out.ext HE7.out).cell 1).trans rfl, ((HBx7.out.ext HE7.out).cell 2).trans rfl⟩ | go_keep)
                   clear hK K
                   try simp only [Act.put, List.setIfInBounds_toArray, List.set_cons_zero, List.set_cons_succ]
                   refine wpAnyH_take (i := 9) (oi := ⟨some 113, .nilCheck (.tmp 104), 0, "line.go:61", #[⟨0, .data⟩, ⟨0, .phase⟩, ⟨1, .phase⟩, ⟨2, .phase⟩, ⟨3, .phase⟩, ⟨4, .phase⟩, ⟨5, .phase⟩, ⟨6, .phase⟩, ⟨7, .phase⟩, ⟨8, .phase⟩], none⟩) (v := ?v3z9x1) rfl (by kernel_rfl) (by kernel_rfl) (by kernel_rfl) (fun _ _ _ h => h) (Or.inl ⟨by rfl, ?hy3z9x1⟩) (by assumption) ?rest3z9x1
                   case hy3z9x1 => (intro w hSw; (try dsimp only at hSw); go_simp; try (with_reducible rfl))
                   simp only [Act.put, List.setIfInBounds_toArray, List.set_cons_zero, List.set_cons_succ]
                   refine wpAnyH_take (i := 10) (oi := ⟨some 114, .fieldAddr 181 (.tmp 113) 5, 0, "line.go:61", #[⟨9, .data⟩, ⟨0, .phase⟩, ⟨1, .phase⟩, ⟨2, .phase⟩, ⟨3, .phase⟩, ⟨4, .phase⟩, ⟨5, .phase⟩, ⟨6, .phase⟩, ⟨7, .phase⟩, ⟨8, .phase⟩], none⟩) (v := ?v3z10x1) rfl (by kernel_rfl) (by kernel_rfl) (by kernel_rfl) (fun _ _ _ h => h) (Or.inl ⟨by rfl, ?hy3z10x1⟩) (by assumption) ?rest3z10x1
                   case hy3z10x1 => (intro w hSw; (try dsimp only at hSw); go_simp; try (with_reducible rfl))
                   simp only [Act.put, List.setIfInBounds_toArray, List.set_cons_zero, List.set_cons_succ]
                   refine wpAnyH_take (i := 11) (oi := ⟨some 115, .fieldAddr 120 (.tmp 114) 1, 0, "line.go:61", #[⟨10, .data⟩, ⟨0, .phase⟩, ⟨1, .phase⟩, ⟨2, .phase⟩, ⟨3, .phase⟩, ⟨4, .phase⟩, ⟨5, .phase⟩, ⟨6, .phase⟩, ⟨7, .phase⟩, ⟨8, .phase⟩], none⟩) (v := ?v3z11x1) rfl (by kernel_rfl) (by kernel_rfl) (by kernel_rfl) (fun _ _ _ h => h) (Or.inl ⟨by rfl, ?hy3z11x1⟩) (by assumption) ?rest3z11x1
                   case hy3z11x1 => (intro w hSw; (try dsimp only at hSw); go_simp; try (with_reducible rfl))
                   simp only [Act.put, List.setIfInBounds_toArray, List.set_cons_zero, List.set_cons_succ]
                   refine wpAnyH_ready (rs := [12]) (by kernel_rfl) (by simp) ?_
                   refine AllReadyH.cons (o := ⟨none, .store 33 (.tmp 115) (.tmp 112), 0, "line.go:61", #[⟨11, .data⟩, ⟨8, .data⟩, ⟨8, .chain⟩, ⟨0, .phase⟩, ⟨1, .phase⟩, ⟨2, .phase⟩, ⟨3, .phase⟩, ⟨4, .phase⟩, ⟨5, .phase⟩, ⟨6, .phase⟩, ⟨7, .phase⟩, ⟨8, .phase⟩], none⟩) rfl (fun K hK => ?_) ?_
                   ·
                     go_simp
                     refine hK.out _ _ ?_ (fun hHeld => ?_)
                     · (first | exact ⟨(HX8.out.cell 0).trans rfl, (HX8.out.cell 1).trans rfl, (HX8.out.cell 2).trans rfl⟩ | exact ⟨((HX8.out.far (p := ⟨X.lb, 7, none⟩) HFa.out _).cell 0).trans rfl, ((HX8.out.far (p := ⟨X.lb, 7, none⟩) HFa.out _).cell 1).trans rfl, ((HX8.out.far (p := ⟨X.lb, 7, none⟩) HFa.out _).cell 2).trans rfl⟩ | exact ⟨x0, x1, x2⟩ | exact ⟨((HBx7.out.ext HE7.out).cell 0).trans rfl, ((HBx7.out.ext HE7.out).cell 1).trans rfl, ((HBx7.out.ext HE7.out).cell 2).trans rfl⟩ | go_keep)
                     clear hK K
                     try simp only [Act.put]
                     refine wpAnyH_done (by kernel_rfl) ?_ _
                     go_wp2_with fail
                     go_returns
                     rw [HE2.out]
                     have hT := LnAt.rdy_ HA7.out HE7.out HO8.out HG8.out HN8.out
                     rw [HLB7.out, List.length_append] at hT
                     exact ⟨rfl, LnTurn.below HBW.out (LnTurn.trans (R1 := R) (fun k hk => .inl hk) HW4.out (LnTurn.trans (R1 := R7) HR7.out HF7.out hT))⟩
                   exact AllReadyH.nil
                 exact AllReadyH.nil
               exact AllReadyH.nil
             exact AllReadyH.nil
end
end Go.Proofs.YtapjhliglmohgaaGreatDoor
