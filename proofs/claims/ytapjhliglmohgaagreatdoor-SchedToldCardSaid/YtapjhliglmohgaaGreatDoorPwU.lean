/- JobsW, Holder: laid together. -/
import Derived.Test.YtapjhliglmohgaaGreatDoorPwM
import Derived.Test.YtapjhliglmohgaaGreatDoorPwO
import Derived.Test.YtapjhliglmohgaaGreatDoorPwT
import Derived.Laws.Rows
/- Who holds what: Jobs of the program. -/
namespace Go.Proofs.YtapjhliglmohgaaGreatDoor
open Go.RowKit Go.Sort
theorem jbC_at {l : List Jb} {i : Nat} {y : Jb} (hy : l[i]? = some y) {j : Nat} (hj : j < 4) : (l.flatMap jbC)[i * 4 + j]? = (jbC y)[j]? := flat_at jbC 4 (fun _ => rfl) l i y hy j hj
theorem Rd.jbs {w : World} {B : Nat} {e : TypeId} {A : Option Addr} {n : Nat} {l : List Jb} (h : Rd w B e 4 A n (l.flatMap jbC)) {i : Nat} {y : Jb} (hy : l[i]? = some y) (hn : i < n) :
 ∃ ad, A = some ad ∧ w.cell? (ad.add (i * 4)) = some (.int .i64 y.id.b) ∧ w.cell? ⟨(ad.add (i * 4)).block, (ad.add (i * 4)).off + 1, none⟩ = some (.int .i64 y.id.s) ∧ w.cell? ⟨(ad.add (i * 4)).block, (ad.add (i * 4)).off + 2, none⟩ = some (.int .i64 y.id.p) ∧ w.cell? ⟨(ad.add (i * 4)).block, (ad.add (i * 4)).off + 3, none⟩ = some (.bool y.sv) := by
 obtain ⟨ad, hA, hc⟩ := h.cell (by omega)
 refine ⟨ad, hA, ?_, ?_, ?_, ?_⟩
 · exact hc (i * 4) _ (by have := jbC_at hy (j := 0) (by omega); simpa [jbC] using this)
 · rw [← add_succ ad (i * 4) 0]; exact hc (i * 4 + 1) _ (by rw [jbC_at hy (by omega)]; rfl)
 · rw [← add_succ ad (i * 4) 1]; exact hc (i * 4 + 2) _ (by rw [jbC_at hy (by omega)]; rfl)
 · rw [← add_succ ad (i * 4) 2]; exact hc (i * 4 + 3) _ (by rw [jbC_at hy (by omega)]; rfl)
theorem run_store_way {w : World} {ab : Nat} (h : Bk w ab 120 zWay) (A1 A2 A3 : Option Addr) (n1 c1 n2 c2 n3 c3 : Nat) (dp : Int) :
 (Instr.storeAt 120 (.pointer (some ⟨ab, 0, none⟩)) (.agg #[.slice A1 n1 c1, .slice A2 n2 c2, .slice A3 n3 c3, .int .i64 dp])).run Tryz.prog w = .ok () ((((w.setCell ⟨ab, 0, none⟩ (.slice A1 n1 c1)).setCell ⟨ab, 1, none⟩ (.slice A2 n2 c2)).setCell ⟨ab, 2, none⟩ (.slice A3 n3 c3)).setCell ⟨ab, 3, none⟩ (.int .i64 dp)) := by
 have k0 : w.cell? ⟨ab, 0, none⟩ = some (.slice none 0 0) := (h.cell 0).trans rfl
 have k1 : w.cell? ⟨ab, 1, none⟩ = some (.slice none 0 0) := (h.cell 1).trans rfl
 have k2 : w.cell? ⟨ab, 2, none⟩ = some (.slice none 0 0) := (h.cell 2).trans rfl
 have k3 : w.cell? ⟨ab, 3, none⟩ = some (.int .i64 0) := (h.cell 3).trans rfl
 have f0 := h.frozen 0
 have f1 := h.frozen 1
 have f2 := h.frozen 2
 have f3 := h.frozen 3
 have hl := h.lt
 go_simp
theorem fr_way (w : World) (ab : Nat) (u0 u1 u2 u3 : Value) : Fr (fun k => k = ab) w ((((w.setCell ⟨ab, 0, none⟩ u0).setCell ⟨ab, 1, none⟩ u1).setCell ⟨ab, 2, none⟩ u2).setCell ⟨ab, 3, none⟩ u3) :=
 ((((Fr.refl (S := fun k => k = ab) (w := w)).set_ (p := ⟨ab, 0, none⟩) (.inl rfl) u0).set_ (p := ⟨ab, 1, none⟩) (.inl rfl) u1).set_ (p := ⟨ab, 2, none⟩) (.inl rfl) u2).set_ (p := ⟨ab, 3, none⟩) (.inl rfl) u3
theorem bk_way {w : World} {ab : Nat} (h : Bk w ab 120 zWay) (u0 u1 u2 u3 : Value) : Bk ((((w.setCell ⟨ab, 0, none⟩ u0).setCell ⟨ab, 1, none⟩ u1).setCell ⟨ab, 2, none⟩ u2).setCell ⟨ab, 3, none⟩ u3) ab 120 #[u0, u1, u2, u3] := (((h.set_ 0 u0).set_ 1 u1).set_ 2 u2).set_ 3 u3
theorem at_way {w : World} {ab : Nat} (h : Bk w ab 120 zWay) (u0 u1 u2 u3 : Value) : ((((w.setCell ⟨ab, 0, none⟩ u0).setCell ⟨ab, 1, none⟩ u1).setCell ⟨ab, 2, none⟩ u2).setCell ⟨ab, 3, none⟩ u3).cell? ⟨ab, 1, none⟩ = some u1 ∧ ab < ((((w.setCell ⟨ab, 0, none⟩ u0).setCell ⟨ab, 1, none⟩ u1).setCell ⟨ab, 2, none⟩ u2).setCell ⟨ab, 3, none⟩ u3).heap.size :=
 ⟨((bk_way h u0 u1 u2 u3).cell 1).trans rfl, (bk_way h u0 u1 u2 u3).lt⟩
theorem at_way2 {w : World} {ab : Nat} (h : Bk w ab 120 zWay) (u0 u1 u2 u3 : Value) : ((((w.setCell ⟨ab, 0, none⟩ u0).setCell ⟨ab, 1, none⟩ u1).setCell ⟨ab, 2, none⟩ u2).setCell ⟨ab, 3, none⟩ u3).cell? ⟨ab, 2, none⟩ = some u2 ∧ ab < ((((w.setCell ⟨ab, 0, none⟩ u0).setCell ⟨ab, 1, none⟩ u1).setCell ⟨ab, 2, none⟩ u2).setCell ⟨ab, 3, none⟩ u3).heap.size :=
 ⟨((bk_way h u0 u1 u2 u3).cell 2).trans rfl, (bk_way h u0 u1 u2 u3).lt⟩
theorem own_way {w : World} {ab base z n : Nat} {e : TypeId} {v : Value} {xs : List Value} (h : Bk w ab 120 zWay) (ho : w.ownsRow base e z v n xs) (u0 u1 u2 u3 : Value) (hne : e ≠ 120 := by decide) : ((((w.setCell ⟨ab, 0, none⟩ u0).setCell ⟨ab, 1, none⟩ u1).setCell ⟨ab, 2, none⟩ u2).setCell ⟨ab, 3, none⟩ u3).ownsRow base e z v n xs :=
 own_fr ho (fr_way w ab u0 u1 u2 u3) (fun k hk he => own_ne_bk ho h hne (by rw [hk]; exact congrArg some he))
theorem below_way {w0 w : World} {ab : Nat} (hb : Below w0.heap.size w0 w) (ha : w0.heap.size ≤ ab) (u0 u1 u2 u3 : Value) : Below w0.heap.size w0 ((((w.setCell ⟨ab, 0, none⟩ u0).setCell ⟨ab, 1, none⟩ u1).setCell ⟨ab, 2, none⟩ u2).setCell ⟨ab, 3, none⟩ u3) :=
 hb.trans ((fr_way w ab u0 u1 u2 u3).below (fun k hk => by have h2 : k = ab := hk; omega) hb.size)
/-- May a walk begin at each? -/
def beginsB (p : PlanD) (mark : Int) (want : List Id3) : Bool := want.all fun x => decide (beginD p mark x = 0)
theorem beginsB_yes {p : PlanD} {mark : Int} {want : List Id3} (h : beginsB p mark want = true) : ∀ x ∈ want, beginD p mark x = 0 := fun x hx => of_decide_eq_true (List.all_eq_true.1 h x hx)
theorem beginsB_no {p : PlanD} {mark : Int} {want : List Id3} (h : beginsB p mark want = false) : ∃ x ∈ want, beginD p mark x ≠ 0 := by
 obtain ⟨x, hx, hn⟩ := List.all_eq_false.1 h
 exact ⟨x, hx, fun e => hn (decide_eq_true e)⟩
/-- What a walk told, whether it could begin or not. -/
def WayOk (p : PlanD) (mark : Int) (held want : List Id3) (base : Nat) (A2 : Option Addr) (n2 c2 : Nat) (A3 : Option Addr) (n3 c3 : Nat) (ve : Value) (w : World) : Prop :=
 (beginsB p mark want = true → ve = .nilIface ∧ n2 = (walkD p mark held want).ready.length ∧ n3 = (walkD p mark held want).used.length ∧ w.ownsRow base 35 3 (.slice A2 n2 c2) n2 (idsC (walkD p mark held want).ready) ∧ w.ownsRow base 35 3 (.slice A3 n3 c3) n3 (idsC (walkD p mark held want).used)) ∧
 (beginsB p mark want = false → ∃ (T : TypeId) (y : Value), ve = .iface T y)
theorem WayOk.ext {p : PlanD} {mark : Int} {held want : List Id3} {base n2 c2 n3 c3 : Nat} {A2 A3 : Option Addr} {ve : Value} {w w' : World} (h : WayOk p mark held want base A2 n2 c2 A3 n3 c3 ve w) (hb : Below w.heap.size w w') : WayOk p mark held want base A2 n2 c2 A3 n3 c3 ve w' :=
 ⟨fun hu => ⟨(h.1 hu).1, (h.1 hu).2.1, (h.1 hu).2.2.1, own_ext (h.1 hu).2.2.2.1 hb, own_ext (h.1 hu).2.2.2.2 hb⟩, h.2⟩
theorem WayOk.mono {p : PlanD} {mark : Int} {held want : List Id3} {base base' n2 c2 n3 c3 : Nat} {A2 A3 : Option Addr} {ve : Value} {w : World} (h : WayOk p mark held want base A2 n2 c2 A3 n3 c3 ve w) (hb : base' ≤ base) : WayOk p mark held want base' A2 n2 c2 A3 n3 c3 ve w :=
 ⟨fun hu => ⟨(h.1 hu).1, (h.1 hu).2.1, (h.1 hu).2.2.1, own_mono (h.1 hu).2.2.2.1 hb, own_mono (h.1 hu).2.2.2.2 hb⟩, h.2⟩
theorem WayOk.way {p : PlanD} {mark : Int} {held want : List Id3} {base n2 c2 n3 c3 ab : Nat} {A2 A3 : Option Addr} {ve : Value} {w : World} (h : WayOk p mark held want base A2 n2 c2 A3 n3 c3 ve w) (hk : Bk w ab 120 zWay) (u0 u1 u2 u3 : Value) : WayOk p mark held want base A2 n2 c2 A3 n3 c3 ve ((((w.setCell ⟨ab, 0, none⟩ u0).setCell ⟨ab, 1, none⟩ u1).setCell ⟨ab, 2, none⟩ u2).setCell ⟨ab, 3, none⟩ u3) :=
 ⟨fun hu => ⟨(h.1 hu).1, (h.1 hu).2.1, (h.1 hu).2.2.1, own_way hk (h.1 hu).2.2.2.1 _ _ _ _, own_way hk (h.1 hu).2.2.2.2 _ _ _ _⟩, h.2⟩
def WalkU (p : PlanD) (mark : Int) (held want : List Id3) (w : World) (e : Ending) (w' : World) : Prop :=
 ∃ (A1 : Option Addr) (n1 c1 : Nat) (A2 : Option Addr) (n2 c2 : Nat) (A3 : Option Addr) (n3 c3 : Nat) (dp : Int) (ve : Value), e = .returned (.tuple #[.agg #[.slice A1 n1 c1, .slice A2 n2 c2, .slice A3 n3 c3, .int .i64 dp], ve]) ∧ WayOk p mark held want w.heap.size A2 n2 c2 A3 n3 c3 ve w' ∧ Below w.heap.size w w'
theorem WalkPost.u {p : PlanD} {mark : Int} {held want : List Id3} {w w' : World} {e : Ending} (h : WalkPost p mark held want w e w') : WalkU p mark held want w e w' := by
 cases hu : beginsB p mark want with
 | true =>
   obtain ⟨A1, A2, A3, c1, c2, c3, rfl, h1, h2, h3, hb⟩ := h.1 (beginsB_yes hu)
   exact ⟨A1, _, c1, A2, _, c2, A3, _, c3, _, _, rfl, ⟨fun _ => ⟨rfl, rfl, rfl, h2, h3⟩, (fun h => by rw [hu] at h; cases h)⟩, hb⟩
 | false =>
   obtain ⟨v, at_, code, rfl, hE, hb⟩ := h.2 (beginsB_no hu)
   obtain ⟨fb, s, v6, n6, rfl, _, _⟩ := hE
   exact ⟨none, 0, 0, none, 0, 0, none, 0, 0, 0, _, rfl, ⟨(fun h => by rw [hu] at h; cases h), fun _ => ⟨_, _, rfl⟩⟩, hb⟩
theorem far_way {w : World} {g ab : Nat} {t : TypeId} {cs : Array Value} (h : Bk w g t cs) (hne : g ≠ ab) (u0 u1 u2 u3 : Value) : Bk ((((w.setCell ⟨ab, 0, none⟩ u0).setCell ⟨ab, 1, none⟩ u1).setCell ⟨ab, 2, none⟩ u2).setCell ⟨ab, 3, none⟩ u3) g t cs :=
 (((h.far (p := ⟨ab, 0, none⟩) hne u0).far (p := ⟨ab, 1, none⟩) hne u1).far (p := ⟨ab, 2, none⟩) hne u2).far (p := ⟨ab, 3, none⟩) hne u3
theorem way_al (w : World) : ∃ (ab : Nat) (wA : World), ab = w.heap.size ∧ w.alloc (.cells #[.slice none 0 0, .slice none 0 0, .slice none 0 0, .int .i64 0] 120 (0, 0)) = wA ∧ Below w.heap.size w wA ∧ Bk wA ab 120 zWay :=
 ⟨_, _, rfl, rfl, ext_alloc (Below.refl _ _) _, Bk.new _ _ _⟩
theorem way_ald (w : World) : ∃ (ab : Nat) (wA : World), ab = w.heap.size ∧ (w.alloc (.cells #[.slice none 0 0, .slice none 0 0, .slice none 0 0, .int .i64 0] 120 (0, 0))).drew = wA ∧ Below w.heap.size w wA ∧ Bk wA ab 120 zWay :=
 ⟨_, _, rfl, rfl, (ext_alloc (Below.refl _ _) _).drew, Bk.new _ _ _⟩
theorem id_al (w : World) (b s p : Int) : ∃ (gb : Nat) (wS : World), gb = w.heap.size ∧ w.alloc (.cells #[.int .i64 b, .int .i64 s, .int .i64 p] 35 (0, 0)) = wS ∧ Below w.heap.size w wS ∧ Bk wS gb 35 #[.int .i64 b, .int .i64 s, .int .i64 p] :=
 ⟨_, _, rfl, rfl, ext_alloc (Below.refl _ _) _, Bk.new _ _ _⟩
theorem id_ald (w : World) (b s p : Int) : ∃ (gb : Nat) (wS : World), gb = w.heap.size ∧ (w.alloc (.cells #[.int .i64 b, .int .i64 s, .int .i64 p] 35 (0, 0))).drew = wS ∧ Below w.heap.size w wS ∧ Bk wS gb 35 #[.int .i64 b, .int .i64 s, .int .i64 p] :=
 ⟨_, _, rfl, rfl, (ext_alloc (Below.refl _ _) _).drew, Bk.new _ _ _⟩
theorem walk_u (B : Nat) (p : PlanD) (A : Option Addr) (c : Nat) (mark : Int) (held want : List Id3) (Aw Ah : Option Addr) (cw ch : Nat) (w : World) (hc : checkD p = none) (ho : RdS w (· < B) 5 A p.ops.length (opsC p.ops)) (hB : B ≤ w.heap.size)
 (hw : RdS w (· < w.heap.size) 3 Aw want.length (idsC want)) (hh : RdS w (· < w.heap.size) 3 Ah held.length (idsC held)) (hnd : held.Nodup) (hwl : want.length ≤ 1000000) (hhl : held.length ≤ 1000000) (htop : ∀ x ∈ want, x.b ≤ 9223372036854775807) :
 Calls Tryz.prog 62 #[planV p A c, .slice Aw want.length cw, .int .i64 mark, .slice Ah held.length ch] w (WalkU p mark held want w) :=
 (walk_c B p A c mark held want Aw Ah cw ch w hc ho hB hw hh hnd hwl hhl htop).mono fun _ _ h => h.u
def wantL (p : PlanD) (s : SchedD) (batches mark : Int) : List Id3 := (goalsL p s batches mark).map (·.id)
def moreL (p : PlanD) (s : SchedD) (batches mark : Int) : List Jb := ((walkD p mark (heldL s) (wantL p s batches mark)).ready.filter fun x => decide (x ∉ wantL p s batches mark)).map fun x => ⟨x, false⟩
/-- 16.4: what can be done now. -/
def jobsL (p : PlanD) (s : SchedD) (batches mark : Int) : List Jb := if beginsB p mark (wantL p s batches mark) then goalsL p s batches mark ++ moreL p s batches mark else goalsL p s batches mark
theorem dueD_le (e : Nat) (k : Int) (m : Nat) : dueD e k m ≤ 60 := by
 unfold dueD
 split <;> omega
theorem dueI_le (e : Nat) (k m : Int) : dueI e k m ≤ 60 := by
 unfold dueI
 split
 · omega
 · exact dueD_le _ _ _
theorem goalsL_top {p : PlanD} {s : SchedD} {batches mark : Int} : ∀ j ∈ goalsL p s batches mark, j.id.b ≤ 60 := by
 intro j hj
 unfold goalsL at hj
 rcases List.mem_append.1 hj with hj | hj
 · unfold goA at hj
   split at hj
   · next h =>
     unfold nextL at hj
     obtain ⟨q, _, rfl⟩ := List.mem_map.1 hj
     show max s.known mark + 1 ≤ 60
     omega
   · cases hj
 · unfold goB at hj
   split at hj
   · cases hj
   · obtain ⟨x, hx, rfl⟩ := List.mem_map.1 hj
     unfold unsavedL at hx
     obtain ⟨st, _, hx⟩ := List.mem_flatMap.1 hx
     unfold unsOne at hx
     have h2 := (List.mem_filter.1 hx).1
     obtain ⟨q, _, rfl⟩ := List.mem_map.1 h2
     show ((dueI s.every s.known mark : Nat) : Int) ≤ 60
     have := dueI_le s.every s.known mark
     omega
theorem goalsL_len {p : PlanD} {s : SchedD} {batches mark : Int} (hp : Shaped p) : (goalsL p s batches mark).length ≤ 52 := by
 have hn12 := hp.n12
 have hp4 := hp.p4
 have hsl := statesL_len p.ops
 have hul := unsavedL_len (p := p) (saved := s.saved) (b := (dueI s.every s.known mark : Nat))
 have h1 : (statesL p.ops).length * p.parts.toNat ≤ 12 * 4 := Nat.mul_le_mul (by omega) (by omega)
 unfold goalsL
 rw [List.length_append]
 have h2 : (goA p s batches mark).length ≤ 4 := by
  unfold goA
  split
  · rw [nextL_len]; omega
  · simp
 have h3 : (goB p s mark).length ≤ 48 := by
  unfold goB
  split
  · simp
  · rw [List.length_map]; omega
 omega
section
variable {B sb : Nat} {R : Nat → Prop} {p : PlanD} {A : Option Addr} {c : Nat} {s : SchedD}
set_option maxRecDepth 100000 in
set_option maxHeartbeats 16000000 in
theorem jobs_c (hsort : SortH) (batches mark : Int) (w : World) (h : SchedIs B sb R p A c s w) (hm : mark ≤ 9223372036854775807) (hlen : s.holds.length ≤ 1000000) :
 Calls Tryz.prog 15 #[.pointer (some ⟨sb, 0, none⟩), .int .i64 batches, .int .i64 mark] w (JsPost w (jobsL p s batches mark)) := by
 have HGs := Lib.hid (goals_c batches mark w h hm)
 have HHd := Lib.hid (fun W hW => held_c (B := B) (sb := sb) (R := R) (p := p) (A := A) (c := c) (s := s) hsort W hW hlen)
 have HI := Lib.hid h
 obtain ⟨X, h⟩ := h
 have HX := Lib.hid h
 have hp := shaped_check h.plan
 have HCk := Lib.hid h.plan
 have hgl := goalsL_len (s := s) (batches := batches) (mark := mark) hp
 have HTop := Lib.hid (goalsL_top (p := p) (s := s) (batches := batches) (mark := mark))
 have HP := Lib.hid hp
 have hl := h.bk.lt
 have HHl := Lib.hid (heldL_len s)
 have HNd := Lib.hid (show (heldL s).Nodup from (sortB_perm _).nodup_iff.2 (by have h1 := h.keys; rw [h.hl, List.map_map]; exact h1))
 have HB0 := Lib.hid (show B ≤ w.heap.size from by have := (h.bd _ h.rs.1); omega)
 have HAo := Lib.hid (show RdS w (· < B) 5 A p.ops.length (opsC p.ops) from by obtain ⟨mb, es, hy⟩ := h.ways; exact hy.ops)
 clear hp h
 obtain ⟨g, hg⟩ : ∃ g, g = goalsL p s batches mark := ⟨_, rfl⟩
 have HG := Lib.hid hg
 obtain ⟨want, hwant⟩ : ∃ want, want = g.map (·.id) := ⟨_, rfl⟩
 have HWn := Lib.hid hwant
 have HJ := Lib.hid (show jobsL p s batches mark = if beginsB p mark want then g ++ (((walkD p mark (heldL s) want).ready.filter fun x => decide (x ∉ want)).map fun x => ⟨x, false⟩) else g from by
  unfold jobsL moreL wantL
  rw [← hg, ← hwant])
 have hwl : want.length ≤ 52 := by rw [hwant, List.length_map, hg]; exact hgl
 have HWt := Lib.hid (show ∀ x ∈ want, x.b ≤ 9223372036854775807 from fun x hx => by
  rw [hwant] at hx
  obtain ⟨j, hj, rfl⟩ := List.mem_map.1 hx
  rw [hg] at hj
  have := HTop.out j hj
  omega)
 rw [← hg] at HGs hgl
 clear hg hwant
 go_enter Tryz.func15, Tryz.ntmps15
 go_wp2_with (first
  | (go_at_call 14; refine HGs.out.mono ?_; rintro e w1 ⟨A1, c1, rfl, hown, hb⟩
     have HO1 := Lib.hid hown
     have HB1 := Lib.hid hb
     clear hown hb))
 go_loopg [8, 10, 21] g.length (fun gk v8 v10 v21 wr => ∃ i : Nat, i + gk = g.length ∧ v21 = .int .i64 (i : Nat) ∧ Hid (wr.ownsRow w.heap.size 35 3 v8 ((g.take i).map (·.id)).length (idsC ((g.take i).map (·.id)))) ∧ Hid (wr.ownsRow w.heap.size 46 4 (.slice A1 g.length c1) g.length (g.flatMap jbC)) ∧ Hid (Below w.heap.size w wr))
 case atStart => exact ⟨0, by omega, rfl, Lib.hid (World.ownsRow_nil _ _ _ _), HO1, HB1⟩
 case round =>
  obtain ⟨i, hik, rfl, HV, HO, HB⟩ := hrel
  obtain ⟨A5, c5, rfl, hc5⟩ := own_shape HV.out
  by_cases hi : i < g.length
  · have hy : g[i]? = some (g[i]) := List.getElem?_eq_getElem hi
    generalize g[i] = y at hy
    obtain ⟨ad, rfl, d0, d1, d2, d3⟩ := (Rd.of_own (B := 0) HO.out).jbs hy hi
    have HSu := Lib.hid (show (g.take (i + 1)).map (·.id) = (g.take i).map (·.id) ++ [y.id] from by rw [take_succ_of hy, List.map_append]; rfl)
    have hll : ((g.take i).map (·.id)).length ≤ 52 := by rw [List.length_map, List.length_take]; omega
    obtain ⟨l, hl⟩ : ∃ l, l = (g.take i).map (·.id) := ⟨_, rfl⟩
    rw [← hl] at HV HSu hll hc5 ⊢
    obtain ⟨⟨yb, ys, yp⟩, yv⟩ := y
    have HE1 := Lib.hid (ext_alloc (ext_alloc (Below.refl wr.heap.size wr) (.cells #[.int .i64 yb, .int .i64 ys, .int .i64 yp, .bool yv] 46 (0, 0))) (.cells #[.int .i64 yb, .int .i64 ys, .int .i64 yp] 35 (0, 0)))
    have HO4 := Lib.hid (own_ext HV.out HE1.out)
    have HN4 := Lib.hid (Bk.newAt (w := wr.alloc (.cells #[.int .i64 yb, .int .i64 ys, .int .i64 yp, .bool yv] 46 (0, 0))) (t := 35) (cs := #[.int .i64 yb, .int .i64 ys, .int .i64 yp]) (g := wr.heap.size + 1) (by simp))
    clear hl hy
    go_wp2_with (first
     | (at_builtin; refine wpList_appE id_app _ rfl (.tmp 25) (.tmp 28) rfl w.heap.size _ l (by rfl) HO4.out (⟨yb, ys, yp⟩ : Id3) (wr.heap.size + 1) (by rfl) HN4.out (by omega) (by have h1 := HB.out.size; have h2 := HE1.out.size; omega) ?_
        intro A7 c7 w7 hown7 hg7 hc7
        have HO7 := Lib.hid hown7
        have HG7 := Lib.hid hg7
        clear hown7 hg7))
    go_roundg (gk - 1)
    case measure => omega
    case rel =>
     refine ⟨i + 1, by omega, by go_num, Lib.hid ?_, Lib.hid ((own_ext HO.out HE1.out).kept HG7.out (own_ne_own (own_ext HO.out HE1.out) HO4.out (by decide))), Lib.hid (below_grownOwn (ext_trans HB.out HE1.out) HO4.out (Nat.le_refl _) HG7.out)⟩
     rw [HSu.out]
     have h := HO7.out
     simp only [List.length_append, List.length_cons, List.length_nil, Nat.zero_add] at h ⊢
     exact h
  · have hil : i = g.length := by omega
    subst hil
    rw [List.take_length] at HV
    rw [List.take_length]
    rw [← HWn.out] at HV
    rw [← HWn.out]
    obtain ⟨w4, rfl⟩ : ∃ w4 : World, w4 = wr := ⟨_, rfl⟩
    obtain ⟨go, rfl⟩ : ∃ go : Nat, go = gk := ⟨_, rfl⟩
    clear hik hi HB1 HO1 HGs
    obtain ⟨u, hu⟩ : ∃ u, u = beginsB p mark want := ⟨_, rfl⟩
    rw [← hu] at HJ
    have HU := Lib.hid hu
    clear hu
    have HX4 := Lib.hid (HX.out.ext HB.out)
    have HNd : Hid (sortB (s.holds.map (·.1))).Nodup := HNd
    have HIc := Lib.hid (HI.out.ext HB.out)
    have HBc := Lib.hid (Below.refl w4.heap.size w4)
    have HS := Lib.hid (HX4.out.bk)
    have HVc := HV
    have z0 : w4.cell? ⟨sb, 0, none⟩ = some (.int .i64 p.parts) := (HX4.out.bk.cell 0).trans rfl
    have z1 : w4.cell? ⟨sb, 1, none⟩ = some (.slice A p.ops.length c) := (HX4.out.bk.cell 1).trans rfl
    go_upto_region 8 with fail
    go_cut [11, 12] (fun v11 v12 wx => ∃ (ab : Nat) (A2 : Option Addr) (n2 c2 : Nat) (A3 : Option Addr) (n3 c3 : Nat), v11 = .pointer (some ⟨ab, 0, none⟩) ∧ Hid (wx.cell? ⟨ab, 1, none⟩ = some (.slice A2 n2 c2) ∧ wx.cell? ⟨ab, 2, none⟩ = some (.slice A3 n3 c3) ∧ ab < wx.heap.size ∧ w4.heap.size ≤ ab) ∧ Hid (WayOk p mark (sortB (s.holds.map (·.1))) want w4.heap.size A2 n2 c2 A3 n3 c3 v12 wx) ∧ Hid (Below w4.heap.size w4 wx))
    case first =>
     --@R8A
     refine wp_region_held_drew (S := (fun w' => w'.cell? ⟨sb, 0, none⟩ = some (.int .i64 p.parts) ∧ w'.cell? ⟨sb, 1, none⟩ = some (.slice A p.ops.length c))) (by kernel_rfl) ?_ (fun hHeld => ?_)
     · (first | exact ⟨(HS.out.cell 0).trans rfl, (HS.out.cell 1).trans rfl⟩ | go_keep)
     refine wpAnyH_take (i := 0) (oi := ⟨some 32, .move (.tmp 0), 26, "sched.go:176", #[], none⟩) (v := ?v1z0) rfl (by kernel_rfl) (by kernel_rfl) (by kernel_rfl) (fun _ _ _ h => h) (Or.inl ⟨by rfl, ?hy1z0⟩) (by assumption) ?rest1z0
     case hy1z0 => (intro w hSw; (try dsimp only at hSw); go_simp; try (with_reducible rfl))
     simp only [Act.put, List.setIfInBounds_toArray, List.set_cons_zero, List.set_cons_succ]
     refine wpAnyH_take (i := 1) (oi := ⟨some 33, .nilCheck (.tmp 32), 0, "sched.go:176", #[⟨0, .data⟩], none⟩) (v := ?v1z1) rfl (by kernel_rfl) (by kernel_rfl) (by kernel_rfl) (fun _ _ _ h => h) (Or.inl ⟨by rfl, ?hy1z1⟩) (by assumption) ?rest1z1
     case hy1z1 => (intro w hSw; (try dsimp only at hSw); go_simp; try (with_reducible rfl))
     simp only [Act.put, List.setIfInBounds_toArray, List.set_cons_zero, List.set_cons_succ]
     refine wpAnyH_take (i := 2) (oi := ⟨some 34, .fieldAddr 112 (.tmp 33) 0, 0, "sched.go:176", #[⟨1, .data⟩], none⟩) (v := ?v1z2) rfl (by kernel_rfl) (by kernel_rfl) (by kernel_rfl) (fun _ _ _ h => h) (Or.inl ⟨by rfl, ?hy1z2⟩) (by assumption) ?rest1z2
     case hy1z2 => (intro w hSw; (try dsimp only at hSw); go_simp; try (with_reducible rfl))
     simp only [Act.put, List.setIfInBounds_toArray, List.set_cons_zero, List.set_cons_succ]
     refine wpAnyH_take (i := 3) (oi := ⟨some 35, .load 24 (.tmp 34), 24, "sched.go:176", #[⟨2, .data⟩], none⟩) (v := ?v1z3) rfl (by kernel_rfl) (by kernel_rfl) (by kernel_rfl) (fun _ _ _ h => h) (Or.inl ⟨by rfl, ?hy1z3⟩) (by assumption) ?rest1z3
     case hy1z3 => (intro w hSw; (try dsimp only at hSw); go_simp; try (with_reducible rfl))
     simp only [Act.put, List.setIfInBounds_toArray, List.set_cons_zero, List.set_cons_succ]
     refine wpAnyH_take (i := 4) (oi := ⟨some 36, .move (.tmp 8), 33, "sched.go:176", #[], none⟩) (v := ?v1z4) rfl (by kernel_rfl) (by kernel_rfl) (by kernel_rfl) (fun _ _ _ h => h) (Or.inl ⟨by rfl, ?hy1z4⟩) (by assumption) ?rest1z4
     case hy1z4 => (intro w hSw; (try dsimp only at hSw); go_simp; try (with_reducible rfl))
     simp only [Act.put, List.setIfInBounds_toArray, List.set_cons_zero, List.set_cons_succ]
     refine wpAnyH_take (i := 5) (oi := ⟨some 37, .move (.tmp 2), 3, "sched.go:176", #[], none⟩) (v := ?v1z5) rfl (by kernel_rfl) (by kernel_rfl) (by kernel_rfl) (fun _ _ _ h => h) (Or.inl ⟨by rfl, ?hy1z5⟩) (by assumption) ?rest1z5
     case hy1z5 => (intro w hSw; (try dsimp only at hSw); go_simp; try (with_reducible rfl))
     simp only [Act.put, List.setIfInBounds_toArray, List.set_cons_zero, List.set_cons_succ]
     refine wpAnyH_take (i := 6) (oi := ⟨some 38, .move (.tmp 0), 26, "sched.go:176", #[], none⟩) (v := ?v1z6) rfl (by kernel_rfl) (by kernel_rfl) (by kernel_rfl) (fun _ _ _ h => h) (Or.inl ⟨by rfl, ?hy1z6⟩) (by assumption) ?rest1z6
     case hy1z6 => (intro w hSw; (try dsimp only at hSw); go_simp; try (with_reducible rfl))
     simp only [Act.put, List.setIfInBounds_toArray, List.set_cons_zero, List.set_cons_succ]
     refine wpAnyH_ready (rs := [7, 12]) (by kernel_rfl) (by simp) ?_
     refine AllReadyH.cons (o := ⟨some 39, .call { callee := .value (.func 63), args := #[.tmp 38], argTypes := #[26] }, 33, "sched.go:176", #[⟨6, .data⟩], none⟩) rfl (fun K hK => ?_) ?_
     ·
       go_simp
       go_at_call 63
       refine (HHd.out _ (by first | exact HIc.out | exact HIc.out.ext (below_drewN (Below.refl _ _) 1))).mono ?_
       rintro e w5 ⟨A3, c3, l3, rfl, h1, h2, hown, hb⟩
       obtain rfl := sortB_eq h1 h2
       try (have hb := ext_trans (below_drewN (Below.refl w4.heap.size w4) 1) hb)
       have HIc := Lib.hid (HIc.out.ext hb)
       have HBc := Lib.hid (ext_trans HBc.out hb)
       have HS := Lib.hid (HS.out.ext hb)
       have HVc := Lib.hid (own_ext HVc.out hb)
       try (have HKA := Lib.hid (HKA.out.ext hb))
       have HH5 := Lib.hid hown
       clear h1 h2 hown hb
       refine hK.out _ _ ?_ (fun hHeld => ?_)
       · (first | exact ⟨(HS.out.cell 0).trans rfl, (HS.out.cell 1).trans rfl⟩ | go_keep)
       clear hK K
       try simp only [Act.put, List.setIfInBounds_toArray, List.set_cons_zero, List.set_cons_succ]
       refine wpAnyH_ready (rs := [8, 12]) (by kernel_rfl) (by simp) ?_
       refine AllReadyH.cons (o := ⟨some 40, .call { callee := .value (.func 62), args := #[.tmp 35, .tmp 36, .tmp 37, .tmp 39], argTypes := #[24, 33, 3, 33] }, 121, "sched.go:176", #[⟨3, .data⟩, ⟨4, .data⟩, ⟨5, .data⟩, ⟨7, .data⟩, ⟨7, .chain⟩], none⟩) rfl (fun K hK => ?_) ?_
       ·
         go_simp
         go_at_call 62
         have e1 := HAo.out.ext (ext_trans HB.out HBc.out)
         have e2 := RdS.of_own HVc.out (fun k hk => (HVc.out.lt k hk).2)
         have e3 := RdS.of_own HH5.out (fun k hk => (HH5.out.lt k hk).2)
         have e4 := walk_u B p A c mark (sortB (s.holds.map (·.1))) want A5 A3 c5 c3 _ HCk.out e1 (by have h1 := HB0.out; have h2 := HB.out.size; have h3 := HBc.out.size; omega) e2 e3 HNd.out (by omega) (by have h1 := HHl.out; unfold heldL at h1; rw [h1]; exact hlen) HWt.out
         refine e4.mono ?_
         clear e1 e2 e3 e4
         rintro e w6 ⟨A61, n61, c61, A62, n62, c62, A63, n63, c63, dp6, ve6, rfl, hwk, hb⟩
         have HWk := Lib.hid (hwk.mono (show w4.heap.size ≤ _ from HBc.out.size))
         have HIc := Lib.hid (HIc.out.ext hb)
         have HBc := Lib.hid (ext_trans HBc.out hb)
         have HS := Lib.hid (HS.out.ext hb)
         have HVc := Lib.hid (own_ext HVc.out hb)
         try (have HKA := Lib.hid (HKA.out.ext hb))
         clear hwk hb
         refine hK.out _ _ ?_ (fun hHeld => ?_)
         · (first | exact ⟨(HS.out.cell 0).trans rfl, (HS.out.cell 1).trans rfl⟩ | go_keep)
         clear hK K
         try simp only [Act.put, List.setIfInBounds_toArray, List.set_cons_zero, List.set_cons_succ]
         refine wpAnyH_take (i := 9) (oi := ⟨some 31, .move (.tmp 40), 121, "sched.go:176", #[⟨8, .data⟩], none⟩) (v := ?v1z9) rfl (by kernel_rfl) (by kernel_rfl) (by kernel_rfl) (fun _ _ _ h => h) (Or.inl ⟨by rfl, ?hy1z9⟩) (by assumption) ?rest1z9
         case hy1z9 => (intro w hSw; (try dsimp only at hSw); go_simp; try (with_reducible rfl))
         simp only [Act.put, List.setIfInBounds_toArray, List.set_cons_zero, List.set_cons_succ]
         refine wpAnyH_take (i := 10) (oi := ⟨some 41, .extract (.tmp 31) 0, 120, "sched.go:176", #[⟨9, .data⟩], none⟩) (v := ?v1z10) rfl (by kernel_rfl) (by kernel_rfl) (by kernel_rfl) (fun _ _ _ h => h) (Or.inl ⟨by rfl, ?hy1z10⟩) (by assumption) ?rest1z10
         case hy1z10 => (intro w hSw; (try dsimp only at hSw); go_simp; try (with_reducible rfl))
         simp only [Act.put, List.setIfInBounds_toArray, List.set_cons_zero, List.set_cons_succ]
         refine wpAnyH_take (i := 11) (oi := ⟨some 42, .extract (.tmp 31) 1, 28, "sched.go:176", #[⟨9, .data⟩, ⟨13, .gcOnly .lateStores⟩], none⟩) (v := ?v1z11) rfl (by kernel_rfl) (by kernel_rfl) (by kernel_rfl) (fun _ _ _ h => h) (Or.inl ⟨by rfl, ?hy1z11⟩) (by assumption) ?rest1z11
         case hy1z11 => (intro w hSw; (try dsimp only at hSw); go_simp; try (with_reducible rfl))
         simp only [Act.put, List.setIfInBounds_toArray, List.set_cons_zero, List.set_cons_succ]
         refine wpAnyH_ready (rs := [12]) (by kernel_rfl) (by simp) ?_
         refine AllReadyH.cons (o := ⟨some 11, .alloc 120, 0, "sched.go:176", #[], none⟩) rfl (fun K hK => ?_) ?_
         ·
           go_simp
           first
             | (obtain ⟨ab, wA, hab, hwA, hbA, hKA⟩ := way_al w6; rw [hwA, ← hab]; have hsb0 : sb < ab := (by rw [hab]; exact HS.out.lt); have hab4 : w4.heap.size ≤ ab := (by rw [hab]; exact HBc.out.size); clear hab)
             | (obtain ⟨ab, wA, hab, hwA, hbA, hKA⟩ := way_al w5; rw [hwA, ← hab]; have hsb0 : sb < ab := (by rw [hab]; exact HS.out.lt); have hab4 : w4.heap.size ≤ ab := (by rw [hab]; exact HBc.out.size); clear hab)
             | (obtain ⟨ab, wA, hab, hwA, hbA, hKA⟩ := way_al wS; rw [hwA, ← hab]; have hsb0 : sb < ab := (by rw [hab]; exact HS.out.lt); have hab4 : w4.heap.size ≤ ab := (by rw [hab]; exact HBc.out.size); clear hab)
             | (obtain ⟨ab, wA, hab, hwA, hbA, hKA⟩ := way_ald w4; rw [hwA, ← hab]; have hsb0 : sb < ab := (by rw [hab]; exact HS.out.lt); have hab4 : w4.heap.size ≤ ab := (by rw [hab]; exact HBc.out.size); clear hab)
           have HKA := Lib.hid hKA
           have HNe := Lib.hid (show sb ≠ ab from by omega)
           have HAb := Lib.hid hab4
           have HIc := Lib.hid (HIc.out.ext hbA)
           have HBc := Lib.hid (ext_trans HBc.out hbA)
           have HS := Lib.hid (HS.out.ext hbA)
           have HVc := Lib.hid (own_ext HVc.out hbA)
           try (have HH5 := Lib.hid (own_ext HH5.out hbA))
           try (have HWk := Lib.hid (HWk.out.ext hbA))
           clear hwA hKA hbA hab4 hsb0
           refine hK.out _ _ ?_ (fun hHeld => ?_)
           · (first | exact ⟨(HS.out.cell 0).trans rfl, (HS.out.cell 1).trans rfl⟩ | go_keep)
           clear hK K
           try simp only [Act.put, List.setIfInBounds_toArray, List.set_cons_zero, List.set_cons_succ]
           refine wpAnyH_ready (rs := [13]) (by kernel_rfl) (by simp) ?_
           refine AllReadyH.cons (o := ⟨none, .store 120 (.tmp 11) (.tmp 41), 0, "sched.go:176", #[⟨12, .data⟩, ⟨10, .data⟩, ⟨8, .chain⟩, ⟨0, .phase⟩, ⟨1, .phase⟩, ⟨2, .phase⟩, ⟨3, .phase⟩, ⟨4, .phase⟩, ⟨5, .phase⟩, ⟨6, .phase⟩, ⟨7, .phase⟩, ⟨8, .phase⟩, ⟨9, .phase⟩, ⟨10, .phase⟩, ⟨11, .textOnly .lateStores⟩, ⟨12, .phase⟩], none⟩) rfl (fun K hK => ?_) ?_
           ·
             refine step_storeAt rfl 120 (.tmp 11) (.tmp 41) rfl _ _ (by rfl) (by rfl) (run_store_way HKA.out _ _ _ _ _ _ _ _ _ _) ?_
             have HS := Lib.hid (far_way HS.out HNe.out (.slice A61 n61 c61) (.slice A62 n62 c62) (.slice A63 n63 c63) (.int .i64 dp6))
             refine hK.out _ _ ?_ (fun hHeld => ?_)
             · (first | exact ⟨(HS.out.cell 0).trans rfl, (HS.out.cell 1).trans rfl⟩ | go_keep)
             clear hK K
             try simp only [Act.put]
             refine wpAnyH_take (i := 14) (oi := ⟨some 12, .assign (.tmp 42), 28, "sched.go:176", #[⟨11, .data⟩, ⟨13, .chain⟩, ⟨0, .phase⟩, ⟨1, .phase⟩, ⟨2, .phase⟩, ⟨3, .phase⟩, ⟨4, .phase⟩, ⟨5, .phase⟩, ⟨6, .phase⟩, ⟨7, .phase⟩, ⟨8, .phase⟩, ⟨9, .phase⟩, ⟨10, .phase⟩, ⟨11, .phase⟩, ⟨12, .phase⟩, ⟨13, .phase⟩], none⟩) (v := ?v1z14) rfl (by kernel_rfl) (by kernel_rfl) (by kernel_rfl) (fun _ _ _ h => h) (Or.inl ⟨by rfl, ?hy1z14⟩) (by assumption) ?rest1z14
             case hy1z14 => (intro w hSw; (try dsimp only at hSw); go_simp; try (with_reducible rfl))
             simp only [Act.put, List.setIfInBounds_toArray, List.set_cons_zero, List.set_cons_succ]
             refine wpAnyH_done (by kernel_rfl) ?_ _
             go_wp2_with fail
             go_meet
             exact ⟨ab, A62, n62, c62, A63, n63, c63, rfl, Lib.hid ⟨(at_way HKA.out _ _ _ _).1, (at_way2 HKA.out _ _ _ _).1, (at_way HKA.out _ _ _ _).2, HAb.out⟩, Lib.hid (HWk.out.way HKA.out _ _ _ _), Lib.hid (below_way HBc.out HAb.out _ _ _ _)⟩
           exact AllReadyH.nil
         exact AllReadyH.nil
       refine AllReadyH.cons (o := ⟨some 11, .alloc 120, 0, "sched.go:176", #[], none⟩) rfl (fun K hK => ?_) ?_
       ·
         go_simp
         first
           | (obtain ⟨ab, wA, hab, hwA, hbA, hKA⟩ := way_al w6; rw [hwA, ← hab]; have hsb0 : sb < ab := (by rw [hab]; exact HS.out.lt); have hab4 : w4.heap.size ≤ ab := (by rw [hab]; exact HBc.out.size); clear hab)
           | (obtain ⟨ab, wA, hab, hwA, hbA, hKA⟩ := way_al w5; rw [hwA, ← hab]; have hsb0 : sb < ab := (by rw [hab]; exact HS.out.lt); have hab4 : w4.heap.size ≤ ab := (by rw [hab]; exact HBc.out.size); clear hab)
           | (obtain ⟨ab, wA, hab, hwA, hbA, hKA⟩ := way_al wS; rw [hwA, ← hab]; have hsb0 : sb < ab := (by rw [hab]; exact HS.out.lt); have hab4 : w4.heap.size ≤ ab := (by rw [hab]; exact HBc.out.size); clear hab)
           | (obtain ⟨ab, wA, hab, hwA, hbA, hKA⟩ := way_ald w4; rw [hwA, ← hab]; have hsb0 : sb < ab := (by rw [hab]; exact HS.out.lt); have hab4 : w4.heap.size ≤ ab := (by rw [hab]; exact HBc.out.size); clear hab)
         have HKA := Lib.hid hKA
         have HNe := Lib.hid (show sb ≠ ab from by omega)
         have HAb := Lib.hid hab4
         have HIc := Lib.hid (HIc.out.ext hbA)
         have HBc := Lib.hid (ext_trans HBc.out hbA)
         have HS := Lib.hid (HS.out.ext hbA)
         have HVc := Lib.hid (own_ext HVc.out hbA)
         try (have HH5 := Lib.hid (own_ext HH5.out hbA))
         try (have HWk := Lib.hid (HWk.out.ext hbA))
         clear hwA hKA hbA hab4 hsb0
         refine hK.out _ _ ?_ (fun hHeld => ?_)
         · (first | exact ⟨(HS.out.cell 0).trans rfl, (HS.out.cell 1).trans rfl⟩ | go_keep)
         clear hK K
         try simp only [Act.put, List.setIfInBounds_toArray, List.set_cons_zero, List.set_cons_succ]
         refine wpAnyH_ready (rs := [8]) (by kernel_rfl) (by simp) ?_
         refine AllReadyH.cons (o := ⟨some 40, .call { callee := .value (.func 62), args := #[.tmp 35, .tmp 36, .tmp 37, .tmp 39], argTypes := #[24, 33, 3, 33] }, 121, "sched.go:176", #[⟨3, .data⟩, ⟨4, .data⟩, ⟨5, .data⟩, ⟨7, .data⟩, ⟨7, .chain⟩], none⟩) rfl (fun K hK => ?_) ?_
         ·
           go_simp
           go_at_call 62
           have e1 := HAo.out.ext (ext_trans HB.out HBc.out)
           have e2 := RdS.of_own HVc.out (fun k hk => (HVc.out.lt k hk).2)
           have e3 := RdS.of_own HH5.out (fun k hk => (HH5.out.lt k hk).2)
           have e4 := walk_u B p A c mark (sortB (s.holds.map (·.1))) want A5 A3 c5 c3 _ HCk.out e1 (by have h1 := HB0.out; have h2 := HB.out.size; have h3 := HBc.out.size; omega) e2 e3 HNd.out (by omega) (by have h1 := HHl.out; unfold heldL at h1; rw [h1]; exact hlen) HWt.out
           refine e4.mono ?_
           clear e1 e2 e3 e4
           rintro e w6 ⟨A61, n61, c61, A62, n62, c62, A63, n63, c63, dp6, ve6, rfl, hwk, hb⟩
           have HWk := Lib.hid (hwk.mono (show w4.heap.size ≤ _ from HBc.out.size))
           have HIc := Lib.hid (HIc.out.ext hb)
           have HBc := Lib.hid (ext_trans HBc.out hb)
           have HS := Lib.hid (HS.out.ext hb)
           have HVc := Lib.hid (own_ext HVc.out hb)
           try (have HKA := Lib.hid (HKA.out.ext hb))
           clear hwk hb
           refine hK.out _ _ ?_ (fun hHeld => ?_)
           · (first | exact ⟨(HS.out.cell 0).trans rfl, (HS.out.cell 1).trans rfl⟩ | go_keep)
           clear hK K
           try simp only [Act.put, List.setIfInBounds_toArray, List.set_cons_zero, List.set_cons_succ]
           refine wpAnyH_take (i := 9) (oi := ⟨some 31, .move (.tmp 40), 121, "sched.go:176", #[⟨8, .data⟩], none⟩) (v := ?v1z9x1) rfl (by kernel_rfl) (by kernel_rfl) (by kernel_rfl) (fun _ _ _ h => h) (Or.inl ⟨by rfl, ?hy1z9x1⟩) (by assumption) ?rest1z9x1
           case hy1z9x1 => (intro w hSw; (try dsimp only at hSw); go_simp; try (with_reducible rfl))
           simp only [Act.put, List.setIfInBounds_toArray, List.set_cons_zero, List.set_cons_succ]
           refine wpAnyH_take (i := 10) (oi := ⟨some 41, .extract (.tmp 31) 0, 120, "sched.go:176", #[⟨9, .data⟩], none⟩) (v := ?v1z10x1) rfl (by kernel_rfl) (by kernel_rfl) (by kernel_rfl) (fun _ _ _ h => h) (Or.inl ⟨by rfl, ?hy1z10x1⟩) (by assumption) ?rest1z10x1
           case hy1z10x1 => (intro w hSw; (try dsimp only at hSw); go_simp; try (with_reducible rfl))
           simp only [Act.put, List.setIfInBounds_toArray, List.set_cons_zero, List.set_cons_succ]
           refine wpAnyH_take (i := 11) (oi := ⟨some 42, .extract (.tmp 31) 1, 28, "sched.go:176", #[⟨9, .data⟩, ⟨13, .gcOnly .lateStores⟩], none⟩) (v := ?v1z11x1) rfl (by kernel_rfl) (by kernel_rfl) (by kernel_rfl) (fun _ _ _ h => h) (Or.inl ⟨by rfl, ?hy1z11x1⟩) (by assumption) ?rest1z11x1
           case hy1z11x1 => (intro w hSw; (try dsimp only at hSw); go_simp; try (with_reducible rfl))
           simp only [Act.put, List.setIfInBounds_toArray, List.set_cons_zero, List.set_cons_succ]
           refine wpAnyH_ready (rs := [13]) (by kernel_rfl) (by simp) ?_
           refine AllReadyH.cons (o := ⟨none, .store 120 (.tmp 11) (.tmp 41), 0, "sched.go:176", #[⟨12, .data⟩, ⟨10, .data⟩, ⟨8, .chain⟩, ⟨0, .phase⟩, ⟨1, .phase⟩, ⟨2, .phase⟩, ⟨3, .phase⟩, ⟨4, .phase⟩, ⟨5, .phase⟩, ⟨6, .phase⟩, ⟨7, .phase⟩, ⟨8, .phase⟩, ⟨9, .phase⟩, ⟨10, .phase⟩, ⟨11, .textOnly .lateStores⟩, ⟨12, .phase⟩], none⟩) rfl (fun K hK => ?_) ?_
           ·
             refine step_storeAt rfl 120 (.tmp 11) (.tmp 41) rfl _ _ (by rfl) (by rfl) (run_store_way HKA.out _ _ _ _ _ _ _ _ _ _) ?_
             have HS := Lib.hid (far_way HS.out HNe.out (.slice A61 n61 c61) (.slice A62 n62 c62) (.slice A63 n63 c63) (.int .i64 dp6))
             refine hK.out _ _ ?_ (fun hHeld => ?_)
             · (first | exact ⟨(HS.out.cell 0).trans rfl, (HS.out.cell 1).trans rfl⟩ | go_keep)
             clear hK K
             try simp only [Act.put]
             refine wpAnyH_take (i := 14) (oi := ⟨some 12, .assign (.tmp 42), 28, "sched.go:176", #[⟨11, .data⟩, ⟨13, .chain⟩, ⟨0, .phase⟩, ⟨1, .phase⟩, ⟨2, .phase⟩, ⟨3, .phase⟩, ⟨4, .phase⟩, ⟨5, .phase⟩, ⟨6, .phase⟩, ⟨7, .phase⟩, ⟨8, .phase⟩, ⟨9, .phase⟩, ⟨10, .phase⟩, ⟨11, .phase⟩, ⟨12, .phase⟩, ⟨13, .phase⟩], none⟩) (v := ?v1z14x1) rfl (by kernel_rfl) (by kernel_rfl) (by kernel_rfl) (fun _ _ _ h => h) (Or.inl ⟨by rfl, ?hy1z14x1⟩) (by assumption) ?rest1z14x1
             case hy1z14x1 => (intro w hSw; (try dsimp only at hSw); go_simp; try (with_reducible rfl))
             simp only [Act.put, List.setIfInBounds_toArray, List.set_cons_zero, List.set_cons_succ]
             refine wpAnyH_done (by kernel_rfl) ?_ _
             go_wp2_with fail
             go_meet
             exact ⟨ab, A62, n62, c62, A63, n63, c63, rfl, Lib.hid ⟨(at_way HKA.out _ _ _ _).1, (at_way2 HKA.out _ _ _ _).1, (at_way HKA.out _ _ _ _).2, HAb.out⟩, Lib.hid (HWk.out.way HKA.out _ _ _ _), Lib.hid (below_way HBc.out HAb.out _ _ _ _)⟩
           exact AllReadyH.nil
         exact AllReadyH.nil
       exact AllReadyH.nil
     refine AllReadyH.cons (o := ⟨some 11, .alloc 120, 0, "sched.go:176", #[], none⟩) rfl (fun K hK => ?_) ?_
     ·
       go_simp
       first
         | (obtain ⟨ab, wA, hab, hwA, hbA, hKA⟩ := way_al w6; rw [hwA, ← hab]; have hsb0 : sb < ab := (by rw [hab]; exact HS.out.lt); have hab4 : w4.heap.size ≤ ab := (by rw [hab]; exact HBc.out.size); clear hab)
         | (obtain ⟨ab, wA, hab, hwA, hbA, hKA⟩ := way_al w5; rw [hwA, ← hab]; have hsb0 : sb < ab := (by rw [hab]; exact HS.out.lt); have hab4 : w4.heap.size ≤ ab := (by rw [hab]; exact HBc.out.size); clear hab)
         | (obtain ⟨ab, wA, hab, hwA, hbA, hKA⟩ := way_al wS; rw [hwA, ← hab]; have hsb0 : sb < ab := (by rw [hab]; exact HS.out.lt); have hab4 : w4.heap.size ≤ ab := (by rw [hab]; exact HBc.out.size); clear hab)
         | (obtain ⟨ab, wA, hab, hwA, hbA, hKA⟩ := way_ald w4; rw [hwA, ← hab]; have hsb0 : sb < ab := (by rw [hab]; exact HS.out.lt); have hab4 : w4.heap.size ≤ ab := (by rw [hab]; exact HBc.out.size); clear hab)
       have HKA := Lib.hid hKA
       have HNe := Lib.hid (show sb ≠ ab from by omega)
       have HAb := Lib.hid hab4
       have HIc := Lib.hid (HIc.out.ext hbA)
       have HBc := Lib.hid (ext_trans HBc.out hbA)
       have HS := Lib.hid (HS.out.ext hbA)
       have HVc := Lib.hid (own_ext HVc.out hbA)
       try (have HH5 := Lib.hid (own_ext HH5.out hbA))
       try (have HWk := Lib.hid (HWk.out.ext hbA))
       clear hwA hKA hbA hab4 hsb0
       refine hK.out _ _ ?_ (fun hHeld => ?_)
       · (first | exact ⟨(HS.out.cell 0).trans rfl, (HS.out.cell 1).trans rfl⟩ | go_keep)
       clear hK K
       try simp only [Act.put, List.setIfInBounds_toArray, List.set_cons_zero, List.set_cons_succ]
       refine wpAnyH_ready (rs := [7]) (by kernel_rfl) (by simp) ?_
       refine AllReadyH.cons (o := ⟨some 39, .call { callee := .value (.func 63), args := #[.tmp 38], argTypes := #[26] }, 33, "sched.go:176", #[⟨6, .data⟩], none⟩) rfl (fun K hK => ?_) ?_
       ·
         go_simp
         go_at_call 63
         refine (HHd.out _ (by first | exact HIc.out | exact HIc.out.ext (below_drewN (Below.refl _ _) 1))).mono ?_
         rintro e w5 ⟨A3, c3, l3, rfl, h1, h2, hown, hb⟩
         obtain rfl := sortB_eq h1 h2
         try (have hb := ext_trans (below_drewN (Below.refl w4.heap.size w4) 1) hb)
         have HIc := Lib.hid (HIc.out.ext hb)
         have HBc := Lib.hid (ext_trans HBc.out hb)
         have HS := Lib.hid (HS.out.ext hb)
         have HVc := Lib.hid (own_ext HVc.out hb)
         try (have HKA := Lib.hid (HKA.out.ext hb))
         have HH5 := Lib.hid hown
         clear h1 h2 hown hb
         refine hK.out _ _ ?_ (fun hHeld => ?_)
         · (first | exact ⟨(HS.out.cell 0).trans rfl, (HS.out.cell 1).trans rfl⟩ | go_keep)
         clear hK K
         try simp only [Act.put, List.setIfInBounds_toArray, List.set_cons_zero, List.set_cons_succ]
         refine wpAnyH_ready (rs := [8]) (by kernel_rfl) (by simp) ?_
         refine AllReadyH.cons (o := ⟨some 40, .call { callee := .value (.func 62), args := #[.tmp 35, .tmp 36, .tmp 37, .tmp 39], argTypes := #[24, 33, 3, 33] }, 121, "sched.go:176", #[⟨3, .data⟩, ⟨4, .data⟩, ⟨5, .data⟩, ⟨7, .data⟩, ⟨7, .chain⟩], none⟩) rfl (fun K hK => ?_) ?_
         ·
           go_simp
           go_at_call 62
           have e1 := HAo.out.ext (ext_trans HB.out HBc.out)
           have e2 := RdS.of_own HVc.out (fun k hk => (HVc.out.lt k hk).2)
           have e3 := RdS.of_own HH5.out (fun k hk => (HH5.out.lt k hk).2)
           have e4 := walk_u B p A c mark (sortB (s.holds.map (·.1))) want A5 A3 c5 c3 _ HCk.out e1 (by have h1 := HB0.out; have h2 := HB.out.size; have h3 := HBc.out.size; omega) e2 e3 HNd.out (by omega) (by have h1 := HHl.out; unfold heldL at h1; rw [h1]; exact hlen) HWt.out
           refine e4.mono ?_
           clear e1 e2 e3 e4
           rintro e w6 ⟨A61, n61, c61, A62, n62, c62, A63, n63, c63, dp6, ve6, rfl, hwk, hb⟩
           have HWk := Lib.hid (hwk.mono (show w4.heap.size ≤ _ from HBc.out.size))
           have HIc := Lib.hid (HIc.out.ext hb)
           have HBc := Lib.hid (ext_trans HBc.out hb)
           have HS := Lib.hid (HS.out.ext hb)
           have HVc := Lib.hid (own_ext HVc.out hb)
           try (have HKA := Lib.hid (HKA.out.ext hb))
           clear hwk hb
           refine hK.out _ _ ?_ (fun hHeld => ?_)
           · (first | exact ⟨(HS.out.cell 0).trans rfl, (HS.out.cell 1).trans rfl⟩ | go_keep)
           clear hK K
           try simp only [Act.put, List.setIfInBounds_toArray, List.set_cons_zero, List.set_cons_succ]
           refine wpAnyH_take (i := 9) (oi := ⟨some 31, .move (.tmp 40), 121, "sched.go:176", #[⟨8, .data⟩], none⟩) (v := ?v1z9x2) rfl (by kernel_rfl) (by kernel_rfl) (by kernel_rfl) (fun _ _ _ h => h) (Or.inl ⟨by rfl, ?hy1z9x2⟩) (by assumption) ?rest1z9x2
           case hy1z9x2 => (intro w hSw; (try dsimp only at hSw); go_simp; try (with_reducible rfl))
           simp only [Act.put, List.setIfInBounds_toArray, List.set_cons_zero, List.set_cons_succ]
           refine wpAnyH_take (i := 10) (oi := ⟨some 41, .extract (.tmp 31) 0, 120, "sched.go:176", #[⟨9, .data⟩], none⟩) (v := ?v1z10x2) rfl (by kernel_rfl) (by kernel_rfl) (by kernel_rfl) (fun _ _ _ h => h) (Or.inl ⟨by rfl, ?hy1z10x2⟩) (by assumption) ?rest1z10x2
           case hy1z10x2 => (intro w hSw; (try dsimp only at hSw); go_simp; try (with_reducible rfl))
           simp only [Act.put, List.setIfInBounds_toArray, List.set_cons_zero, List.set_cons_succ]
           refine wpAnyH_take (i := 11) (oi := ⟨some 42, .extract (.tmp 31) 1, 28, "sched.go:176", #[⟨9, .data⟩, ⟨13, .gcOnly .lateStores⟩], none⟩) (v := ?v1z11x2) rfl (by kernel_rfl) (by kernel_rfl) (by kernel_rfl) (fun _ _ _ h => h) (Or.inl ⟨by rfl, ?hy1z11x2⟩) (by assumption) ?rest1z11x2
           case hy1z11x2 => (intro w hSw; (try dsimp only at hSw); go_simp; try (with_reducible rfl))
           simp only [Act.put, List.setIfInBounds_toArray, List.set_cons_zero, List.set_cons_succ]
           refine wpAnyH_ready (rs := [13]) (by kernel_rfl) (by simp) ?_
           refine AllReadyH.cons (o := ⟨none, .store 120 (.tmp 11) (.tmp 41), 0, "sched.go:176", #[⟨12, .data⟩, ⟨10, .data⟩, ⟨8, .chain⟩, ⟨0, .phase⟩, ⟨1, .phase⟩, ⟨2, .phase⟩, ⟨3, .phase⟩, ⟨4, .phase⟩, ⟨5, .phase⟩, ⟨6, .phase⟩, ⟨7, .phase⟩, ⟨8, .phase⟩, ⟨9, .phase⟩, ⟨10, .phase⟩, ⟨11, .textOnly .lateStores⟩, ⟨12, .phase⟩], none⟩) rfl (fun K hK => ?_) ?_
           ·
             refine step_storeAt rfl 120 (.tmp 11) (.tmp 41) rfl _ _ (by rfl) (by rfl) (run_store_way HKA.out _ _ _ _ _ _ _ _ _ _) ?_
             have HS := Lib.hid (far_way HS.out HNe.out (.slice A61 n61 c61) (.slice A62 n62 c62) (.slice A63 n63 c63) (.int .i64 dp6))
             refine hK.out _ _ ?_ (fun hHeld => ?_)
             · (first | exact ⟨(HS.out.cell 0).trans rfl, (HS.out.cell 1).trans rfl⟩ | go_keep)
             clear hK K
             try simp only [Act.put]
             refine wpAnyH_take (i := 14) (oi := ⟨some 12, .assign (.tmp 42), 28, "sched.go:176", #[⟨11, .data⟩, ⟨13, .chain⟩, ⟨0, .phase⟩, ⟨1, .phase⟩, ⟨2, .phase⟩, ⟨3, .phase⟩, ⟨4, .phase⟩, ⟨5, .phase⟩, ⟨6, .phase⟩, ⟨7, .phase⟩, ⟨8, .phase⟩, ⟨9, .phase⟩, ⟨10, .phase⟩, ⟨11, .phase⟩, ⟨12, .phase⟩, ⟨13, .phase⟩], none⟩) (v := ?v1z14x2) rfl (by kernel_rfl) (by kernel_rfl) (by kernel_rfl) (fun _ _ _ h => h) (Or.inl ⟨by rfl, ?hy1z14x2⟩) (by assumption) ?rest1z14x2
             case hy1z14x2 => (intro w hSw; (try dsimp only at hSw); go_simp; try (with_reducible rfl))
             simp only [Act.put, List.setIfInBounds_toArray, List.set_cons_zero, List.set_cons_succ]
             refine wpAnyH_done (by kernel_rfl) ?_ _
             go_wp2_with fail
             go_meet
             exact ⟨ab, A62, n62, c62, A63, n63, c63, rfl, Lib.hid ⟨(at_way HKA.out _ _ _ _).1, (at_way2 HKA.out _ _ _ _).1, (at_way HKA.out _ _ _ _).2, HAb.out⟩, Lib.hid (HWk.out.way HKA.out _ _ _ _), Lib.hid (below_way HBc.out HAb.out _ _ _ _)⟩
           exact AllReadyH.nil
         exact AllReadyH.nil
       exact AllReadyH.nil
     exact AllReadyH.nil
     --@R8AEND
    case rest =>
     obtain ⟨ab, A2, n2, c2, A3, n3, c3, rfl, HK0, HW0, HB6⟩ := hcut
     cases u with
     | true =>
       obtain ⟨wd, hwd⟩ : ∃ wd, wd = walkD p mark (sortB (s.holds.map (·.1))) want := ⟨_, rfl⟩
       obtain ⟨hv0, hn2, hn3, ho2, ho3⟩ := HW0.out.1 HU.out.symm
       rw [← hwd] at hn2 hn3 ho2 ho3
       obtain rfl := hv0
       subst hn2 hn3
       have HK := Lib.hid (show wc.cell? ⟨ab, 1, none⟩ = some (.slice A2 wd.ready.length c2) ∧ ab < wc.heap.size from ⟨HK0.out.1, HK0.out.2.2.1⟩)
       have HR := Lib.hid ho2
       clear ho2 ho3 HK0 HW0
       obtain ⟨w7, rfl⟩ : ∃ w7 : World, w7 = wc := ⟨_, rfl⟩
       have HJ2 := Lib.hid (show jobsL p s batches mark = g ++ (wd.ready.filter fun x => decide (x ∉ want)).map fun x => ⟨x, false⟩ from by rw [HJ.out, if_pos rfl, hwd]; rfl)
       have hrl : wd.ready.length ≤ 816 := by
        rw [hwd]
        exact ((walkD_ok (held := sortB (s.holds.map (·.1))) HP.out (fun x hx => begin_can (beginsB_yes HU.out.symm x hx) (HWt.out x hx)) want rfl).lens HP.out).2.1
       obtain ⟨rd, hrd⟩ : ∃ rd, rd = wd.ready := ⟨_, rfl⟩
       rw [← hrd] at HK HR HJ2 hrl
       have k1 := HK.out.1
       have kl := HK.out.2
       have HV7 := Lib.hid (own_ext HV.out HB6.out)
       have HO7 := Lib.hid (own_ext HO.out HB6.out)
       have HB7 := Lib.hid (ext_trans HB.out HB6.out)
       have hz4 := HB.out.size
       clear hwd hrd z0 z1
       go_wp2_with fail
       go_loopg [7, 14, 49] rd.length (fun gk v7 v14 v49 wr => ∃ i : Nat, i + gk = rd.length ∧ v49 = .int .i64 (i : Nat) ∧ Hid (wr.ownsRow w.heap.size 46 4 v7 (g ++ ((rd.take i).filter fun x => decide (x ∉ want)).map fun x => (⟨x, false⟩ : Jb)).length ((g ++ ((rd.take i).filter fun x => decide (x ∉ want)).map fun x => (⟨x, false⟩ : Jb)).flatMap jbC)) ∧ Hid (wr.ownsRow w4.heap.size 35 3 (.slice A2 rd.length c2) rd.length (idsC rd)) ∧ Hid (wr.ownsRow w.heap.size 35 3 (.slice A5 want.length c5) want.length (idsC want)) ∧ Hid (Below w.heap.size w wr))
       case atStart => exact ⟨0, by omega, rfl, Lib.hid (by rw [List.take_zero, List.filter_nil, List.map_nil, List.append_nil]; exact HO7.out), HR, HV7, HB7⟩
       case round =>
        obtain ⟨i, hik, rfl, HJl, HRd, HWl, HBr⟩ := hrel
        obtain ⟨A9, c9, rfl, hc9⟩ := own_shape HJl.out
        by_cases hi : i < rd.length
        · have hy : rd[i]? = some (rd[i]) := List.getElem?_eq_getElem hi
          generalize rd[i] = x at hy
          obtain ⟨ad, rfl, d0, d1, d2⟩ := (Rd.of_own (B := 0) HRd.out).ids hy hi
          have hll : (g ++ ((rd.take i).filter fun x => decide (x ∉ want)).map fun x => (⟨x, false⟩ : Jb)).length ≤ 1000 := by
           rw [List.length_append, List.length_map]
           have h1 := List.length_filter_le (fun x => decide (x ∉ want)) (rd.take i)
           rw [List.length_take] at h1
           omega
          have HFi := Lib.hid (show (rd.take (i + 1)).filter (fun x => decide (x ∉ want)) = (rd.take i).filter (fun x => decide (x ∉ want)) ++ (if x ∈ want then [] else [x]) from by
           rw [take_succ_of hy, List.filter_append]
           congr 1
           simp only [List.filter_cons, List.filter_nil]
           by_cases h : x ∈ want
           · rw [if_pos h, if_neg (by simpa using h)]
           · rw [if_neg h, if_pos (by simpa using h)])
          obtain ⟨WY, hWY⟩ : ∃ WY, WY = wr.alloc (.cells #[.int .i64 x.b, .int .i64 x.s, .int .i64 x.p] 35 (0, 0)) := ⟨_, rfl⟩
          have HBY := Lib.hid (show Below wr.heap.size wr WY from by rw [hWY]; exact ext_alloc (Below.refl _ _) _)
          have HXY := Lib.hid (show Bk WY wr.heap.size 35 #[.int .i64 x.b, .int .i64 x.s, .int .i64 x.p] from by rw [hWY]; exact Bk.new _ _ _)
          have HWY := Lib.hid hWY
          have y0 : WY.cell? ⟨wr.heap.size, 0, none⟩ = some (.int .i64 x.b) := (HXY.out.cell 0).trans rfl
          have y1 : WY.cell? ⟨wr.heap.size, 1, none⟩ = some (.int .i64 x.s) := (HXY.out.cell 1).trans rfl
          have y2 : WY.cell? ⟨wr.heap.size, 2, none⟩ = some (.int .i64 x.p) := (HXY.out.cell 2).trans rfl
          have yl := HXY.out.lt
          have HCo := Lib.hid (contains_c 0 want A5 c5 x WY (Rd.of_own (own_ext HWl.out HBY.out)) (by omega))
          obtain ⟨l, hl⟩ : ∃ l, l = g ++ ((rd.take i).filter fun x => decide (x ∉ want)).map fun x => (⟨x, false⟩ : Jb) := ⟨_, rfl⟩
          rw [← hl] at HJl hll hc9 ⊢
          clear hWY hy
          by_cases hin : x ∈ want
          · have HSu := Lib.hid (show g ++ ((rd.take (i + 1)).filter fun x => decide (x ∉ want)).map (fun x => (⟨x, false⟩ : Jb)) = l from by rw [HFi.out, if_pos hin, List.append_nil, hl])
            rw [decide_eq_true hin] at HCo
            clear hin hl
            go_upto_region 14 with fail
            rw [← HWY.out]
            go_wp2_with (first
             | (go_at_call 64; refine HCo.out.mono ?_; rintro e w8 ⟨rfl, hb⟩
                have HB8 := Lib.hid (ext_trans HBY.out hb)
                clear hb y0 y1 y2 yl))
            go_roundg (gk - 1)
            case measure => omega
            case rel => exact ⟨i + 1, by omega, by go_num, by rw [HSu.out]; exact Lib.hid (own_ext HJl.out HB8.out), Lib.hid (own_ext HRd.out HB8.out), Lib.hid (own_ext HWl.out HB8.out), Lib.hid (ext_trans HBr.out HB8.out)⟩
          · have HSu := Lib.hid (show g ++ ((rd.take (i + 1)).filter fun x => decide (x ∉ want)).map (fun x => (⟨x, false⟩ : Jb)) = l ++ [⟨x, false⟩] from by rw [HFi.out, if_neg hin, List.map_append, hl, List.append_assoc]; rfl)
            rw [decide_eq_false hin] at HCo
            clear hin hl
            go_upto_region 14 with fail
            rw [← HWY.out]
            go_upto_region 15 with (first
             | (go_at_call 64; refine HCo.out.mono ?_; rintro e w8 ⟨rfl, hb⟩
                have HB8 := Lib.hid (ext_trans HBY.out hb)
                have HX8 := Lib.hid (HXY.out.ext hb)
                clear hb y0 y1 y2 yl))
            have y0 : w8.cell? ⟨wr.heap.size, 0, none⟩ = some (.int .i64 x.b) := (HX8.out.cell 0).trans rfl
            have y1 : w8.cell? ⟨wr.heap.size, 1, none⟩ = some (.int .i64 x.s) := (HX8.out.cell 1).trans rfl
            have y2 : w8.cell? ⟨wr.heap.size, 2, none⟩ = some (.int .i64 x.p) := (HX8.out.cell 2).trans rfl
            have yl := HX8.out.lt
            have HE1 := Lib.hid (ext_alloc (Below.refl w8.heap.size w8) (.cells #[.int .i64 x.b, .int .i64 x.s, .int .i64 x.p, .bool false] 46 (0, 0)))
            have HE2 := Lib.hid (ext_trans HB8.out HE1.out)
            have HO4 := Lib.hid (own_ext HJl.out HE2.out)
            have HN4 := Lib.hid (Bk.new w8 46 #[.int .i64 x.b, .int .i64 x.s, .int .i64 x.p, .bool false])
            go_wp2_with (first
             | (at_builtin; refine wpList_appE job_app _ rfl (.tmp 57) (.tmp 60) rfl w.heap.size _ l (by rfl) HO4.out (⟨x, false⟩ : Jb) (w8.heap.size) (by rfl) HN4.out (by omega) (by have h1 := HBr.out.size; have h2 := HE2.out.size; omega) ?_
                intro A7 c7 w9 hown7 hg7 hc7
                have HO9 := Lib.hid hown7
                have HG9 := Lib.hid hg7
                clear hown7 hg7))
            go_roundg (gk - 1)
            case measure => omega
            case rel =>
             refine ⟨i + 1, by omega, by go_num, Lib.hid ?_, Lib.hid ((own_ext HRd.out HE2.out).kept HG9.out (own_ne_own (own_ext HRd.out HE2.out) HO4.out (by decide))), Lib.hid ((own_ext HWl.out HE2.out).kept HG9.out (own_ne_own (own_ext HWl.out HE2.out) HO4.out (by decide))), Lib.hid (below_grownOwn (ext_trans HBr.out HE2.out) HO4.out (Nat.le_refl _) HG9.out)⟩
             rw [HSu.out]
             have h := HO9.out
             simp only [List.length_append, List.length_cons, List.length_nil, Nat.zero_add] at h ⊢
             exact h
        · have hil : i = rd.length := by omega
          subst hil
          rw [List.take_length] at HJl
          rw [List.take_length]
          rw [← HJ2.out] at HJl
          rw [← HJ2.out]
          go_wp2_with fail
          go_ret
          exact ⟨A9, c9, rfl, HJl.out, HBr.out⟩
     | false =>
       obtain ⟨T, y, rfl⟩ := HW0.out.2 HU.out.symm
       obtain ⟨w7, rfl⟩ : ∃ w7 : World, w7 = wc := ⟨_, rfl⟩
       have HJ2 := Lib.hid (show jobsL p s batches mark = g from by rw [HJ.out, if_neg (by simp)])
       go_wp2_with fail
       go_ret
       rw [HJ2.out]
       exact ⟨A1, c1, rfl, own_ext HO.out HB6.out, ext_trans HB.out HB6.out⟩
end
end Go.Proofs.YtapjhliglmohgaaGreatDoor
/- Who holds what: holder of the program. -/
namespace Go.Proofs.YtapjhliglmohgaaGreatDoor
open Go.RowKit Go.Sort
def hdV (h : Hd) : Value := .agg #[.int .i64 h.id.b, .int .i64 h.id.s, .int .i64 h.id.p, .int .i64 h.w]
def holderR (l : List (Id3 × List Int)) (x : Id3) : Hd × Bool := match (onesL (holdOf l x) 4).head? with
 | some n => (⟨x, n⟩, true)
 | none => (⟨⟨0, 0, 0⟩, 0⟩, false)
def HolderPost (w : World) (r : Hd × Bool) (e : Ending) (w' : World) : Prop := e = .returned (.tuple #[hdV r.1, .bool r.2]) ∧ Below w.heap.size w w'
theorem results_cell_tmp {P : Program} {fn : Func} {p u : Tmp} {ty : TypeId} (h : fn.results = #[.cell p ty, .tmp u]) (tmps : Array Value) (w : World) (g : Nat) (t : TypeId) (cs : Array Value) (fr : Nat × Nat) (d : TypeDesc)
 (hp : tmps.getD p undef = .pointer (some ⟨g, 0, none⟩)) (hg : w.heap[g]? = some (.cells cs t fr))
 (hu : P.underlying ty = some d) (hd : (match d with | .struct _ | .array _ _ => true | _ => false) = true) (hi : (P.info? ty).map (·.size) = some cs.size) :
 (results fn tmps).run P w = .ok (.tuple #[.agg cs, tmps.getD u undef]) w := by
 have hp' : tmps[p]?.getD undef = .pointer (some ⟨g, 0, none⟩) := by simpa using hp
 simp [results, h, hp', asAddr, run_loadVar_row w g t ty cs fr d hg hu hd hi]
theorem results_cell_only {P : Program} {fn : Func} {p : Tmp} {ty : TypeId} (h : fn.results = #[.cell p ty]) (tmps : Array Value) (w : World) (g : Nat) (t : TypeId) (cs : Array Value) (fr : Nat × Nat) (d : TypeDesc)
 (hp : tmps.getD p undef = .pointer (some ⟨g, 0, none⟩)) (hg : w.heap[g]? = some (.cells cs t fr))
 (hu : P.underlying ty = some d) (hd : (match d with | .struct _ | .array _ _ => true | _ => false) = true) (hi : (P.info? ty).map (·.size) = some cs.size) :
 (results fn tmps).run P w = .ok (.agg cs) w := by
 have hp' : tmps[p]?.getD undef = .pointer (some ⟨g, 0, none⟩) := by simpa using hp
 simp [results, h, hp', asAddr, run_loadVar_row w g t ty cs fr d hg hu hd hi]
theorem onesL_mono (ws : List Int) (k j : Nat) : ∃ t, onesL ws (k + j) = onesL ws k ++ t := by
 induction j with
 | zero => exact ⟨[], by simp⟩
 | succ j ih =>
   obtain ⟨t, ht⟩ := ih
   exact ⟨t ++ (if ((k + j + 1 : Nat) : Int) ∈ ws then [((k + j + 1 : Nat) : Int)] else []), by rw [show k + (j + 1) = k + j + 1 by omega, onesL_succ, ht, List.append_assoc]⟩
theorem holderR_at {l : List (Id3 × List Int)} {x : Id3} {k : Nat} (hk : k < 4) (h0 : onesL (holdOf l x) k = []) (hin : ((k + 1 : Nat) : Int) ∈ holdOf l x) : holderR l x = (⟨x, ((k + 1 : Nat) : Int)⟩, true) := by
 obtain ⟨t, ht⟩ := onesL_mono (holdOf l x) (k + 1) (3 - k)
 rw [show k + 1 + (3 - k) = 4 by omega, onesL_succ (holdOf l x) k, h0, if_pos hin] at ht
 unfold holderR
 rw [ht]
 rfl
theorem holderR_no {l : List (Id3 × List Int)} {x : Id3} (h0 : onesL (holdOf l x) 4 = []) : holderR l x = (⟨⟨0, 0, 0⟩, 0⟩, false) := by
 unfold holderR
 rw [h0]
 rfl
section
variable {B sb : Nat} {R : Nat → Prop} {p : PlanD} {A : Option Addr} {c : Nat} {s : SchedD}
set_option maxRecDepth 100000 in
set_option maxHeartbeats 16000000 in
theorem holder_c (x : Id3) (w : World) (h : SchedIs B sb R p A c s w) :
 Calls Tryz.prog 111 #[.pointer (some ⟨sb, 0, none⟩), idV x] w (HolderPost w (holderR s.holds x)) := by
 obtain ⟨X, h⟩ := h
 obtain ⟨W, hW⟩ : ∃ W, W = (w.alloc (.cells #[.int .i64 x.b, .int .i64 x.s, .int .i64 x.p] 35 (0, 0))).alloc (.cells #[.int .i64 0, .int .i64 0, .int .i64 0, .int .i64 0] 57 (0, 0)) := ⟨_, rfl⟩
 have HBW := Lib.hid (show Below w.heap.size w W from by rw [hW]; exact ext_alloc (ext_alloc (Below.refl _ _) _) _)
 have HXW := Lib.hid (show Bk W w.heap.size 35 #[.int .i64 x.b, .int .i64 x.s, .int .i64 x.p] from by rw [hW]; exact (Bk.new _ _ _).alloc _)
 have HRW := Lib.hid (show Bk W (w.heap.size + 1) 57 #[.int .i64 0, .int .i64 0, .int .i64 0, .int .i64 0] from by rw [hW]; exact Bk.newAt (by simp))
 have H := Lib.hid (h.ext HBW.out)
 have HWW := Lib.hid hW
 clear h hW
 have HBwW := Lib.hid HBW.out.size
 have HFin := Lib.hid (show ∀ (w1 : World) (u0 u1 u2 u3 : Value), Below W.heap.size W w1 → Below w.heap.size w ((((w1.setCell ⟨w.heap.size + 1, 0, none⟩ u0).setCell ⟨w.heap.size + 1, 1, none⟩ u1).setCell ⟨w.heap.size + 1, 2, none⟩ u2).setCell ⟨w.heap.size + 1, 3, none⟩ u3) from by
  have hfin : ∀ (w1 : World) (u0 u1 u2 u3 : Value), Below W.heap.size W w1 → Below w.heap.size w ((((w1.setCell ⟨w.heap.size + 1, 0, none⟩ u0).setCell ⟨w.heap.size + 1, 1, none⟩ u1).setCell ⟨w.heap.size + 1, 2, none⟩ u2).setCell ⟨w.heap.size + 1, 3, none⟩ u3) := fun w1 u0 u1 u2 u3 hb => (HBW.out.trans (hb.mono HBW.out.size)).trans ((((((Fr.refl (S := fun k => k = w.heap.size + 1) (w := w1)).set_ (p := ⟨w.heap.size + 1, 0, none⟩) (.inl rfl) u0).set_ (p := ⟨w.heap.size + 1, 1, none⟩) (.inl rfl) u1).set_ (p := ⟨w.heap.size + 1, 2, none⟩) (.inl rfl) u2).set_ (p := ⟨w.heap.size + 1, 3, none⟩) (.inl rfl) u3).below (B := w.heap.size) (fun k hk => by have h1 : k = w.heap.size + 1 := hk; omega) (Nat.le_trans HBW.out.size hb.size))
  exact hfin)
 go_enter Tryz.func111, Tryz.ntmps111
 go_upto_region 1 with fail
 rw [← HWW.out]
 go_wp2_with fail
 go_loopg [5, 6] 4 (fun gk v5 v6 wr => ∃ k : Nat, k + gk = 4 ∧ v6 = .int .i64 ((k + 1 : Nat) : Int) ∧ v5 = .bool false ∧ Hid (onesL (holdOf s.holds x) k = []) ∧ Hid (Below W.heap.size W wr))
 case atStart => exact ⟨0, by omega, rfl, rfl, Lib.hid rfl, Lib.hid (Below.refl _ _)⟩
 case round =>
  obtain ⟨k, hkk, rfl, rfl, H0, HQ⟩ := hrel
  have HBr := HQ
  have HS2 := Lib.hid (H.out.ext HBr.out)
  have HX2 := Lib.hid (HXW.out.ext HBr.out)
  have HR2 := Lib.hid (HRW.out.ext HBr.out)
  have r0 : wr.cell? ⟨w.heap.size + 1, 0, none⟩ = some (.int .i64 0) := (HR2.out.cell 0).trans rfl
  have r1 : wr.cell? ⟨w.heap.size + 1, 1, none⟩ = some (.int .i64 0) := (HR2.out.cell 1).trans rfl
  have r2 : wr.cell? ⟨w.heap.size + 1, 2, none⟩ = some (.int .i64 0) := (HR2.out.cell 2).trans rfl
  have r3 : wr.cell? ⟨w.heap.size + 1, 3, none⟩ = some (.int .i64 0) := (HR2.out.cell 3).trans rfl
  have g0 := HR2.out.frozen 0
  have g1 := HR2.out.frozen 1
  have g2 := HR2.out.frozen 2
  have g3 := HR2.out.frozen 3
  have rl := HR2.out.lt
  by_cases hk : k < 4
  · have hk4 : ((k + 1 : Nat) : Int) ≤ 4 := by omega
    have HAt := Lib.hid (fun h => holderR_at (l := s.holds) (x := x) hk H0.out h)
    have HSu := Lib.hid (onesL_succ (holdOf s.holds x) k)
    have x0 : wr.cell? ⟨w.heap.size, 0, none⟩ = some (.int .i64 x.b) := (HX2.out.cell 0).trans rfl
    have x1 : wr.cell? ⟨w.heap.size, 1, none⟩ = some (.int .i64 x.s) := (HX2.out.cell 1).trans rfl
    have x2 : wr.cell? ⟨w.heap.size, 2, none⟩ = some (.int .i64 x.p) := (HX2.out.cell 2).trans rfl
    have z5 : wr.cell? ⟨sb, 5, none⟩ = some (.map (some X.hb)) := (HS2.out.bk.cell 5).trans rfl
    have xl := HX2.out.lt
    have sl := HS2.out.bk.lt
    obtain ⟨kk, hkk1⟩ : ∃ kk : Int, kk = ((k + 1 : Nat) : Int) := ⟨_, rfl⟩
    rw [← hkk1] at hk4 HSu HAt ⊢
    have hk0 : 0 ≤ kk := by omega
    have HKK := Lib.hid hkk1
    have hlk := fun m => (HS2.out.hold.drewN m).lookup idKey (t := 109) (e := 116) (by kernel_rfl) (zero_ii _) x
    clear hkk1
    by_cases hx : x ∈ X.hm.map (·.1)
    · obtain ⟨y, hy, hyx⟩ := List.mem_map.1 hx
      have HOf := Lib.hid (show holdOf s.holds x = y.2.2 from by rw [← hyx]; exact H.out.holdOf_y hy)
      have HG := Lib.hid (show mget (X.hm.map fun y => (y.1, (.map (some y.2.1) : Value))) x = some (.map (some y.2.1)) from by rw [← hyx]; exact mget_hm_some H.out.keys hy)
      simp only [HG.out, Option.getD_some, idV] at hlk
      have hlk2 := fun m => ((HS2.out.inn y hy).drewN m).lookup intKey (t := 116) (e := 3) (by kernel_rfl) (zero_intH _) kk
      rw [HOf.out] at HSu HAt
      clear hy hyx hx
      by_cases hin : kk ∈ y.2.2
      · simp only [mget_onesI, if_pos hin, Option.getD_some, inV] at hlk2
        have HRs := Lib.hid (HAt.out hin)
        clear hin
        go_wp2_with fail
        go_quiet (fail)
        go_wp2_with fail
        have HF := Lib.hid ((((((HR2.out.drewN nq).set_ 0 (.int .i64 x.b)).set_ 1 (.int .i64 x.s)).set_ 2 (.int .i64 x.p)).set_ 3 (.int .i64 kk)) : Bk _ (w.heap.size + 1) 57 #[.int .i64 x.b, .int .i64 x.s, .int .i64 x.p, .int .i64 kk])
        refine bodyPost_ret (results_cell_tmp (g := w.heap.size + 1) (t := 57) (cs := #[.int .i64 x.b, .int .i64 x.s, .int .i64 x.p, .int .i64 kk]) (fr := (0, 0)) rfl _ _ _ rfl HF.out Tryz.underlying57 rfl (by kernel_rfl)) rfl ?_
        rw [HRs.out]
        exact ⟨rfl, HFin.out _ _ _ _ _ (below_drewN HBr.out _)⟩
      · simp only [mget_onesI, if_neg hin, Option.getD_none, inV] at hlk2
        rw [if_neg hin, List.append_nil] at HSu
        clear hin
        go_wp2_with fail
        go_quiet (fail)
        go_wp2_with fail
        have HKi := Lib.hid (show kk + 1 = ((k + 1 + 1 : Nat) : Int) from by have := HKK.out; omega)
        go_roundg (gk - 1)
        case measure => omega
        case rel => exact ⟨k + 1, by omega, by rw [← HKi.out], rfl, Lib.hid (by rw [HOf.out, HSu.out, ← HOf.out]; exact H0.out), Lib.hid (below_drewN HBr.out _)⟩
    · have HOf := Lib.hid (show holdOf s.holds x = [] from holdOf_out (by rw [H.out.hl, List.map_map]; exact hx))
      have HG := Lib.hid (mget_hm_none hx)
      simp only [HG.out, Option.getD_none, idV] at hlk
      rw [HOf.out] at HSu
      clear hx
      have hlk0 : ∀ w : World, (Instr.lookup 116 (.map none) (.int .i64 kk) false).run Tryz.prog w = .ok (.int .i64 0) w := fun _ => by kernel_rfl
      go_wp2_with fail
      go_quiet (fail)
      go_wp2_with fail
      have HKi := Lib.hid (show kk + 1 = ((k + 1 + 1 : Nat) : Int) from by have := HKK.out; omega)
      go_roundg (gk - 1)
      case measure => omega
      case rel => exact ⟨k + 1, by omega, by rw [← HKi.out], rfl, Lib.hid (by have h0 := H0.out; rw [HOf.out] at h0 ⊢; rw [HSu.out, if_neg (by simp), List.append_nil]; exact h0), Lib.hid (below_drewN HBr.out _)⟩
  · have hk4 : k = 4 := by omega
    subst hk4
    have HRs := Lib.hid (holderR_no H0.out)
    go_wp2_with fail
    have HF := Lib.hid (((((HR2.out.set_ 0 (.int .i64 0)).set_ 1 (.int .i64 0)).set_ 2 (.int .i64 0)).set_ 3 (.int .i64 0)) : Bk _ (w.heap.size + 1) 57 #[.int .i64 0, .int .i64 0, .int .i64 0, .int .i64 0])
    refine bodyPost_ret (results_cell_tmp (g := w.heap.size + 1) (t := 57) (cs := #[.int .i64 0, .int .i64 0, .int .i64 0, .int .i64 0]) (fr := (0, 0)) rfl _ _ _ rfl HF.out Tryz.underlying57 rfl (by kernel_rfl)) rfl ?_
    rw [HRs.out]
    exact ⟨rfl, HFin.out _ _ _ _ _ HBr.out⟩
end
end Go.Proofs.YtapjhliglmohgaaGreatDoor
