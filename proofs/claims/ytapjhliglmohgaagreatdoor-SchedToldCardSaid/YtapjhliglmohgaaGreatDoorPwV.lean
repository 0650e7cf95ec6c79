/- OrdA: laid together. -/
import Derived.Test.YtapjhliglmohgaaGreatDoorPwU
import Derived.Laws.Tables
/- Who holds what: Order of the program. -/
namespace Go.Proofs.YtapjhliglmohgaaGreatDoor
open Go.RowKit Go.Sort
def ordStep (p : PlanD) (s : SchedD) (mark : Int) (l : List Hd) (x : Id3) : List Hd := if (holderR s.holds x).2 = true ∧ leafD p x mark = false ∧ l.length < 48 then l ++ [(holderR s.holds x).1] else l
def ordHs (p : PlanD) (s : SchedD) (mark : Int) (from_ : List Id3) : List Hd := from_.foldl (ordStep p s mark) []
/-- 16.5: the holds that an order names. -/
def ordL (p : PlanD) (s : SchedD) (mark : Int) (deep : Bool) (id : Id3) : List Hd := if beginD p mark id = 0 then ordHs p s mark (if deep then (walkD p mark (heldL s) [id]).used else needsX p id) else []
def omC (kind worker : Int) (id : Id3) (deep : Bool) (hv : Value) (mark : Int) : Array Value := #[.int .i64 kind, .int .i64 worker, .int .i64 id.b, .int .i64 id.s, .int .i64 id.p, .bool deep, hv, .int .i64 0, .int .i64 0, .int .i64 0, .int .i64 0, .int .i64 0, .slice none 0 0, .int .i64 mark]
def OrderPost (B sb : Nat) (R : Nat → Prop) (p : PlanD) (A : Option Addr) (c : Nat) (s : SchedD) (j : Jb) (worker : Int) (deep : Bool) (mark : Int) (w : World) (e : Ending) (w' : World) : Prop :=
 ∃ (Ah : Option Addr) (ch : Nat) (R' : Nat → Prop), e = .returned (.agg (omC (if j.sv then 6 else 1) worker j.id deep (.slice Ah (ordL p s mark deep j.id).length ch) mark)) ∧
  w'.ownsRow w.heap.size 57 4 (.slice Ah (ordL p s mark deep j.id).length ch) (ordL p s mark deep j.id).length ((ordL p s mark deep j.id).flatMap hdC) ∧
  SchedIs B sb R' p A c s w' ∧ Fr R w w' ∧ (∀ k, R' k → R k ∨ w.heap.size ≤ k) ∧ ∀ k, (Value.slice Ah (ordL p s mark deep j.id).length ch).ownBlock = some k → ¬ R' k
theorem fr_row (w : World) (g : Nat) (cs : Array Value) : Fr (fun k => k = g) w (w.setRow g cs) := ⟨rfl, rfl, rfl, by simp, fun k _ hn => setRow_other w g k cs hn⟩
theorem own_one {w : World} {base g : Nat} {x : Id3} (h : Bk w g 35 #[.int .i64 x.b, .int .i64 x.s, .int .i64 x.p]) (hb : base ≤ g) : w.ownsRow base 35 3 (.slice (some ⟨g, 0, none⟩) 1 1) 1 (idsC [x]) :=
 ⟨rfl, .inr ⟨g, 1, _, rfl, hb, h, by omega, by decide, rfl, rfl⟩⟩
/-- The order under way: the message's block bears the holds found. -/
def OInv (B sb : Nat) (R R8 : Nat → Prop) (p : PlanD) (A : Option Addr) (c : Nat) (s : SchedD) (X8 : SchX) (w : World) (kd worker : Int) (id : Id3) (deep : Bool) (mark : Int) (fv : Value) (fl : List Id3) (hl : List Hd) (wr : World) : Prop :=
 ∃ (Ah : Option Addr) (ch : Nat), Bk wr (w.heap.size + 1 + 1) 86 (omC kd worker id deep (.slice Ah hl.length ch) mark) ∧ wr.ownsRow w.heap.size 57 4 (.slice Ah hl.length ch) hl.length (hl.flatMap hdC) ∧ (∀ k, (Value.slice Ah hl.length ch).ownBlock = some k → ¬ R8 k) ∧
  wr.ownsRow w.heap.size 35 3 fv fl.length (idsC fl) ∧ SchedAt B sb R8 p A c X8 s wr ∧ Bk wr (w.heap.size + 1) 86 #[.int .i64 0, .int .i64 0, .int .i64 0, .int .i64 0, .int .i64 0, .bool false, .slice none 0 0, .int .i64 0, .int .i64 0, .int .i64 0, .int .i64 0, .int .i64 0, .slice none 0 0, .int .i64 0] ∧ Fr R w wr ∧ hl.length ≤ 48
theorem OInv.ext {B sb : Nat} {R R8 : Nat → Prop} {p : PlanD} {A : Option Addr} {c : Nat} {s : SchedD} {X8 : SchX} {w : World} {kd worker : Int} {id : Id3} {deep : Bool} {mark : Int} {fv : Value} {fl : List Id3} {hl : List Hd} {wr w2 : World} (h : OInv B sb R R8 p A c s X8 w kd worker id deep mark fv fl hl wr) (hb : Below wr.heap.size wr w2) : OInv B sb R R8 p A c s X8 w kd worker id deep mark fv fl hl w2 := by
 obtain ⟨Ah, ch, h1, h2, h3, h4, h5, h6, h7, h8⟩ := h
 exact ⟨Ah, ch, h1.ext hb, own_ext h2 hb, h3, own_ext h4 hb, h5.ext hb, h6.ext hb, h7.ext hb, h8⟩
section
variable {B sb : Nat} {R : Nat → Prop} {p : PlanD} {A : Option Addr} {c : Nat} {s : SchedD}
/-- The ways turn. -/
theorem SchedAt.waysT {X : SchX} {w w' : World} {Rw' : Nat → Prop} (h : SchedAt B sb R p A c X s w) (hW : WaysIs B X.wyb Rw' p A X.K c X.kc w') (hF : Fr X.Rw w w') (hR : ∀ k, Rw' k → X.Rw k ∨ w.heap.size ≤ k) :
 SchedAt B sb (fun k => R k ∨ Rw' k) p A c ⟨X.wyb, X.K, X.kc, Rw', X.sA, X.sc, X.hb, X.hm, X.vb⟩ s w' := by
 have hbd := h.bd
 have hoff : ∀ k, R k → ¬ X.Rw k → ¬ Rw' k := fun k hk hn hr => (hR k hr).elim hn (fun h1 => by have := (hbd k hk).2; omega)
 exact ⟨h.bk.fr hF h.rs.2, hW, own_fr h.st hF (fun k hk => (h.rt k hk).2), h.hold.fr hF (h.rb _ (.inl rfl)).2, h.hl, fun y hy => (h.inn y hy).fr hF (h.rb _ (.inr (.inr ⟨y, hy, rfl⟩))).2, h.nd, h.sv.fr hF (h.rb _ (.inr (.inl rfl))).2, h.hv, h.hi,
   ⟨.inl h.rs.1, hoff _ h.rs.1 h.rs.2⟩, fun k hk => ⟨.inl (h.rb k hk).1, hoff _ (h.rb k hk).1 (h.rb k hk).2⟩, fun k hk => .inr hk, fun k hk => ⟨.inl (h.rt k hk).1, hoff _ (h.rt k hk).1 (h.rt k hk).2⟩, fun k hk => hk.elim (fun hk => ⟨(hbd k hk).1, Nat.lt_of_lt_of_le (hbd k hk).2 hF.size⟩) (fun hk => hW.bd k hk), h.known, h.every, h.plan⟩
set_option maxRecDepth 100000 in
set_option maxHeartbeats 16000000 in
theorem order_c (hsort : SortH) (j : Jb) (worker mark : Int) (deep : Bool) (w : World) (h : SchedIs B sb R p A c s w) (hlen : s.holds.length ≤ 1000000) (htop : j.id.b ≤ 9223372036854775807) :
 Calls Tryz.prog 58 #[.pointer (some ⟨sb, 0, none⟩), .agg (jbC j).toArray, .int .i64 worker, .bool deep, .int .i64 mark] w (OrderPost B sb R p A c s j worker deep mark w) := by
 obtain ⟨⟨xb, xs, xp⟩, sv⟩ := j
 simp only [jbC]
 have HHd := Lib.hid (fun W hW => held_c (B := B) (sb := sb) (R := R) (p := p) (A := A) (c := c) (s := s) hsort W hW hlen)
 have HI := Lib.hid h
 obtain ⟨X, h⟩ := h
 have HX := Lib.hid h
 have hp := shaped_check h.plan
 have HCk := Lib.hid h.plan
 have HP := Lib.hid hp
 have hl := h.bk.lt
 have HHl := Lib.hid (heldL_len s)
 have HNd := Lib.hid (show (sortB (s.holds.map (·.1))).Nodup from (sortB_perm _).nodup_iff.2 (by have h1 := h.keys; rw [h.hl, List.map_map]; exact h1))
 have HB0 := Lib.hid (show B ≤ w.heap.size from by have := (h.bd _ h.rs.1); omega)
 have HAo := Lib.hid (show RdS w (· < B) 5 A p.ops.length (opsC p.ops) from by obtain ⟨mb, es, hy⟩ := h.ways; exact hy.ops)
 have HWt := Lib.hid (show ∀ x ∈ [(⟨xb, xs, xp⟩ : Id3)], x.b ≤ 9223372036854775807 from fun x hx => by rw [List.mem_singleton] at hx; rw [hx]; exact htop)
 clear hp h htop
 go_enter Tryz.func58, Tryz.ntmps58
 go_upto_region 2 with (first
  | (refine wpList_store_row rfl 86 (.tmp 11) (.tmp 24) rfl (w.heap.size + 1 + 1) (omC 1 worker ⟨xb, xs, xp⟩ deep (.slice none 0 0) mark) (by rfl) (by rfl) 86 _ (Bk.newAt (by simp)) (by kernel_rfl) rfl (by kernel_rfl) ?_; rw [World.setRow_alloc_new]; simp only [Act.put]))
 obtain ⟨W, hW⟩ : ∃ W, W = ((w.alloc (.cells #[.int .i64 xb, .int .i64 xs, .int .i64 xp, .bool sv] 46 (0, 0))).alloc (.cells #[.int .i64 0, .int .i64 0, .int .i64 0, .int .i64 0, .int .i64 0, .bool false, .slice none 0 0, .int .i64 0, .int .i64 0, .int .i64 0, .int .i64 0, .int .i64 0, .slice none 0 0, .int .i64 0] 86 (0, 0))).alloc (.cells #[.int .i64 1, .int .i64 worker, .int .i64 xb, .int .i64 xs, .int .i64 xp, .bool deep, .slice none 0 0, .int .i64 0, .int .i64 0, .int .i64 0, .int .i64 0, .int .i64 0, .slice none 0 0, .int .i64 mark] 86 (0, 0)) := ⟨_, rfl⟩
 rw [← hW]
 have HBW := Lib.hid (show Below w.heap.size w W from by rw [hW]; exact ext_alloc (ext_alloc (ext_alloc (Below.refl _ _) _) _) _)
 have HJb := Lib.hid (show Bk W w.heap.size 46 #[.int .i64 xb, .int .i64 xs, .int .i64 xp, .bool sv] from by rw [hW]; exact ((Bk.new _ _ _).alloc _).alloc _)
 have HRb := Lib.hid (show Bk W (w.heap.size + 1) 86 #[.int .i64 0, .int .i64 0, .int .i64 0, .int .i64 0, .int .i64 0, .bool false, .slice none 0 0, .int .i64 0, .int .i64 0, .int .i64 0, .int .i64 0, .int .i64 0, .slice none 0 0, .int .i64 0] from by rw [hW]; exact (Bk.newAt (by simp)).alloc _)
 have HMb := Lib.hid (show Bk W (w.heap.size + 1 + 1) 86 (omC 1 worker ⟨xb, xs, xp⟩ deep (.slice none 0 0) mark) from by rw [hW]; exact Bk.newAt (by simp))
 have j3 : W.cell? ⟨w.heap.size, 3, none⟩ = some (.bool sv) := (HJb.out.cell 3).trans rfl
 have m0 : W.cell? ⟨w.heap.size + 1 + 1, 0, none⟩ = some (.int .i64 1) := (HMb.out.cell 0).trans rfl
 have n0 := HMb.out.frozen 0
 have jl := HJb.out.lt
 have ml := HMb.out.lt
 clear hW
 obtain ⟨kd, hkd⟩ : ∃ kd : Int, kd = (if sv then (6 : Int) else 1) := ⟨_, rfl⟩
 have HKd := Lib.hid hkd
 clear hkd
 go_upto_if 26 with fail
 go_cut [27] (fun _ wx => Hid (Bk wx (w.heap.size + 1 + 1) 86 (omC kd worker ⟨xb, xs, xp⟩ deep (.slice none 0 0) mark)) ∧ Hid (Bk wx w.heap.size 46 #[.int .i64 xb, .int .i64 xs, .int .i64 xp, .bool sv]) ∧ Hid (Bk wx (w.heap.size + 1) 86 #[.int .i64 0, .int .i64 0, .int .i64 0, .int .i64 0, .int .i64 0, .bool false, .slice none 0 0, .int .i64 0, .int .i64 0, .int .i64 0, .int .i64 0, .int .i64 0, .slice none 0 0, .int .i64 0]) ∧ Hid (Below w.heap.size w wx))
 case first =>
  cases sv with
  | true =>
    obtain rfl : kd = 6 := HKd.out
    go_wp2_with fail
    go_meet
    exact ⟨Lib.hid (HMb.out.set_ 0 _), Lib.hid (HJb.out.far (p := ⟨w.heap.size + 1 + 1, 0, none⟩) (by simp only [ne_eq]; omega) _), Lib.hid (HRb.out.far (p := ⟨w.heap.size + 1 + 1, 0, none⟩) (by simp only [ne_eq]; omega) _), Lib.hid (HBW.out.setCell (by show w.heap.size ≤ w.heap.size + 1 + 1; omega) _)⟩
  | false =>
    obtain rfl : kd = 1 := HKd.out
    go_wp2_with fail
    go_meet
    exact ⟨HMb, HJb, HRb, HBW⟩
 case rest =>
  obtain ⟨HM4, HJ, HR4, HB⟩ := hcut
  obtain ⟨w4, rfl⟩ : ∃ w4 : World, w4 = wc := ⟨_, rfl⟩
  clear j3 m0 n0 jl ml
  have HX4 := Lib.hid (HX.out.ext HB.out)
  have HIc := Lib.hid (HI.out.ext HB.out)
  have HBc := Lib.hid (Below.refl w4.heap.size w4)
  have HS := Lib.hid (HX4.out.bk)
  have HJc := HJ
  have HJ4 := Lib.hid HJ.out.lt
  have z0 : w4.cell? ⟨sb, 0, none⟩ = some (.int .i64 p.parts) := (HX4.out.bk.cell 0).trans rfl
  have z1 : w4.cell? ⟨sb, 1, none⟩ = some (.slice A p.ops.length c) := (HX4.out.bk.cell 1).trans rfl
  have j0 : w4.cell? ⟨w.heap.size, 0, none⟩ = some (.int .i64 xb) := (HJ.out.cell 0).trans rfl
  have j1 : w4.cell? ⟨w.heap.size, 1, none⟩ = some (.int .i64 xs) := (HJ.out.cell 1).trans rfl
  have j2 : w4.cell? ⟨w.heap.size, 2, none⟩ = some (.int .i64 xp) := (HJ.out.cell 2).trans rfl
  have jl := HJ.out.lt
  have sl := HX4.out.bk.lt
  obtain ⟨u, hu⟩ : ∃ u, u = beginsB p mark [(⟨xb, xs, xp⟩ : Id3)] := ⟨_, rfl⟩
  have HU := Lib.hid hu
  clear hu
  go_upto_region 4 with fail
  go_cut [12, 13] (fun v12 v13 wx => ∃ (ab : Nat) (A2 : Option Addr) (n2 c2 : Nat) (A3 : Option Addr) (n3 c3 : Nat), v12 = .pointer (some ⟨ab, 0, none⟩) ∧ Hid (wx.cell? ⟨ab, 1, none⟩ = some (.slice A2 n2 c2) ∧ wx.cell? ⟨ab, 2, none⟩ = some (.slice A3 n3 c3) ∧ ab < wx.heap.size ∧ w4.heap.size ≤ ab) ∧ Hid (WayOk p mark (sortB (s.holds.map (·.1))) [(⟨xb, xs, xp⟩ : Id3)] w4.heap.size A2 n2 c2 A3 n3 c3 v13 wx) ∧ Hid (Below w4.heap.size w4 wx))
  case first =>
   --@R8A
   refine wp_region_held_drew (S := (fun w' => w'.cell? ⟨sb, 0, none⟩ = some (.int .i64 p.parts) ∧ w'.cell? ⟨sb, 1, none⟩ = some (.slice A p.ops.length c) ∧ w'.cell? ⟨w.heap.size, 0, none⟩ = some (.int .i64 xb) ∧ w'.cell? ⟨w.heap.size, 1, none⟩ = some (.int .i64 xs) ∧ w'.cell? ⟨w.heap.size, 2, none⟩ = some (.int .i64 xp))) (by kernel_rfl) ?_ (fun hHeld => ?_)
   · (first | exact ⟨(HS.out.cell 0).trans rfl, (HS.out.cell 1).trans rfl, (HJc.out.cell 0).trans rfl, (HJc.out.cell 1).trans rfl, (HJc.out.cell 2).trans rfl⟩ | go_keep)
   refine wpAnyH_take (i := 0) (oi := ⟨some 29, .move (.tmp 0), 26, "sched.go:194", #[], none⟩) (v := ?v1z0) rfl (by kernel_rfl) (by kernel_rfl) (by kernel_rfl) (fun _ _ _ h => h) (Or.inl ⟨by rfl, ?hy1z0⟩) (by assumption) ?rest1z0
   case hy1z0 => (intro w hSw; (try dsimp only at hSw); go_simp; try (with_reducible rfl))
   simp only [Act.put, List.setIfInBounds_toArray, List.set_cons_zero, List.set_cons_succ]
   refine wpAnyH_take (i := 1) (oi := ⟨some 30, .nilCheck (.tmp 29), 0, "sched.go:194", #[⟨0, .data⟩], none⟩) (v := ?v1z1) rfl (by kernel_rfl) (by kernel_rfl) (by kernel_rfl) (fun _ _ _ h => h) (Or.inl ⟨by rfl, ?hy1z1⟩) (by assumption) ?rest1z1
   case hy1z1 => (intro w hSw; (try dsimp only at hSw); go_simp; try (with_reducible rfl))
   simp only [Act.put, List.setIfInBounds_toArray, List.set_cons_zero, List.set_cons_succ]
   refine wpAnyH_take (i := 2) (oi := ⟨some 31, .fieldAddr 112 (.tmp 30) 0, 0, "sched.go:194", #[⟨1, .data⟩], none⟩) (v := ?v1z2) rfl (by kernel_rfl) (by kernel_rfl) (by kernel_rfl) (fun _ _ _ h => h) (Or.inl ⟨by rfl, ?hy1z2⟩) (by assumption) ?rest1z2
   case hy1z2 => (intro w hSw; (try dsimp only at hSw); go_simp; try (with_reducible rfl))
   simp only [Act.put, List.setIfInBounds_toArray, List.set_cons_zero, List.set_cons_succ]
   refine wpAnyH_take (i := 3) (oi := ⟨some 32, .load 24 (.tmp 31), 24, "sched.go:194", #[⟨2, .data⟩], none⟩) (v := ?v1z3) rfl (by kernel_rfl) (by kernel_rfl) (by kernel_rfl) (fun _ _ _ h => h) (Or.inl ⟨by rfl, ?hy1z3⟩) (by assumption) ?rest1z3
   case hy1z3 => (intro w hSw; (try dsimp only at hSw); go_simp; try (with_reducible rfl))
   simp only [Act.put, List.setIfInBounds_toArray, List.set_cons_zero, List.set_cons_succ]
   refine wpAnyH_take (i := 4) (oi := ⟨some 33, .fieldAddr 46 (.tmp 6) 0, 0, "sched.go:194", #[], none⟩) (v := ?v1z4) rfl (by kernel_rfl) (by kernel_rfl) (by kernel_rfl) (fun _ _ _ h => h) (Or.inl ⟨by rfl, ?hy1z4⟩) (by assumption) ?rest1z4
   case hy1z4 => (intro w hSw; (try dsimp only at hSw); go_simp; try (with_reducible rfl))
   simp only [Act.put, List.setIfInBounds_toArray, List.set_cons_zero, List.set_cons_succ]
   refine wpAnyH_take (i := 5) (oi := ⟨some 34, .load 35 (.tmp 33), 35, "sched.go:194", #[⟨4, .data⟩], none⟩) (v := ?v1z5) rfl (by kernel_rfl) (by kernel_rfl) (by kernel_rfl) (fun _ _ _ h => h) (Or.inl ⟨by rfl, ?hy1z5⟩) (by assumption) ?rest1z5
   case hy1z5 => (intro w hSw; (try dsimp only at hSw); go_simp; try (with_reducible rfl))
   simp only [Act.put, List.setIfInBounds_toArray, List.set_cons_zero, List.set_cons_succ]
   refine wpAnyH_take (i := 7) (oi := ⟨some 36, .move (.tmp 4), 3, "sched.go:194", #[], none⟩) (v := ?v1z7) rfl (by kernel_rfl) (by kernel_rfl) (by kernel_rfl) (fun _ _ _ h => h) (Or.inl ⟨by rfl, ?hy1z7⟩) (by assumption) ?rest1z7
   case hy1z7 => (intro w hSw; (try dsimp only at hSw); go_simp; try (with_reducible rfl))
   simp only [Act.put, List.setIfInBounds_toArray, List.set_cons_zero, List.set_cons_succ]
   refine wpAnyH_take (i := 8) (oi := ⟨some 37, .move (.tmp 0), 26, "sched.go:194", #[], none⟩) (v := ?v1z8) rfl (by kernel_rfl) (by kernel_rfl) (by kernel_rfl) (fun _ _ _ h => h) (Or.inl ⟨by rfl, ?hy1z8⟩) (by assumption) ?rest1z8
   case hy1z8 => (intro w hSw; (try dsimp only at hSw); go_simp; try (with_reducible rfl))
   simp only [Act.put, List.setIfInBounds_toArray, List.set_cons_zero, List.set_cons_succ]
   refine wpAnyH_ready (rs := [6, 9, 14]) (by kernel_rfl) (by simp) ?_
   refine AllReadyH.cons (o := ⟨some 35, .buildSlice 33 1 #[(0, .tmp 34)], 33, "sched.go:194", #[⟨5, .data⟩], none⟩) rfl (fun K hK => ?_) ?_
   ·
     go_simp
     first
       | (obtain ⟨gb, wS, hgb, hwS, hbA, hKS⟩ := id_al w5 xb xs xp; rw [hwS, ← hgb]; have HVc := Lib.hid (own_one (x := ⟨xb, xs, xp⟩) hKS (show w4.heap.size ≤ gb from (by rw [hgb]; exact HBc.out.size))); clear hgb)
       | (obtain ⟨gb, wS, hgb, hwS, hbA, hKS⟩ := id_al wA xb xs xp; rw [hwS, ← hgb]; have HVc := Lib.hid (own_one (x := ⟨xb, xs, xp⟩) hKS (show w4.heap.size ≤ gb from (by rw [hgb]; exact HBc.out.size))); clear hgb)
       | (obtain ⟨gb, wS, hgb, hwS, hbA, hKS⟩ := id_ald w4 xb xs xp; rw [hwS, ← hgb]; have HVc := Lib.hid (own_one (x := ⟨xb, xs, xp⟩) hKS (show w4.heap.size ≤ gb from (by rw [hgb]; exact HBc.out.size))); clear hgb)
     have HIc := Lib.hid (HIc.out.ext hbA)
     have HBc := Lib.hid (ext_trans HBc.out hbA)
     have HS := Lib.hid (HS.out.ext hbA)
     have HJc := Lib.hid (HJc.out.ext hbA)
     try (have HKA := Lib.hid (HKA.out.ext hbA))
     try (have HH5 := Lib.hid (own_ext HH5.out hbA))
     clear hwS hKS hbA
     refine hK.out _ _ ?_ (fun hHeld => ?_)
     · (first | exact ⟨(HS.out.cell 0).trans rfl, (HS.out.cell 1).trans rfl, (HJc.out.cell 0).trans rfl, (HJc.out.cell 1).trans rfl, (HJc.out.cell 2).trans rfl⟩ | go_keep)
     clear hK K
     try simp only [Act.put, List.setIfInBounds_toArray, List.set_cons_zero, List.set_cons_succ]
     refine wpAnyH_ready (rs := [9, 14]) (by kernel_rfl) (by simp) ?_
     refine AllReadyH.cons (o := ⟨some 38, .call { callee := .value (.func 63), args := #[.tmp 37], argTypes := #[26] }, 33, "sched.go:194", #[⟨8, .data⟩], none⟩) rfl (fun K hK => ?_) ?_
     ·
       go_simp
       go_at_call 63
       refine (HHd.out _ (by first | exact HIc.out | exact HIc.out.ext (below_drewN (Below.refl _ _) 1))).mono ?_
       rintro e w5 ⟨A3, c3, l3, rfl, h1, h2, hown, hb⟩
       obtain rfl := sortB_eq h1 h2
       try (have hb := ext_trans (below_drewN (Below.refl w4.heap.size w4) 1) hb)
       have HIc := Lib.hid (HIc.out.ext hb)
       have HBc := Lib.hid (ext_trans HBc.out hb)
       have HS := Lib.hid (HS.out.ext hb)
       try (have HVc := Lib.hid (own_ext HVc.out hb))
       have HJc := Lib.hid (HJc.out.ext hb)
       try (have HKA := Lib.hid (HKA.out.ext hb))
       have HH5 := Lib.hid hown
       clear h1 h2 hown hb
       refine hK.out _ _ ?_ (fun hHeld => ?_)
       · (first | exact ⟨(HS.out.cell 0).trans rfl, (HS.out.cell 1).trans rfl, (HJc.out.cell 0).trans rfl, (HJc.out.cell 1).trans rfl, (HJc.out.cell 2).trans rfl⟩ | go_keep)
       clear hK K
       try simp only [Act.put, List.setIfInBounds_toArray, List.set_cons_zero, List.set_cons_succ]
       refine wpAnyH_ready (rs := [10, 14]) (by kernel_rfl) (by simp) ?_
       refine AllReadyH.cons (o := ⟨some 39, .call { callee := .value (.func 62), args := #[.tmp 32, .tmp 35, .tmp 36, .tmp 38], argTypes := #[24, 33, 3, 33] }, 121, "sched.go:194", #[⟨3, .data⟩, ⟨6, .data⟩, ⟨7, .data⟩, ⟨9, .data⟩, ⟨9, .chain⟩], none⟩) rfl (fun K hK => ?_) ?_
       ·
         go_simp
         go_at_call 62
         have e1 := HAo.out.ext (ext_trans HB.out HBc.out)
         have e2 := RdS.of_own HVc.out (fun k hk => (HVc.out.lt k hk).2)
         have e3 := RdS.of_own HH5.out (fun k hk => (HH5.out.lt k hk).2)
         have e4 := walk_u B p A c mark (sortB (s.holds.map (·.1))) [(⟨xb, xs, xp⟩ : Id3)] (some ⟨gb, 0, none⟩) A3 1 c3 _ HCk.out e1 (by have h1 := HB0.out; have h2 := HB.out.size; have h3 := HBc.out.size; omega) e2 e3 HNd.out (by simp) (by have h1 := HHl.out; unfold heldL at h1; rw [h1]; exact hlen) HWt.out
         refine e4.mono ?_
         clear e1 e2 e3 e4
         rintro e w6 ⟨A61, n61, c61, A62, n62, c62, A63, n63, c63, dp6, ve6, rfl, hwk, hb⟩
         have HWk := Lib.hid (hwk.mono (show w4.heap.size ≤ _ from HBc.out.size))
         have HIc := Lib.hid (HIc.out.ext hb)
         have HBc := Lib.hid (ext_trans HBc.out hb)
         have HS := Lib.hid (HS.out.ext hb)
         try (have HVc := Lib.hid (own_ext HVc.out hb))
         have HJc := Lib.hid (HJc.out.ext hb)
         try (have HKA := Lib.hid (HKA.out.ext hb))
         clear hwk hb
         refine hK.out _ _ ?_ (fun hHeld => ?_)
         · (first | exact ⟨(HS.out.cell 0).trans rfl, (HS.out.cell 1).trans rfl, (HJc.out.cell 0).trans rfl, (HJc.out.cell 1).trans rfl, (HJc.out.cell 2).trans rfl⟩ | go_keep)
         clear hK K
         try simp only [Act.put, List.setIfInBounds_toArray, List.set_cons_zero, List.set_cons_succ]
         refine wpAnyH_take (i := 11) (oi := ⟨some 28, .move (.tmp 39), 121, "sched.go:194", #[⟨10, .data⟩], none⟩) (v := ?v1z11) rfl (by kernel_rfl) (by kernel_rfl) (by kernel_rfl) (fun _ _ _ h => h) (Or.inl ⟨by rfl, ?hy1z11⟩) (by assumption) ?rest1z11
         case hy1z11 => (intro w hSw; (try dsimp only at hSw); go_simp; try (with_reducible rfl))
         simp only [Act.put, List.setIfInBounds_toArray, List.set_cons_zero, List.set_cons_succ]
         refine wpAnyH_take (i := 12) (oi := ⟨some 40, .extract (.tmp 28) 0, 120, "sched.go:194", #[⟨11, .data⟩], none⟩) (v := ?v1z12) rfl (by kernel_rfl) (by kernel_rfl) (by kernel_rfl) (fun _ _ _ h => h) (Or.inl ⟨by rfl, ?hy1z12⟩) (by assumption) ?rest1z12
         case hy1z12 => (intro w hSw; (try dsimp only at hSw); go_simp; try (with_reducible rfl))
         simp only [Act.put, List.setIfInBounds_toArray, List.set_cons_zero, List.set_cons_succ]
         refine wpAnyH_take (i := 13) (oi := ⟨some 41, .extract (.tmp 28) 1, 28, "sched.go:194", #[⟨11, .data⟩, ⟨15, .gcOnly .lateStores⟩], none⟩) (v := ?v1z13) rfl (by kernel_rfl) (by kernel_rfl) (by kernel_rfl) (fun _ _ _ h => h) (Or.inl ⟨by rfl, ?hy1z13⟩) (by assumption) ?rest1z13
         case hy1z13 => (intro w hSw; (try dsimp only at hSw); go_simp; try (with_reducible rfl))
         simp only [Act.put, List.setIfInBounds_toArray, List.set_cons_zero, List.set_cons_succ]
         refine wpAnyH_ready (rs := [14]) (by kernel_rfl) (by simp) ?_
         refine AllReadyH.cons (o := ⟨some 12, .alloc 120, 0, "sched.go:194", #[], none⟩) rfl (fun K hK => ?_) ?_
         ·
           go_simp
           first
             | (obtain ⟨ab, wA, hab, hwA, hbA, hKA⟩ := way_al w6; rw [hwA, ← hab]; have hsb0 : sb < ab := (by rw [hab]; exact HS.out.lt); have hab4 : w4.heap.size ≤ ab := (by rw [hab]; exact HBc.out.size); clear hab)
             | (obtain ⟨ab, wA, hab, hwA, hbA, hKA⟩ := way_al w5; rw [hwA, ← hab]; have hsb0 : sb < ab := (by rw [hab]; exact HS.out.lt); have hab4 : w4.heap.size ≤ ab := (by rw [hab]; exact HBc.out.size); clear hab)
             | (obtain ⟨ab, wA, hab, hwA, hbA, hKA⟩ := way_al wS; rw [hwA, ← hab]; have hsb0 : sb < ab := (by rw [hab]; exact HS.out.lt); have hab4 : w4.heap.size ≤ ab := (by rw [hab]; exact HBc.out.size); clear hab)
             | (obtain ⟨ab, wA, hab, hwA, hbA, hKA⟩ := way_ald w4; rw [hwA, ← hab]; have hsb0 : sb < ab := (by rw [hab]; exact HS.out.lt); have hab4 : w4.heap.size ≤ ab := (by rw [hab]; exact HBc.out.size); clear hab)
           have HKA := Lib.hid hKA
           have HNj := Lib.hid (show w.heap.size ≠ ab from by have h1 := HJ4.out; omega)
           have HNe := Lib.hid (show sb ≠ ab from by omega)
           have HAb := Lib.hid hab4
           have HIc := Lib.hid (HIc.out.ext hbA)
           have HBc := Lib.hid (ext_trans HBc.out hbA)
           have HS := Lib.hid (HS.out.ext hbA)
           try (have HVc := Lib.hid (own_ext HVc.out hbA))
           have HJc := Lib.hid (HJc.out.ext hbA)
           try (have HH5 := Lib.hid (own_ext HH5.out hbA))
           try (have HWk := Lib.hid (HWk.out.ext hbA))
           clear hwA hKA hbA hab4 hsb0
           refine hK.out _ _ ?_ (fun hHeld => ?_)
           · (first | exact ⟨(HS.out.cell 0).trans rfl, (HS.out.cell 1).trans rfl, (HJc.out.cell 0).trans rfl, (HJc.out.cell 1).trans rfl, (HJc.out.cell 2).trans rfl⟩ | go_keep)
           clear hK K
           try simp only [Act.put, List.setIfInBounds_toArray, List.set_cons_zero, List.set_cons_succ]
           refine wpAnyH_ready (rs := [15]) (by kernel_rfl) (by simp) ?_
           refine AllReadyH.cons (o := ⟨none, .store 120 (.tmp 12) (.tmp 40), 0, "sched.go:194", #[⟨14, .data⟩, ⟨12, .data⟩, ⟨10, .chain⟩, ⟨0, .phase⟩, ⟨1, .phase⟩, ⟨2, .phase⟩, ⟨3, .phase⟩, ⟨4, .phase⟩, ⟨5, .phase⟩, ⟨6, .phase⟩, ⟨7, .phase⟩, ⟨8, .phase⟩, ⟨9, .phase⟩, ⟨10, .phase⟩, ⟨11, .phase⟩, ⟨12, .phase⟩, ⟨13, .textOnly .lateStores⟩, ⟨14, .phase⟩], none⟩) rfl (fun K hK => ?_) ?_
           ·
             refine step_storeAt rfl 120 (.tmp 12) (.tmp 40) rfl _ _ (by rfl) (by rfl) (run_store_way HKA.out _ _ _ _ _ _ _ _ _ _) ?_
             have HS := Lib.hid (far_way HS.out HNe.out (.slice A61 n61 c61) (.slice A62 n62 c62) (.slice A63 n63 c63) (.int .i64 dp6))
             have HJc := Lib.hid (far_way HJc.out HNj.out (.slice A61 n61 c61) (.slice A62 n62 c62) (.slice A63 n63 c63) (.int .i64 dp6))
             refine hK.out _ _ ?_ (fun hHeld => ?_)
             · (first | exact ⟨(HS.out.cell 0).trans rfl, (HS.out.cell 1).trans rfl, (HJc.out.cell 0).trans rfl, (HJc.out.cell 1).trans rfl, (HJc.out.cell 2).trans rfl⟩ | go_keep)
             clear hK K
             try simp only [Act.put]
             refine wpAnyH_take (i := 16) (oi := ⟨some 13, .assign (.tmp 41), 28, "sched.go:194", #[⟨13, .data⟩, ⟨15, .chain⟩, ⟨0, .phase⟩, ⟨1, .phase⟩, ⟨2, .phase⟩, ⟨3, .phase⟩, ⟨4, .phase⟩, ⟨5, .phase⟩, ⟨6, .phase⟩, ⟨7, .phase⟩, ⟨8, .phase⟩, ⟨9, .phase⟩, ⟨10, .phase⟩, ⟨11, .phase⟩, ⟨12, .phase⟩, ⟨13, .phase⟩, ⟨14, .phase⟩, ⟨15, .phase⟩], none⟩) (v := ?v1z16) rfl (by kernel_rfl) (by kernel_rfl) (by kernel_rfl) (fun _ _ _ h => h) (Or.inl ⟨by rfl, ?hy1z16⟩) (by assumption) ?rest1z16
             case hy1z16 => (intro w hSw; (try dsimp only at hSw); go_simp; try (with_reducible rfl))
             simp only [Act.put, List.setIfInBounds_toArray, List.set_cons_zero, List.set_cons_succ]
             refine wpAnyH_done (by kernel_rfl) ?_ _
             go_wp2_with fail
             go_meet
             exact ⟨ab, A62, n62, c62, A63, n63, c63, rfl, Lib.hid ⟨(at_way HKA.out _ _ _ _).1, (at_way2 HKA.out _ _ _ _).1, (at_way HKA.out _ _ _ _).2, HAb.out⟩, Lib.hid (HWk.out.way HKA.out _ _ _ _), Lib.hid (below_way HBc.out HAb.out _ _ _ _)⟩
           exact AllReadyH.nil
         exact AllReadyH.nil
       refine AllReadyH.cons (o := ⟨some 12, .alloc 120, 0, "sched.go:194", #[], none⟩) rfl (fun K hK => ?_) ?_
       ·
         go_simp
         first
           | (obtain ⟨ab, wA, hab, hwA, hbA, hKA⟩ := way_al w6; rw [hwA, ← hab]; have hsb0 : sb < ab := (by rw [hab]; exact HS.out.lt); have hab4 : w4.heap.size ≤ ab := (by rw [hab]; exact HBc.out.size); clear hab)
           | (obtain ⟨ab, wA, hab, hwA, hbA, hKA⟩ := way_al w5; rw [hwA, ← hab]; have hsb0 : sb < ab := (by rw [hab]; exact HS.out.lt); have hab4 : w4.heap.size ≤ ab := (by rw [hab]; exact HBc.out.size); clear hab)
           | (obtain ⟨ab, wA, hab, hwA, hbA, hKA⟩ := way_al wS; rw [hwA, ← hab]; have hsb0 : sb < ab := (by rw [hab]; exact HS.out.lt); have hab4 : w4.heap.size ≤ ab := (by rw [hab]; exact HBc.out.size); clear hab)
           | (obtain ⟨ab, wA, hab, hwA, hbA, hKA⟩ := way_ald w4; rw [hwA, ← hab]; have hsb0 : sb < ab := (by rw [hab]; exact HS.out.lt); have hab4 : w4.heap.size ≤ ab := (by rw [hab]; exact HBc.out.size); clear hab)
         have HKA := Lib.hid hKA
         have HNj := Lib.hid (show w.heap.size ≠ ab from by have h1 := HJ4.out; omega)
         have HNe := Lib.hid (show sb ≠ ab from by omega)
         have HAb := Lib.hid hab4
         have HIc := Lib.hid (HIc.out.ext hbA)
         have HBc := Lib.hid (ext_trans HBc.out hbA)
         have HS := Lib.hid (HS.out.ext hbA)
         try (have HVc := Lib.hid (own_ext HVc.out hbA))
         have HJc := Lib.hid (HJc.out.ext hbA)
         try (have HH5 := Lib.hid (own_ext HH5.out hbA))
         try (have HWk := Lib.hid (HWk.out.ext hbA))
         clear hwA hKA hbA hab4 hsb0
         refine hK.out _ _ ?_ (fun hHeld => ?_)
         · (first | exact ⟨(HS.out.cell 0).trans rfl, (HS.out.cell 1).trans rfl, (HJc.out.cell 0).trans rfl, (HJc.out.cell 1).trans rfl, (HJc.out.cell 2).trans rfl⟩ | go_keep)
         clear hK K
         try simp only [Act.put, List.setIfInBounds_toArray, List.set_cons_zero, List.set_cons_succ]
         refine wpAnyH_ready (rs := [10]) (by kernel_rfl) (by simp) ?_
         refine AllReadyH.cons (o := ⟨some 39, .call { callee := .value (.func 62), args := #[.tmp 32, .tmp 35, .tmp 36, .tmp 38], argTypes := #[24, 33, 3, 33] }, 121, "sched.go:194", #[⟨3, .data⟩, ⟨6, .data⟩, ⟨7, .data⟩, ⟨9, .data⟩, ⟨9, .chain⟩], none⟩) rfl (fun K hK => ?_) ?_
         ·
           go_simp
           go_at_call 62
           have e1 := HAo.out.ext (ext_trans HB.out HBc.out)
           have e2 := RdS.of_own HVc.out (fun k hk => (HVc.out.lt k hk).2)
           have e3 := RdS.of_own HH5.out (fun k hk => (HH5.out.lt k hk).2)
           have e4 := walk_u B p A c mark (sortB (s.holds.map (·.1))) [(⟨xb, xs, xp⟩ : Id3)] (some ⟨gb, 0, none⟩) A3 1 c3 _ HCk.out e1 (by have h1 := HB0.out; have h2 := HB.out.size; have h3 := HBc.out.size; omega) e2 e3 HNd.out (by simp) (by have h1 := HHl.out; unfold heldL at h1; rw [h1]; exact hlen) HWt.out
           refine e4.mono ?_
           clear e1 e2 e3 e4
           rintro e w6 ⟨A61, n61, c61, A62, n62, c62, A63, n63, c63, dp6, ve6, rfl, hwk, hb⟩
           have HWk := Lib.hid (hwk.mono (show w4.heap.size ≤ _ from HBc.out.size))
           have HIc := Lib.hid (HIc.out.ext hb)
           have HBc := Lib.hid (ext_trans HBc.out hb)
           have HS := Lib.hid (HS.out.ext hb)
           try (have HVc := Lib.hid (own_ext HVc.out hb))
           have HJc := Lib.hid (HJc.out.ext hb)
           try (have HKA := Lib.hid (HKA.out.ext hb))
           clear hwk hb
           refine hK.out _ _ ?_ (fun hHeld => ?_)
           · (first | exact ⟨(HS.out.cell 0).trans rfl, (HS.out.cell 1).trans rfl, (HJc.out.cell 0).trans rfl, (HJc.out.cell 1).trans rfl, (HJc.out.cell 2).trans rfl⟩ | go_keep)
           clear hK K
           try simp only [Act.put, List.setIfInBounds_toArray, List.set_cons_zero, List.set_cons_succ]
           refine wpAnyH_take (i := 11) (oi := ⟨some 28, .move (.tmp 39), 121, "sched.go:194", #[⟨10, .data⟩], none⟩) (v := ?v1z11x1) rfl (by kernel_rfl) (by kernel_rfl) (by kernel_rfl) (fun _ _ _ h => h) (Or.inl ⟨by rfl, ?hy1z11x1⟩) (by assumption) ?rest1z11x1
           case hy1z11x1 => (intro w hSw; (try dsimp only at hSw); go_simp; try (with_reducible rfl))
           simp only [Act.put, List.setIfInBounds_toArray, List.set_cons_zero, List.set_cons_succ]
           refine wpAnyH_take (i := 12) (oi := ⟨some 40, .extract (.tmp 28) 0, 120, "sched.go:194", #[⟨11, .data⟩], none⟩) (v := ?v1z12x1) rfl (by kernel_rfl) (by kernel_rfl) (by kernel_rfl) (fun _ _ _ h => h) (Or.inl ⟨by rfl, ?hy1z12x1⟩) (by assumption) ?rest1z12x1
           case hy1z12x1 => (intro w hSw; (try dsimp only at hSw); go_simp; try (with_reducible rfl))
           simp only [Act.put, List.setIfInBounds_toArray, List.set_cons_zero, List.set_cons_succ]
           refine wpAnyH_take (i := 13) (oi := ⟨some 41, .extract (.tmp 28) 1, 28, "sched.go:194", #[⟨11, .data⟩, ⟨15, .gcOnly .lateStores⟩], none⟩) (v := ?v1z13x1) rfl (by kernel_rfl) (by kernel_rfl) (by kernel_rfl) (fun _ _ _ h => h) (Or.inl ⟨by rfl, ?hy1z13x1⟩) (by assumption) ?rest1z13x1
           case hy1z13x1 => (intro w hSw; (try dsimp only at hSw); go_simp; try (with_reducible rfl))
           simp only [Act.put, List.setIfInBounds_toArray, List.set_cons_zero, List.set_cons_succ]
           refine wpAnyH_ready (rs := [15]) (by kernel_rfl) (by simp) ?_
           refine AllReadyH.cons (o := ⟨none, .store 120 (.tmp 12) (.tmp 40), 0, "sched.go:194", #[⟨14, .data⟩, ⟨12, .data⟩, ⟨10, .chain⟩, ⟨0, .phase⟩, ⟨1, .phase⟩, ⟨2, .phase⟩, ⟨3, .phase⟩, ⟨4, .phase⟩, ⟨5, .phase⟩, ⟨6, .phase⟩, ⟨7, .phase⟩, ⟨8, .phase⟩, ⟨9, .phase⟩, ⟨10, .phase⟩, ⟨11, .phase⟩, ⟨12, .phase⟩, ⟨13, .textOnly .lateStores⟩, ⟨14, .phase⟩], none⟩) rfl (fun K hK => ?_) ?_
           ·
             refine step_storeAt rfl 120 (.tmp 12) (.tmp 40) rfl _ _ (by rfl) (by rfl) (run_store_way HKA.out _ _ _ _ _ _ _ _ _ _) ?_
             have HS := Lib.hid (far_way HS.out HNe.out (.slice A61 n61 c61) (.slice A62 n62 c62) (.slice A63 n63 c63) (.int .i64 dp6))
             have HJc := Lib.hid (far_way HJc.out HNj.out (.slice A61 n61 c61) (.slice A62 n62 c62) (.slice A63 n63 c63) (.int .i64 dp6))
             refine hK.out _ _ ?_ (fun hHeld => ?_)
             · (first | exact ⟨(HS.out.cell 0).trans rfl, (HS.out.cell 1).trans rfl, (HJc.out.cell 0).trans rfl, (HJc.out.cell 1).trans rfl, (HJc.out.cell 2).trans rfl⟩ | go_keep)
             clear hK K
             try simp only [Act.put]
             refine wpAnyH_take (i := 16) (oi := ⟨some 13, .assign (.tmp 41), 28, "sched.go:194", #[⟨13, .data⟩, ⟨15, .chain⟩, ⟨0, .phase⟩, ⟨1, .phase⟩, ⟨2, .phase⟩, ⟨3, .phase⟩, ⟨4, .phase⟩, ⟨5, .phase⟩, ⟨6, .phase⟩, ⟨7, .phase⟩, ⟨8, .phase⟩, ⟨9, .phase⟩, ⟨10, .phase⟩, ⟨11, .phase⟩, ⟨12, .phase⟩, ⟨13, .phase⟩, ⟨14, .phase⟩, ⟨15, .phase⟩], none⟩) (v := ?v1z16x1) rfl (by kernel_rfl) (by kernel_rfl) (by kernel_rfl) (fun _ _ _ h => h) (Or.inl ⟨by rfl, ?hy1z16x1⟩) (by assumption) ?rest1z16x1
             case hy1z16x1 => (intro w hSw; (try dsimp only at hSw); go_simp; try (with_reducible rfl))
             simp only [Act.put, List.setIfInBounds_toArray, List.set_cons_zero, List.set_cons_succ]
             refine wpAnyH_done (by kernel_rfl) ?_ _
             go_wp2_with fail
             go_meet
             exact ⟨ab, A62, n62, c62, A63, n63, c63, rfl, Lib.hid ⟨(at_way HKA.out _ _ _ _).1, (at_way2 HKA.out _ _ _ _).1, (at_way HKA.out _ _ _ _).2, HAb.out⟩, Lib.hid (HWk.out.way HKA.out _ _ _ _), Lib.hid (below_way HBc.out HAb.out _ _ _ _)⟩
           exact AllReadyH.nil
         exact AllReadyH.nil
       exact AllReadyH.nil
     refine AllReadyH.cons (o := ⟨some 12, .alloc 120, 0, "sched.go:194", #[], none⟩) rfl (fun K hK => ?_) ?_
     ·
       go_simp
       first
         | (obtain ⟨ab, wA, hab, hwA, hbA, hKA⟩ := way_al w6; rw [hwA, ← hab]; have hsb0 : sb < ab := (by rw [hab]; exact HS.out.lt); have hab4 : w4.heap.size ≤ ab := (by rw [hab]; exact HBc.out.size); clear hab)
         | (obtain ⟨ab, wA, hab, hwA, hbA, hKA⟩ := way_al w5; rw [hwA, ← hab]; have hsb0 : sb < ab := (by rw [hab]; exact HS.out.lt); have hab4 : w4.heap.size ≤ ab := (by rw [hab]; exact HBc.out.size); clear hab)
         | (obtain ⟨ab, wA, hab, hwA, hbA, hKA⟩ := way_al wS; rw [hwA, ← hab]; have hsb0 : sb < ab := (by rw [hab]; exact HS.out.lt); have hab4 : w4.heap.size ≤ ab := (by rw [hab]; exact HBc.out.size); clear hab)
         | (obtain ⟨ab, wA, hab, hwA, hbA, hKA⟩ := way_ald w4; rw [hwA, ← hab]; have hsb0 : sb < ab := (by rw [hab]; exact HS.out.lt); have hab4 : w4.heap.size ≤ ab := (by rw [hab]; exact HBc.out.size); clear hab)
       have HKA := Lib.hid hKA
       have HNj := Lib.hid (show w.heap.size ≠ ab from by have h1 := HJ4.out; omega)
       have HNe := Lib.hid (show sb ≠ ab from by omega)
       have HAb := Lib.hid hab4
       have HIc := Lib.hid (HIc.out.ext hbA)
       have HBc := Lib.hid (ext_trans HBc.out hbA)
       have HS := Lib.hid (HS.out.ext hbA)
       try (have HVc := Lib.hid (own_ext HVc.out hbA))
       have HJc := Lib.hid (HJc.out.ext hbA)
       try (have HH5 := Lib.hid (own_ext HH5.out hbA))
       try (have HWk := Lib.hid (HWk.out.ext hbA))
       clear hwA hKA hbA hab4 hsb0
       refine hK.out _ _ ?_ (fun hHeld => ?_)
       · (first | exact ⟨(HS.out.cell 0).trans rfl, (HS.out.cell 1).trans rfl, (HJc.out.cell 0).trans rfl, (HJc.out.cell 1).trans rfl, (HJc.out.cell 2).trans rfl⟩ | go_keep)
       clear hK K
       try simp only [Act.put, List.setIfInBounds_toArray, List.set_cons_zero, List.set_cons_succ]
       refine wpAnyH_ready (rs := [9]) (by kernel_rfl) (by simp) ?_
       refine AllReadyH.cons (o := ⟨some 38, .call { callee := .value (.func 63), args := #[.tmp 37], argTypes := #[26] }, 33, "sched.go:194", #[⟨8, .data⟩], none⟩) rfl (fun K hK => ?_) ?_
       ·
         go_simp
         go_at_call 63
         refine (HHd.out _ (by first | exact HIc.out | exact HIc.out.ext (below_drewN (Below.refl _ _) 1))).mono ?_
         rintro e w5 ⟨A3, c3, l3, rfl, h1, h2, hown, hb⟩
         obtain rfl := sortB_eq h1 h2
         try (have hb := ext_trans (below_drewN (Below.refl w4.heap.size w4) 1) hb)
         have HIc := Lib.hid (HIc.out.ext hb)
         have HBc := Lib.hid (ext_trans HBc.out hb)
         have HS := Lib.hid (HS.out.ext hb)
         try (have HVc := Lib.hid (own_ext HVc.out hb))
         have HJc := Lib.hid (HJc.out.ext hb)
         try (have HKA := Lib.hid (HKA.out.ext hb))
         have HH5 := Lib.hid hown
         clear h1 h2 hown hb
         refine hK.out _ _ ?_ (fun hHeld => ?_)
         · (first | exact ⟨(HS.out.cell 0).trans rfl, (HS.out.cell 1).trans rfl, (HJc.out.cell 0).trans rfl, (HJc.out.cell 1).trans rfl, (HJc.out.cell 2).trans rfl⟩ | go_keep)
         clear hK K
         try simp only [Act.put, List.setIfInBounds_toArray, List.set_cons_zero, List.set_cons_succ]
         refine wpAnyH_ready (rs := [10]) (by kernel_rfl) (by simp) ?_
         refine AllReadyH.cons (o := ⟨some 39, .call { callee := .value (.func 62), args := #[.tmp 32, .tmp 35, .tmp 36, .tmp 38], argTypes := #[24, 33, 3, 33] }, 121, "sched.go:194", #[⟨3, .data⟩, ⟨6, .data⟩, ⟨7, .data⟩, ⟨9, .data⟩, ⟨9, .chain⟩], none⟩) rfl (fun K hK => ?_) ?_
         ·
           go_simp
           go_at_call 62
           have e1 := HAo.out.ext (ext_trans HB.out HBc.out)
           have e2 := RdS.of_own HVc.out (fun k hk => (HVc.out.lt k hk).2)
           have e3 := RdS.of_own HH5.out (fun k hk => (HH5.out.lt k hk).2)
           have e4 := walk_u B p A c mark (sortB (s.holds.map (·.1))) [(⟨xb, xs, xp⟩ : Id3)] (some ⟨gb, 0, none⟩) A3 1 c3 _ HCk.out e1 (by have h1 := HB0.out; have h2 := HB.out.size; have h3 := HBc.out.size; omega) e2 e3 HNd.out (by simp) (by have h1 := HHl.out; unfold heldL at h1; rw [h1]; exact hlen) HWt.out
           refine e4.mono ?_
           clear e1 e2 e3 e4
           rintro e w6 ⟨A61, n61, c61, A62, n62, c62, A63, n63, c63, dp6, ve6, rfl, hwk, hb⟩
           have HWk := Lib.hid (hwk.mono (show w4.heap.size ≤ _ from HBc.out.size))
           have HIc := Lib.hid (HIc.out.ext hb)
           have HBc := Lib.hid (ext_trans HBc.out hb)
           have HS := Lib.hid (HS.out.ext hb)
           try (have HVc := Lib.hid (own_ext HVc.out hb))
           have HJc := Lib.hid (HJc.out.ext hb)
           try (have HKA := Lib.hid (HKA.out.ext hb))
           clear hwk hb
           refine hK.out _ _ ?_ (fun hHeld => ?_)
           · (first | exact ⟨(HS.out.cell 0).trans rfl, (HS.out.cell 1).trans rfl, (HJc.out.cell 0).trans rfl, (HJc.out.cell 1).trans rfl, (HJc.out.cell 2).trans rfl⟩ | go_keep)
           clear hK K
           try simp only [Act.put, List.setIfInBounds_toArray, List.set_cons_zero, List.set_cons_succ]
           refine wpAnyH_take (i := 11) (oi := ⟨some 28, .move (.tmp 39), 121, "sched.go:194", #[⟨10, .data⟩], none⟩) (v := ?v1z11x2) rfl (by kernel_rfl) (by kernel_rfl) (by kernel_rfl) (fun _ _ _ h => h) (Or.inl ⟨by rfl, ?hy1z11x2⟩) (by assumption) ?rest1z11x2
           case hy1z11x2 => (intro w hSw; (try dsimp only at hSw); go_simp; try (with_reducible rfl))
           simp only [Act.put, List.setIfInBounds_toArray, List.set_cons_zero, List.set_cons_succ]
           refine wpAnyH_take (i := 12) (oi := ⟨some 40, .extract (.tmp 28) 0, 120, "sched.go:194", #[⟨11, .data⟩], none⟩) (v := ?v1z12x2) rfl (by kernel_rfl) (by kernel_rfl) (by kernel_rfl) (fun _ _ _ h => h) (Or.inl ⟨by rfl, ?hy1z12x2⟩) (by assumption) ?rest1z12x2
           case hy1z12x2 => (intro w hSw; (try dsimp only at hSw); go_simp; try (with_reducible rfl))
           simp only [Act.put, List.setIfInBounds_toArray, List.set_cons_zero, List.set_cons_succ]
           refine wpAnyH_take (i := 13) (oi := ⟨some 41, .extract (.tmp 28) 1, 28, "sched.go:194", #[⟨11, .data⟩, ⟨15, .gcOnly .lateStores⟩], none⟩) (v := ?v1z13x2) rfl (by kernel_rfl) (by kernel_rfl) (by kernel_rfl) (fun _ _ _ h => h) (Or.inl ⟨by rfl, ?hy1z13x2⟩) (by assumption) ?rest1z13x2
           case hy1z13x2 => (intro w hSw; (try dsimp only at hSw); go_simp; try (with_reducible rfl))
           simp only [Act.put, List.setIfInBounds_toArray, List.set_cons_zero, List.set_cons_succ]
           refine wpAnyH_ready (rs := [15]) (by kernel_rfl) (by simp) ?_
           refine AllReadyH.cons (o := ⟨none, .store 120 (.tmp 12) (.tmp 40), 0, "sched.go:194", #[⟨14, .data⟩, ⟨12, .data⟩, ⟨10, .chain⟩, ⟨0, .phase⟩, ⟨1, .phase⟩, ⟨2, .phase⟩, ⟨3, .phase⟩, ⟨4, .phase⟩, ⟨5, .phase⟩, ⟨6, .phase⟩, ⟨7, .phase⟩, ⟨8, .phase⟩, ⟨9, .phase⟩, ⟨10, .phase⟩, ⟨11, .phase⟩, ⟨12, .phase⟩, ⟨13, .textOnly .lateStores⟩, ⟨14, .phase⟩], none⟩) rfl (fun K hK => ?_) ?_
           ·
             refine step_storeAt rfl 120 (.tmp 12) (.tmp 40) rfl _ _ (by rfl) (by rfl) (run_store_way HKA.out _ _ _ _ _ _ _ _ _ _) ?_
             have HS := Lib.hid (far_way HS.out HNe.out (.slice A61 n61 c61) (.slice A62 n62 c62) (.slice A63 n63 c63) (.int .i64 dp6))
             have HJc := Lib.hid (far_way HJc.out HNj.out (.slice A61 n61 c61) (.slice A62 n62 c62) (.slice A63 n63 c63) (.int .i64 dp6))
             refine hK.out _ _ ?_ (fun hHeld => ?_)
             · (first | exact ⟨(HS.out.cell 0).trans rfl, (HS.out.cell 1).trans rfl, (HJc.out.cell 0).trans rfl, (HJc.out.cell 1).trans rfl, (HJc.out.cell 2).trans rfl⟩ | go_keep)
             clear hK K
             try simp only [Act.put]
             refine wpAnyH_take (i := 16) (oi := ⟨some 13, .assign (.tmp 41), 28, "sched.go:194", #[⟨13, .data⟩, ⟨15, .chain⟩, ⟨0, .phase⟩, ⟨1, .phase⟩, ⟨2, .phase⟩, ⟨3, .phase⟩, ⟨4, .phase⟩, ⟨5, .phase⟩, ⟨6, .phase⟩, ⟨7, .phase⟩, ⟨8, .phase⟩, ⟨9, .phase⟩, ⟨10, .phase⟩, ⟨11, .phase⟩, ⟨12, .phase⟩, ⟨13, .phase⟩, ⟨14, .phase⟩, ⟨15, .phase⟩], none⟩) (v := ?v1z16x2) rfl (by kernel_rfl) (by kernel_rfl) (by kernel_rfl) (fun _ _ _ h => h) (Or.inl ⟨by rfl, ?hy1z16x2⟩) (by assumption) ?rest1z16x2
             case hy1z16x2 => (intro w hSw; (try dsimp only at hSw); go_simp; try (with_reducible rfl))
             simp only [Act.put, List.setIfInBounds_toArray, List.set_cons_zero, List.set_cons_succ]
             refine wpAnyH_done (by kernel_rfl) ?_ _
             go_wp2_with fail
             go_meet
             exact ⟨ab, A62, n62, c62, A63, n63, c63, rfl, Lib.hid ⟨(at_way HKA.out _ _ _ _).1, (at_way2 HKA.out _ _ _ _).1, (at_way HKA.out _ _ _ _).2, HAb.out⟩, Lib.hid (HWk.out.way HKA.out _ _ _ _), Lib.hid (below_way HBc.out HAb.out _ _ _ _)⟩
           exact AllReadyH.nil
         exact AllReadyH.nil
       exact AllReadyH.nil
     exact AllReadyH.nil
   refine AllReadyH.cons (o := ⟨some 38, .call { callee := .value (.func 63), args := #[.tmp 37], argTypes := #[26] }, 33, "sched.go:194", #[⟨8, .data⟩], none⟩) rfl (fun K hK => ?_) ?_
   ·
     go_simp
     go_at_call 63
     refine (HHd.out _ (by first | exact HIc.out | exact HIc.out.ext (below_drewN (Below.refl _ _) 1))).mono ?_
     rintro e w5 ⟨A3, c3, l3, rfl, h1, h2, hown, hb⟩
     obtain rfl := sortB_eq h1 h2
     try (have hb := ext_trans (below_drewN (Below.refl w4.heap.size w4) 1) hb)
     have HIc := Lib.hid (HIc.out.ext hb)
     have HBc := Lib.hid (ext_trans HBc.out hb)
     have HS := Lib.hid (HS.out.ext hb)
     try (have HVc := Lib.hid (own_ext HVc.out hb))
     have HJc := Lib.hid (HJc.out.ext hb)
     try (have HKA := Lib.hid (HKA.out.ext hb))
     have HH5 := Lib.hid hown
     clear h1 h2 hown hb
     refine hK.out _ _ ?_ (fun hHeld => ?_)
     · (first | exact ⟨(HS.out.cell 0).trans rfl, (HS.out.cell 1).trans rfl, (HJc.out.cell 0).trans rfl, (HJc.out.cell 1).trans rfl, (HJc.out.cell 2).trans rfl⟩ | go_keep)
     clear hK K
     try simp only [Act.put, List.setIfInBounds_toArray, List.set_cons_zero, List.set_cons_succ]
     refine wpAnyH_ready (rs := [6, 14]) (by kernel_rfl) (by simp) ?_
     refine AllReadyH.cons (o := ⟨some 35, .buildSlice 33 1 #[(0, .tmp 34)], 33, "sched.go:194", #[⟨5, .data⟩], none⟩) rfl (fun K hK => ?_) ?_
     ·
       go_simp
       first
         | (obtain ⟨gb, wS, hgb, hwS, hbA, hKS⟩ := id_al w5 xb xs xp; rw [hwS, ← hgb]; have HVc := Lib.hid (own_one (x := ⟨xb, xs, xp⟩) hKS (show w4.heap.size ≤ gb from (by rw [hgb]; exact HBc.out.size))); clear hgb)
         | (obtain ⟨gb, wS, hgb, hwS, hbA, hKS⟩ := id_al wA xb xs xp; rw [hwS, ← hgb]; have HVc := Lib.hid (own_one (x := ⟨xb, xs, xp⟩) hKS (show w4.heap.size ≤ gb from (by rw [hgb]; exact HBc.out.size))); clear hgb)
         | (obtain ⟨gb, wS, hgb, hwS, hbA, hKS⟩ := id_ald w4 xb xs xp; rw [hwS, ← hgb]; have HVc := Lib.hid (own_one (x := ⟨xb, xs, xp⟩) hKS (show w4.heap.size ≤ gb from (by rw [hgb]; exact HBc.out.size))); clear hgb)
       have HIc := Lib.hid (HIc.out.ext hbA)
       have HBc := Lib.hid (ext_trans HBc.out hbA)
       have HS := Lib.hid (HS.out.ext hbA)
       have HJc := Lib.hid (HJc.out.ext hbA)
       try (have HKA := Lib.hid (HKA.out.ext hbA))
       try (have HH5 := Lib.hid (own_ext HH5.out hbA))
       clear hwS hKS hbA
       refine hK.out _ _ ?_ (fun hHeld => ?_)
       · (first | exact ⟨(HS.out.cell 0).trans rfl, (HS.out.cell 1).trans rfl, (HJc.out.cell 0).trans rfl, (HJc.out.cell 1).trans rfl, (HJc.out.cell 2).trans rfl⟩ | go_keep)
       clear hK K
       try simp only [Act.put, List.setIfInBounds_toArray, List.set_cons_zero, List.set_cons_succ]
       refine wpAnyH_ready (rs := [10, 14]) (by kernel_rfl) (by simp) ?_
       refine AllReadyH.cons (o := ⟨some 39, .call { callee := .value (.func 62), args := #[.tmp 32, .tmp 35, .tmp 36, .tmp 38], argTypes := #[24, 33, 3, 33] }, 121, "sched.go:194", #[⟨3, .data⟩, ⟨6, .data⟩, ⟨7, .data⟩, ⟨9, .data⟩, ⟨9, .chain⟩], none⟩) rfl (fun K hK => ?_) ?_
       ·
         go_simp
         go_at_call 62
         have e1 := HAo.out.ext (ext_trans HB.out HBc.out)
         have e2 := RdS.of_own HVc.out (fun k hk => (HVc.out.lt k hk).2)
         have e3 := RdS.of_own HH5.out (fun k hk => (HH5.out.lt k hk).2)
         have e4 := walk_u B p A c mark (sortB (s.holds.map (·.1))) [(⟨xb, xs, xp⟩ : Id3)] (some ⟨gb, 0, none⟩) A3 1 c3 _ HCk.out e1 (by have h1 := HB0.out; have h2 := HB.out.size; have h3 := HBc.out.size; omega) e2 e3 HNd.out (by simp) (by have h1 := HHl.out; unfold heldL at h1; rw [h1]; exact hlen) HWt.out
         refine e4.mono ?_
         clear e1 e2 e3 e4
         rintro e w6 ⟨A61, n61, c61, A62, n62, c62, A63, n63, c63, dp6, ve6, rfl, hwk, hb⟩
         have HWk := Lib.hid (hwk.mono (show w4.heap.size ≤ _ from HBc.out.size))
         have HIc := Lib.hid (HIc.out.ext hb)
         have HBc := Lib.hid (ext_trans HBc.out hb)
         have HS := Lib.hid (HS.out.ext hb)
         try (have HVc := Lib.hid (own_ext HVc.out hb))
         have HJc := Lib.hid (HJc.out.ext hb)
         try (have HKA := Lib.hid (HKA.out.ext hb))
         clear hwk hb
         refine hK.out _ _ ?_ (fun hHeld => ?_)
         · (first | exact ⟨(HS.out.cell 0).trans rfl, (HS.out.cell 1).trans rfl, (HJc.out.cell 0).trans rfl, (HJc.out.cell 1).trans rfl, (HJc.out.cell 2).trans rfl⟩ | go_keep)
         clear hK K
         try simp only [Act.put, List.setIfInBounds_toArray, List.set_cons_zero, List.set_cons_succ]
         refine wpAnyH_take (i := 11) (oi := ⟨some 28, .move (.tmp 39), 121, "sched.go:194", #[⟨10, .data⟩], none⟩) (v := ?v1z11x3) rfl (by kernel_rfl) (by kernel_rfl) (by kernel_rfl) (fun _ _ _ h => h) (Or.inl ⟨by rfl, ?hy1z11x3⟩) (by assumption) ?rest1z11x3
         case hy1z11x3 => (intro w hSw; (try dsimp only at hSw); go_simp; try (with_reducible rfl))
         simp only [Act.put, List.setIfInBounds_toArray, List.set_cons_zero, List.set_cons_succ]
         refine wpAnyH_take (i := 12) (oi := ⟨some 40, .extract (.tmp 28) 0, 120, "sched.go:194", #[⟨11, .data⟩], none⟩) (v := ?v1z12x3) rfl (by kernel_rfl) (by kernel_rfl) (by kernel_rfl) (fun _ _ _ h => h) (Or.inl ⟨by rfl, ?hy1z12x3⟩) (by assumption) ?rest1z12x3
         case hy1z12x3 => (intro w hSw; (try dsimp only at hSw); go_simp; try (with_reducible rfl))
         simp only [Act.put, List.setIfInBounds_toArray, List.set_cons_zero, List.set_cons_succ]
         refine wpAnyH_take (i := 13) (oi := ⟨some 41, .extract (.tmp 28) 1, 28, "sched.go:194", #[⟨11, .data⟩, ⟨15, .gcOnly .lateStores⟩], none⟩) (v := ?v1z13x3) rfl (by kernel_rfl) (by kernel_rfl) (by kernel_rfl) (fun _ _ _ h => h) (Or.inl ⟨by rfl, ?hy1z13x3⟩) (by assumption) ?rest1z13x3
         case hy1z13x3 => (intro w hSw; (try dsimp only at hSw); go_simp; try (with_reducible rfl))
         simp only [Act.put, List.setIfInBounds_toArray, List.set_cons_zero, List.set_cons_succ]
         refine wpAnyH_ready (rs := [14]) (by kernel_rfl) (by simp) ?_
         refine AllReadyH.cons (o := ⟨some 12, .alloc 120, 0, "sched.go:194", #[], none⟩) rfl (fun K hK => ?_) ?_
         ·
           go_simp
           first
             | (obtain ⟨ab, wA, hab, hwA, hbA, hKA⟩ := way_al w6; rw [hwA, ← hab]; have hsb0 : sb < ab := (by rw [hab]; exact HS.out.lt); have hab4 : w4.heap.size ≤ ab := (by rw [hab]; exact HBc.out.size); clear hab)
             | (obtain ⟨ab, wA, hab, hwA, hbA, hKA⟩ := way_al w5; rw [hwA, ← hab]; have hsb0 : sb < ab := (by rw [hab]; exact HS.out.lt); have hab4 : w4.heap.size ≤ ab := (by rw [hab]; exact HBc.out.size); clear hab)
             | (obtain ⟨ab, wA, hab, hwA, hbA, hKA⟩ := way_al wS; rw [hwA, ← hab]; have hsb0 : sb < ab := (by rw [hab]; exact HS.out.lt); have hab4 : w4.heap.size ≤ ab := (by rw [hab]; exact HBc.out.size); clear hab)
             | (obtain ⟨ab, wA, hab, hwA, hbA, hKA⟩ := way_ald w4; rw [hwA, ← hab]; have hsb0 : sb < ab := (by rw [hab]; exact HS.out.lt); have hab4 : w4.heap.size ≤ ab := (by rw [hab]; exact HBc.out.size); clear hab)
           have HKA := Lib.hid hKA
           have HNj := Lib.hid (show w.heap.size ≠ ab from by have h1 := HJ4.out; omega)
           have HNe := Lib.hid (show sb ≠ ab from by omega)
           have HAb := Lib.hid hab4
           have HIc := Lib.hid (HIc.out.ext hbA)
           have HBc := Lib.hid (ext_trans HBc.out hbA)
           have HS := Lib.hid (HS.out.ext hbA)
           try (have HVc := Lib.hid (own_ext HVc.out hbA))
           have HJc := Lib.hid (HJc.out.ext hbA)
           try (have HH5 := Lib.hid (own_ext HH5.out hbA))
           try (have HWk := Lib.hid (HWk.out.ext hbA))
           clear hwA hKA hbA hab4 hsb0
           refine hK.out _ _ ?_ (fun hHeld => ?_)
           · (first | exact ⟨(HS.out.cell 0).trans rfl, (HS.out.cell 1).trans rfl, (HJc.out.cell 0).trans rfl, (HJc.out.cell 1).trans rfl, (HJc.out.cell 2).trans rfl⟩ | go_keep)
           clear hK K
           try simp only [Act.put, List.setIfInBounds_toArray, List.set_cons_zero, List.set_cons_succ]
           refine wpAnyH_ready (rs := [15]) (by kernel_rfl) (by simp) ?_
           refine AllReadyH.cons (o := ⟨none, .store 120 (.tmp 12) (.tmp 40), 0, "sched.go:194", #[⟨14, .data⟩, ⟨12, .data⟩, ⟨10, .chain⟩, ⟨0, .phase⟩, ⟨1, .phase⟩, ⟨2, .phase⟩, ⟨3, .phase⟩, ⟨4, .phase⟩, ⟨5, .phase⟩, ⟨6, .phase⟩, ⟨7, .phase⟩, ⟨8, .phase⟩, ⟨9, .phase⟩, ⟨10, .phase⟩, ⟨11, .phase⟩, ⟨12, .phase⟩, ⟨13, .textOnly .lateStores⟩, ⟨14, .phase⟩], none⟩) rfl (fun K hK => ?_) ?_
           ·
             refine step_storeAt rfl 120 (.tmp 12) (.tmp 40) rfl _ _ (by rfl) (by rfl) (run_store_way HKA.out _ _ _ _ _ _ _ _ _ _) ?_
             have HS := Lib.hid (far_way HS.out HNe.out (.slice A61 n61 c61) (.slice A62 n62 c62) (.slice A63 n63 c63) (.int .i64 dp6))
             have HJc := Lib.hid (far_way HJc.out HNj.out (.slice A61 n61 c61) (.slice A62 n62 c62) (.slice A63 n63 c63) (.int .i64 dp6))
             refine hK.out _ _ ?_ (fun hHeld => ?_)
             · (first | exact ⟨(HS.out.cell 0).trans rfl, (HS.out.cell 1).trans rfl, (HJc.out.cell 0).trans rfl, (HJc.out.cell 1).trans rfl, (HJc.out.cell 2).trans rfl⟩ | go_keep)
             clear hK K
             try simp only [Act.put]
             refine wpAnyH_take (i := 16) (oi := ⟨some 13, .assign (.tmp 41), 28, "sched.go:194", #[⟨13, .data⟩, ⟨15, .chain⟩, ⟨0, .phase⟩, ⟨1, .phase⟩, ⟨2, .phase⟩, ⟨3, .phase⟩, ⟨4, .phase⟩, ⟨5, .phase⟩, ⟨6, .phase⟩, ⟨7, .phase⟩, ⟨8, .phase⟩, ⟨9, .phase⟩, ⟨10, .phase⟩, ⟨11, .phase⟩, ⟨12, .phase⟩, ⟨13, .phase⟩, ⟨14, .phase⟩, ⟨15, .phase⟩], none⟩) (v := ?v1z16x3) rfl (by kernel_rfl) (by kernel_rfl) (by kernel_rfl) (fun _ _ _ h => h) (Or.inl ⟨by rfl, ?hy1z16x3⟩) (by assumption) ?rest1z16x3
             case hy1z16x3 => (intro w hSw; (try dsimp only at hSw); go_simp; try (with_reducible rfl))
             simp only [Act.put, List.setIfInBounds_toArray, List.set_cons_zero, List.set_cons_succ]
             refine wpAnyH_done (by kernel_rfl) ?_ _
             go_wp2_with fail
             go_meet
             exact ⟨ab, A62, n62, c62, A63, n63, c63, rfl, Lib.hid ⟨(at_way HKA.out _ _ _ _).1, (at_way2 HKA.out _ _ _ _).1, (at_way HKA.out _ _ _ _).2, HAb.out⟩, Lib.hid (HWk.out.way HKA.out _ _ _ _), Lib.hid (below_way HBc.out HAb.out _ _ _ _)⟩
           exact AllReadyH.nil
         exact AllReadyH.nil
       refine AllReadyH.cons (o := ⟨some 12, .alloc 120, 0, "sched.go:194", #[], none⟩) rfl (fun K hK => ?_) ?_
       ·
         go_simp
         first
           | (obtain ⟨ab, wA, hab, hwA, hbA, hKA⟩ := way_al w6; rw [hwA, ← hab]; have hsb0 : sb < ab := (by rw [hab]; exact HS.out.lt); have hab4 : w4.heap.size ≤ ab := (by rw [hab]; exact HBc.out.size); clear hab)
           | (obtain ⟨ab, wA, hab, hwA, hbA, hKA⟩ := way_al w5; rw [hwA, ← hab]; have hsb0 : sb < ab := (by rw [hab]; exact HS.out.lt); have hab4 : w4.heap.size ≤ ab := (by rw [hab]; exact HBc.out.size); clear hab)
           | (obtain ⟨ab, wA, hab, hwA, hbA, hKA⟩ := way_al wS; rw [hwA, ← hab]; have hsb0 : sb < ab := (by rw [hab]; exact HS.out.lt); have hab4 : w4.heap.size ≤ ab := (by rw [hab]; exact HBc.out.size); clear hab)
           | (obtain ⟨ab, wA, hab, hwA, hbA, hKA⟩ := way_ald w4; rw [hwA, ← hab]; have hsb0 : sb < ab := (by rw [hab]; exact HS.out.lt); have hab4 : w4.heap.size ≤ ab := (by rw [hab]; exact HBc.out.size); clear hab)
         have HKA := Lib.hid hKA
         have HNj := Lib.hid (show w.heap.size ≠ ab from by have h1 := HJ4.out; omega)
         have HNe := Lib.hid (show sb ≠ ab from by omega)
         have HAb := Lib.hid hab4
         have HIc := Lib.hid (HIc.out.ext hbA)
         have HBc := Lib.hid (ext_trans HBc.out hbA)
         have HS := Lib.hid (HS.out.ext hbA)
         try (have HVc := Lib.hid (own_ext HVc.out hbA))
         have HJc := Lib.hid (HJc.out.ext hbA)
         try (have HH5 := Lib.hid (own_ext HH5.out hbA))
         try (have HWk := Lib.hid (HWk.out.ext hbA))
         clear hwA hKA hbA hab4 hsb0
         refine hK.out _ _ ?_ (fun hHeld => ?_)
         · (first | exact ⟨(HS.out.cell 0).trans rfl, (HS.out.cell 1).trans rfl, (HJc.out.cell 0).trans rfl, (HJc.out.cell 1).trans rfl, (HJc.out.cell 2).trans rfl⟩ | go_keep)
         clear hK K
         try simp only [Act.put, List.setIfInBounds_toArray, List.set_cons_zero, List.set_cons_succ]
         refine wpAnyH_ready (rs := [10]) (by kernel_rfl) (by simp) ?_
         refine AllReadyH.cons (o := ⟨some 39, .call { callee := .value (.func 62), args := #[.tmp 32, .tmp 35, .tmp 36, .tmp 38], argTypes := #[24, 33, 3, 33] }, 121, "sched.go:194", #[⟨3, .data⟩, ⟨6, .data⟩, ⟨7, .data⟩, ⟨9, .data⟩, ⟨9, .chain⟩], none⟩) rfl (fun K hK => ?_) ?_
         ·
           go_simp
           go_at_call 62
           have e1 := HAo.out.ext (ext_trans HB.out HBc.out)
           have e2 := RdS.of_own HVc.out (fun k hk => (HVc.out.lt k hk).2)
           have e3 := RdS.of_own HH5.out (fun k hk => (HH5.out.lt k hk).2)
           have e4 := walk_u B p A c mark (sortB (s.holds.map (·.1))) [(⟨xb, xs, xp⟩ : Id3)] (some ⟨gb, 0, none⟩) A3 1 c3 _ HCk.out e1 (by have h1 := HB0.out; have h2 := HB.out.size; have h3 := HBc.out.size; omega) e2 e3 HNd.out (by simp) (by have h1 := HHl.out; unfold heldL at h1; rw [h1]; exact hlen) HWt.out
           refine e4.mono ?_
           clear e1 e2 e3 e4
           rintro e w6 ⟨A61, n61, c61, A62, n62, c62, A63, n63, c63, dp6, ve6, rfl, hwk, hb⟩
           have HWk := Lib.hid (hwk.mono (show w4.heap.size ≤ _ from HBc.out.size))
           have HIc := Lib.hid (HIc.out.ext hb)
           have HBc := Lib.hid (ext_trans HBc.out hb)
           have HS := Lib.hid (HS.out.ext hb)
           try (have HVc := Lib.hid (own_ext HVc.out hb))
           have HJc := Lib.hid (HJc.out.ext hb)
           try (have HKA := Lib.hid (HKA.out.ext hb))
           clear hwk hb
           refine hK.out _ _ ?_ (fun hHeld => ?_)
           · (first | exact ⟨(HS.out.cell 0).trans rfl, (HS.out.cell 1).trans rfl, (HJc.out.cell 0).trans rfl, (HJc.out.cell 1).trans rfl, (HJc.out.cell 2).trans rfl⟩ | go_keep)
           clear hK K
           try simp only [Act.put, List.setIfInBounds_toArray, List.set_cons_zero, List.set_cons_succ]
           refine wpAnyH_take (i := 11) (oi := ⟨some 28, .move (.tmp 39), 121, "sched.go:194", #[⟨10, .data⟩], none⟩) (v := ?v1z11x4) rfl (by kernel_rfl) (by kernel_rfl) (by kernel_rfl) (fun _ _ _ h => h) (Or.inl ⟨by rfl, ?hy1z11x4⟩) (by assumption) ?rest1z11x4
           case hy1z11x4 => (intro w hSw; (try dsimp only at hSw); go_simp; try (with_reducible rfl))
           simp only [Act.put, List.setIfInBounds_toArray, List.set_cons_zero, List.set_cons_succ]
           refine wpAnyH_take (i := 12) (oi := ⟨some 40, .extract (.tmp 28) 0, 120, "sched.go:194", #[⟨11, .data⟩], none⟩) (v := ?v1z12x4) rfl (by kernel_rfl) (by kernel_rfl) (by kernel_rfl) (fun _ _ _ h => h) (Or.inl ⟨by rfl, ?hy1z12x4⟩) (by assumption) ?rest1z12x4
           case hy1z12x4 => (intro w hSw; (try dsimp only at hSw); go_simp; try (with_reducible rfl))
           simp only [Act.put, List.setIfInBounds_toArray, List.set_cons_zero, List.set_cons_succ]
           refine wpAnyH_take (i := 13) (oi := ⟨some 41, .extract (.tmp 28) 1, 28, "sched.go:194", #[⟨11, .data⟩, ⟨15, .gcOnly .lateStores⟩], none⟩) (v := ?v1z13x4) rfl (by kernel_rfl) (by kernel_rfl) (by kernel_rfl) (fun _ _ _ h => h) (Or.inl ⟨by rfl, ?hy1z13x4⟩) (by assumption) ?rest1z13x4
           case hy1z13x4 => (intro w hSw; (try dsimp only at hSw); go_simp; try (with_reducible rfl))
           simp only [Act.put, List.setIfInBounds_toArray, List.set_cons_zero, List.set_cons_succ]
           refine wpAnyH_ready (rs := [15]) (by kernel_rfl) (by simp) ?_
           refine AllReadyH.cons (o := ⟨none, .store 120 (.tmp 12) (.tmp 40), 0, "sched.go:194", #[⟨14, .data⟩, ⟨12, .data⟩, ⟨10, .chain⟩, ⟨0, .phase⟩, ⟨1, .phase⟩, ⟨2, .phase⟩, ⟨3, .phase⟩, ⟨4, .phase⟩, ⟨5, .phase⟩, ⟨6, .phase⟩, ⟨7, .phase⟩, ⟨8, .phase⟩, ⟨9, .phase⟩, ⟨10, .phase⟩, ⟨11, .phase⟩, ⟨12, .phase⟩, ⟨13, .textOnly .lateStores⟩, ⟨14, .phase⟩], none⟩) rfl (fun K hK => ?_) ?_
           ·
             refine step_storeAt rfl 120 (.tmp 12) (.tmp 40) rfl _ _ (by rfl) (by rfl) (run_store_way HKA.out _ _ _ _ _ _ _ _ _ _) ?_
             have HS := Lib.hid (far_way HS.out HNe.out (.slice A61 n61 c61) (.slice A62 n62 c62) (.slice A63 n63 c63) (.int .i64 dp6))
             have HJc := Lib.hid (far_way HJc.out HNj.out (.slice A61 n61 c61) (.slice A62 n62 c62) (.slice A63 n63 c63) (.int .i64 dp6))
             refine hK.out _ _ ?_ (fun hHeld => ?_)
             · (first | exact ⟨(HS.out.cell 0).trans rfl, (HS.out.cell 1).trans rfl, (HJc.out.cell 0).trans rfl, (HJc.out.cell 1).trans rfl, (HJc.out.cell 2).trans rfl⟩ | go_keep)
             clear hK K
             try simp only [Act.put]
             refine wpAnyH_take (i := 16) (oi := ⟨some 13, .assign (.tmp 41), 28, "sched.go:194", #[⟨13, .data⟩, ⟨15, .chain⟩, ⟨0, .phase⟩, ⟨1, .phase⟩, ⟨2, .phase⟩, ⟨3, .phase⟩, ⟨4, .phase⟩, ⟨5, .phase⟩, ⟨6, .phase⟩, ⟨7, .phase⟩, ⟨8, .phase⟩, ⟨9, .phase⟩, ⟨10, .phase⟩, ⟨11, .phase⟩, ⟨12, .phase⟩, ⟨13, .phase⟩, ⟨14, .phase⟩, ⟨15, .phase⟩], none⟩) (v := ?v1z16x4) rfl (by kernel_rfl) (by kernel_rfl) (by kernel_rfl) (fun _ _ _ h => h) (Or.inl ⟨by rfl, ?hy1z16x4⟩) (by assumption) ?rest1z16x4
             case hy1z16x4 => (intro w hSw; (try dsimp only at hSw); go_simp; try (with_reducible rfl))
             simp only [Act.put, List.setIfInBounds_toArray, List.set_cons_zero, List.set_cons_succ]
             refine wpAnyH_done (by kernel_rfl) ?_ _
             go_wp2_with fail
             go_meet
             exact ⟨ab, A62, n62, c62, A63, n63, c63, rfl, Lib.hid ⟨(at_way HKA.out _ _ _ _).1, (at_way2 HKA.out _ _ _ _).1, (at_way HKA.out _ _ _ _).2, HAb.out⟩, Lib.hid (HWk.out.way HKA.out _ _ _ _), Lib.hid (below_way HBc.out HAb.out _ _ _ _)⟩
           exact AllReadyH.nil
         exact AllReadyH.nil
       exact AllReadyH.nil
     refine AllReadyH.cons (o := ⟨some 12, .alloc 120, 0, "sched.go:194", #[], none⟩) rfl (fun K hK => ?_) ?_
     ·
       go_simp
       first
         | (obtain ⟨ab, wA, hab, hwA, hbA, hKA⟩ := way_al w6; rw [hwA, ← hab]; have hsb0 : sb < ab := (by rw [hab]; exact HS.out.lt); have hab4 : w4.heap.size ≤ ab := (by rw [hab]; exact HBc.out.size); clear hab)
         | (obtain ⟨ab, wA, hab, hwA, hbA, hKA⟩ := way_al w5; rw [hwA, ← hab]; have hsb0 : sb < ab := (by rw [hab]; exact HS.out.lt); have hab4 : w4.heap.size ≤ ab := (by rw [hab]; exact HBc.out.size); clear hab)
         | (obtain ⟨ab, wA, hab, hwA, hbA, hKA⟩ := way_al wS; rw [hwA, ← hab]; have hsb0 : sb < ab := (by rw [hab]; exact HS.out.lt); have hab4 : w4.heap.size ≤ ab := (by rw [hab]; exact HBc.out.size); clear hab)
         | (obtain ⟨ab, wA, hab, hwA, hbA, hKA⟩ := way_ald w4; rw [hwA, ← hab]; have hsb0 : sb < ab := (by rw [hab]; exact HS.out.lt); have hab4 : w4.heap.size ≤ ab := (by rw [hab]; exact HBc.out.size); clear hab)
       have HKA := Lib.hid hKA
       have HNj := Lib.hid (show w.heap.size ≠ ab from by have h1 := HJ4.out; omega)
       have HNe := Lib.hid (show sb ≠ ab from by omega)
       have HAb := Lib.hid hab4
       have HIc := Lib.hid (HIc.out.ext hbA)
       have HBc := Lib.hid (ext_trans HBc.out hbA)
       have HS := Lib.hid (HS.out.ext hbA)
       try (have HVc := Lib.hid (own_ext HVc.out hbA))
       have HJc := Lib.hid (HJc.out.ext hbA)
       try (have HH5 := Lib.hid (own_ext HH5.out hbA))
       try (have HWk := Lib.hid (HWk.out.ext hbA))
       clear hwA hKA hbA hab4 hsb0
       refine hK.out _ _ ?_ (fun hHeld => ?_)
       · (first | exact ⟨(HS.out.cell 0).trans rfl, (HS.out.cell 1).trans rfl, (HJc.out.cell 0).trans rfl, (HJc.out.cell 1).trans rfl, (HJc.out.cell 2).trans rfl⟩ | go_keep)
       clear hK K
       try simp only [Act.put, List.setIfInBounds_toArray, List.set_cons_zero, List.set_cons_succ]
       refine wpAnyH_ready (rs := [6]) (by kernel_rfl) (by simp) ?_
       refine AllReadyH.cons (o := ⟨some 35, .buildSlice 33 1 #[(0, .tmp 34)], 33, "sched.go:194", #[⟨5, .data⟩], none⟩) rfl (fun K hK => ?_) ?_
       ·
         go_simp
         first
           | (obtain ⟨gb, wS, hgb, hwS, hbA, hKS⟩ := id_al w5 xb xs xp; rw [hwS, ← hgb]; have HVc := Lib.hid (own_one (x := ⟨xb, xs, xp⟩) hKS (show w4.heap.size ≤ gb from (by rw [hgb]; exact HBc.out.size))); clear hgb)
           | (obtain ⟨gb, wS, hgb, hwS, hbA, hKS⟩ := id_al wA xb xs xp; rw [hwS, ← hgb]; have HVc := Lib.hid (own_one (x := ⟨xb, xs, xp⟩) hKS (show w4.heap.size ≤ gb from (by rw [hgb]; exact HBc.out.size))); clear hgb)
           | (obtain ⟨gb, wS, hgb, hwS, hbA, hKS⟩ := id_ald w4 xb xs xp; rw [hwS, ← hgb]; have HVc := Lib.hid (own_one (x := ⟨xb, xs, xp⟩) hKS (show w4.heap.size ≤ gb from (by rw [hgb]; exact HBc.out.size))); clear hgb)
         have HIc := Lib.hid (HIc.out.ext hbA)
         have HBc := Lib.hid (ext_trans HBc.out hbA)
         have HS := Lib.hid (HS.out.ext hbA)
         have HJc := Lib.hid (HJc.out.ext hbA)
         try (have HKA := Lib.hid (HKA.out.ext hbA))
         try (have HH5 := Lib.hid (own_ext HH5.out hbA))
         clear hwS hKS hbA
         refine hK.out _ _ ?_ (fun hHeld => ?_)
         · (first | exact ⟨(HS.out.cell 0).trans rfl, (HS.out.cell 1).trans rfl, (HJc.out.cell 0).trans rfl, (HJc.out.cell 1).trans rfl, (HJc.out.cell 2).trans rfl⟩ | go_keep)
         clear hK K
         try simp only [Act.put, List.setIfInBounds_toArray, List.set_cons_zero, List.set_cons_succ]
         refine wpAnyH_ready (rs := [10]) (by kernel_rfl) (by simp) ?_
         refine AllReadyH.cons (o := ⟨some 39, .call { callee := .value (.func 62), args := #[.tmp 32, .tmp 35, .tmp 36, .tmp 38], argTypes := #[24, 33, 3, 33] }, 121, "sched.go:194", #[⟨3, .data⟩, ⟨6, .data⟩, ⟨7, .data⟩, ⟨9, .data⟩, ⟨9, .chain⟩], none⟩) rfl (fun K hK => ?_) ?_
         ·
           go_simp
           go_at_call 62
           have e1 := HAo.out.ext (ext_trans HB.out HBc.out)
           have e2 := RdS.of_own HVc.out (fun k hk => (HVc.out.lt k hk).2)
           have e3 := RdS.of_own HH5.out (fun k hk => (HH5.out.lt k hk).2)
           have e4 := walk_u B p A c mark (sortB (s.holds.map (·.1))) [(⟨xb, xs, xp⟩ : Id3)] (some ⟨gb, 0, none⟩) A3 1 c3 _ HCk.out e1 (by have h1 := HB0.out; have h2 := HB.out.size; have h3 := HBc.out.size; omega) e2 e3 HNd.out (by simp) (by have h1 := HHl.out; unfold heldL at h1; rw [h1]; exact hlen) HWt.out
           refine e4.mono ?_
           clear e1 e2 e3 e4
           rintro e w6 ⟨A61, n61, c61, A62, n62, c62, A63, n63, c63, dp6, ve6, rfl, hwk, hb⟩
           have HWk := Lib.hid (hwk.mono (show w4.heap.size ≤ _ from HBc.out.size))
           have HIc := Lib.hid (HIc.out.ext hb)
           have HBc := Lib.hid (ext_trans HBc.out hb)
           have HS := Lib.hid (HS.out.ext hb)
           try (have HVc := Lib.hid (own_ext HVc.out hb))
           have HJc := Lib.hid (HJc.out.ext hb)
           try (have HKA := Lib.hid (HKA.out.ext hb))
           clear hwk hb
           refine hK.out _ _ ?_ (fun hHeld => ?_)
           · (first | exact ⟨(HS.out.cell 0).trans rfl, (HS.out.cell 1).trans rfl, (HJc.out.cell 0).trans rfl, (HJc.out.cell 1).trans rfl, (HJc.out.cell 2).trans rfl⟩ | go_keep)
           clear hK K
           try simp only [Act.put, List.setIfInBounds_toArray, List.set_cons_zero, List.set_cons_succ]
           refine wpAnyH_take (i := 11) (oi := ⟨some 28, .move (.tmp 39), 121, "sched.go:194", #[⟨10, .data⟩], none⟩) (v := ?v1z11x5) rfl (by kernel_rfl) (by kernel_rfl) (by kernel_rfl) (fun _ _ _ h => h) (Or.inl ⟨by rfl, ?hy1z11x5⟩) (by assumption) ?rest1z11x5
           case hy1z11x5 => (intro w hSw; (try dsimp only at hSw); go_simp; try (with_reducible rfl))
           simp only [Act.put, List.setIfInBounds_toArray, List.set_cons_zero, List.set_cons_succ]
           refine wpAnyH_take (i := 12) (oi := ⟨some 40, .extract (.tmp 28) 0, 120, "sched.go:194", #[⟨11, .data⟩], none⟩) (v := ?v1z12x5) rfl (by kernel_rfl) (by kernel_rfl) (by kernel_rfl) (fun _ _ _ h => h) (Or.inl ⟨by rfl, ?hy1z12x5⟩) (by assumption) ?rest1z12x5
           case hy1z12x5 => (intro w hSw; (try dsimp only at hSw); go_simp; try (with_reducible rfl))
           simp only [Act.put, List.setIfInBounds_toArray, List.set_cons_zero, List.set_cons_succ]
           refine wpAnyH_take (i := 13) (oi := ⟨some 41, .extract (.tmp 28) 1, 28, "sched.go:194", #[⟨11, .data⟩, ⟨15, .gcOnly .lateStores⟩], none⟩) (v := ?v1z13x5) rfl (by kernel_rfl) (by kernel_rfl) (by kernel_rfl) (fun _ _ _ h => h) (Or.inl ⟨by rfl, ?hy1z13x5⟩) (by assumption) ?rest1z13x5
           case hy1z13x5 => (intro w hSw; (try dsimp only at hSw); go_simp; try (with_reducible rfl))
           simp only [Act.put, List.setIfInBounds_toArray, List.set_cons_zero, List.set_cons_succ]
           refine wpAnyH_ready (rs := [15]) (by kernel_rfl) (by simp) ?_
           refine AllReadyH.cons (o := ⟨none, .store 120 (.tmp 12) (.tmp 40), 0, "sched.go:194", #[⟨14, .data⟩, ⟨12, .data⟩, ⟨10, .chain⟩, ⟨0, .phase⟩, ⟨1, .phase⟩, ⟨2, .phase⟩, ⟨3, .phase⟩, ⟨4, .phase⟩, ⟨5, .phase⟩, ⟨6, .phase⟩, ⟨7, .phase⟩, ⟨8, .phase⟩, ⟨9, .phase⟩, ⟨10, .phase⟩, ⟨11, .phase⟩, ⟨12, .phase⟩, ⟨13, .textOnly .lateStores⟩, ⟨14, .phase⟩], none⟩) rfl (fun K hK => ?_) ?_
           ·
             refine step_storeAt rfl 120 (.tmp 12) (.tmp 40) rfl _ _ (by rfl) (by rfl) (run_store_way HKA.out _ _ _ _ _ _ _ _ _ _) ?_
             have HS := Lib.hid (far_way HS.out HNe.out (.slice A61 n61 c61) (.slice A62 n62 c62) (.slice A63 n63 c63) (.int .i64 dp6))
             have HJc := Lib.hid (far_way HJc.out HNj.out (.slice A61 n61 c61) (.slice A62 n62 c62) (.slice A63 n63 c63) (.int .i64 dp6))
             refine hK.out _ _ ?_ (fun hHeld => ?_)
             · (first | exact ⟨(HS.out.cell 0).trans rfl, (HS.out.cell 1).trans rfl, (HJc.out.cell 0).trans rfl, (HJc.out.cell 1).trans rfl, (HJc.out.cell 2).trans rfl⟩ | go_keep)
             clear hK K
             try simp only [Act.put]
             refine wpAnyH_take (i := 16) (oi := ⟨some 13, .assign (.tmp 41), 28, "sched.go:194", #[⟨13, .data⟩, ⟨15, .chain⟩, ⟨0, .phase⟩, ⟨1, .phase⟩, ⟨2, .phase⟩, ⟨3, .phase⟩, ⟨4, .phase⟩, ⟨5, .phase⟩, ⟨6, .phase⟩, ⟨7, .phase⟩, ⟨8, .phase⟩, ⟨9, .phase⟩, ⟨10, .phase⟩, ⟨11, .phase⟩, ⟨12, .phase⟩, ⟨13, .phase⟩, ⟨14, .phase⟩, ⟨15, .phase⟩], none⟩) (v := ?v1z16x5) rfl (by kernel_rfl) (by kernel_rfl) (by kernel_rfl) (fun _ _ _ h => h) (Or.inl ⟨by rfl, ?hy1z16x5⟩) (by assumption) ?rest1z16x5
             case hy1z16x5 => (intro w hSw; (try dsimp only at hSw); go_simp; try (with_reducible rfl))
             simp only [Act.put, List.setIfInBounds_toArray, List.set_cons_zero, List.set_cons_succ]
             refine wpAnyH_done (by kernel_rfl) ?_ _
             go_wp2_with fail
             go_meet
             exact ⟨ab, A62, n62, c62, A63, n63, c63, rfl, Lib.hid ⟨(at_way HKA.out _ _ _ _).1, (at_way2 HKA.out _ _ _ _).1, (at_way HKA.out _ _ _ _).2, HAb.out⟩, Lib.hid (HWk.out.way HKA.out _ _ _ _), Lib.hid (below_way HBc.out HAb.out _ _ _ _)⟩
           exact AllReadyH.nil
         exact AllReadyH.nil
       exact AllReadyH.nil
     exact AllReadyH.nil
   refine AllReadyH.cons (o := ⟨some 12, .alloc 120, 0, "sched.go:194", #[], none⟩) rfl (fun K hK => ?_) ?_
   ·
     go_simp
     first
       | (obtain ⟨ab, wA, hab, hwA, hbA, hKA⟩ := way_al w6; rw [hwA, ← hab]; have hsb0 : sb < ab := (by rw [hab]; exact HS.out.lt); have hab4 : w4.heap.size ≤ ab := (by rw [hab]; exact HBc.out.size); clear hab)
       | (obtain ⟨ab, wA, hab, hwA, hbA, hKA⟩ := way_al w5; rw [hwA, ← hab]; have hsb0 : sb < ab := (by rw [hab]; exact HS.out.lt); have hab4 : w4.heap.size ≤ ab := (by rw [hab]; exact HBc.out.size); clear hab)
       | (obtain ⟨ab, wA, hab, hwA, hbA, hKA⟩ := way_al wS; rw [hwA, ← hab]; have hsb0 : sb < ab := (by rw [hab]; exact HS.out.lt); have hab4 : w4.heap.size ≤ ab := (by rw [hab]; exact HBc.out.size); clear hab)
       | (obtain ⟨ab, wA, hab, hwA, hbA, hKA⟩ := way_ald w4; rw [hwA, ← hab]; have hsb0 : sb < ab := (by rw [hab]; exact HS.out.lt); have hab4 : w4.heap.size ≤ ab := (by rw [hab]; exact HBc.out.size); clear hab)
     have HKA := Lib.hid hKA
     have HNj := Lib.hid (show w.heap.size ≠ ab from by have h1 := HJ4.out; omega)
     have HNe := Lib.hid (show sb ≠ ab from by omega)
     have HAb := Lib.hid hab4
     have HIc := Lib.hid (HIc.out.ext hbA)
     have HBc := Lib.hid (ext_trans HBc.out hbA)
     have HS := Lib.hid (HS.out.ext hbA)
     try (have HVc := Lib.hid (own_ext HVc.out hbA))
     have HJc := Lib.hid (HJc.out.ext hbA)
     try (have HH5 := Lib.hid (own_ext HH5.out hbA))
     try (have HWk := Lib.hid (HWk.out.ext hbA))
     clear hwA hKA hbA hab4 hsb0
     refine hK.out _ _ ?_ (fun hHeld => ?_)
     · (first | exact ⟨(HS.out.cell 0).trans rfl, (HS.out.cell 1).trans rfl, (HJc.out.cell 0).trans rfl, (HJc.out.cell 1).trans rfl, (HJc.out.cell 2).trans rfl⟩ | go_keep)
     clear hK K
     try simp only [Act.put, List.setIfInBounds_toArray, List.set_cons_zero, List.set_cons_succ]
     refine wpAnyH_ready (rs := [6, 9]) (by kernel_rfl) (by simp) ?_
     refine AllReadyH.cons (o := ⟨some 35, .buildSlice 33 1 #[(0, .tmp 34)], 33, "sched.go:194", #[⟨5, .data⟩], none⟩) rfl (fun K hK => ?_) ?_
     ·
       go_simp
       first
         | (obtain ⟨gb, wS, hgb, hwS, hbA, hKS⟩ := id_al w5 xb xs xp; rw [hwS, ← hgb]; have HVc := Lib.hid (own_one (x := ⟨xb, xs, xp⟩) hKS (show w4.heap.size ≤ gb from (by rw [hgb]; exact HBc.out.size))); clear hgb)
         | (obtain ⟨gb, wS, hgb, hwS, hbA, hKS⟩ := id_al wA xb xs xp; rw [hwS, ← hgb]; have HVc := Lib.hid (own_one (x := ⟨xb, xs, xp⟩) hKS (show w4.heap.size ≤ gb from (by rw [hgb]; exact HBc.out.size))); clear hgb)
         | (obtain ⟨gb, wS, hgb, hwS, hbA, hKS⟩ := id_ald w4 xb xs xp; rw [hwS, ← hgb]; have HVc := Lib.hid (own_one (x := ⟨xb, xs, xp⟩) hKS (show w4.heap.size ≤ gb from (by rw [hgb]; exact HBc.out.size))); clear hgb)
       have HIc := Lib.hid (HIc.out.ext hbA)
       have HBc := Lib.hid (ext_trans HBc.out hbA)
       have HS := Lib.hid (HS.out.ext hbA)
       have HJc := Lib.hid (HJc.out.ext hbA)
       try (have HKA := Lib.hid (HKA.out.ext hbA))
       try (have HH5 := Lib.hid (own_ext HH5.out hbA))
       clear hwS hKS hbA
       refine hK.out _ _ ?_ (fun hHeld => ?_)
       · (first | exact ⟨(HS.out.cell 0).trans rfl, (HS.out.cell 1).trans rfl, (HJc.out.cell 0).trans rfl, (HJc.out.cell 1).trans rfl, (HJc.out.cell 2).trans rfl⟩ | go_keep)
       clear hK K
       try simp only [Act.put, List.setIfInBounds_toArray, List.set_cons_zero, List.set_cons_succ]
       refine wpAnyH_ready (rs := [9]) (by kernel_rfl) (by simp) ?_
       refine AllReadyH.cons (o := ⟨some 38, .call { callee := .value (.func 63), args := #[.tmp 37], argTypes := #[26] }, 33, "sched.go:194", #[⟨8, .data⟩], none⟩) rfl (fun K hK => ?_) ?_
       ·
         go_simp
         go_at_call 63
         refine (HHd.out _ (by first | exact HIc.out | exact HIc.out.ext (below_drewN (Below.refl _ _) 1))).mono ?_
         rintro e w5 ⟨A3, c3, l3, rfl, h1, h2, hown, hb⟩
         obtain rfl := sortB_eq h1 h2
         try (have hb := ext_trans (below_drewN (Below.refl w4.heap.size w4) 1) hb)
         have HIc := Lib.hid (HIc.out.ext hb)
         have HBc := Lib.hid (ext_trans HBc.out hb)
         have HS := Lib.hid (HS.out.ext hb)
         try (have HVc := Lib.hid (own_ext HVc.out hb))
         have HJc := Lib.hid (HJc.out.ext hb)
         try (have HKA := Lib.hid (HKA.out.ext hb))
         have HH5 := Lib.hid hown
         clear h1 h2 hown hb
         refine hK.out _ _ ?_ (fun hHeld => ?_)
         · (first | exact ⟨(HS.out.cell 0).trans rfl, (HS.out.cell 1).trans rfl, (HJc.out.cell 0).trans rfl, (HJc.out.cell 1).trans rfl, (HJc.out.cell 2).trans rfl⟩ | go_keep)
         clear hK K
         try simp only [Act.put, List.setIfInBounds_toArray, List.set_cons_zero, List.set_cons_succ]
         refine wpAnyH_ready (rs := [10]) (by kernel_rfl) (by simp) ?_
         refine AllReadyH.cons (o := ⟨some 39, .call { callee := .value (.func 62), args := #[.tmp 32, .tmp 35, .tmp 36, .tmp 38], argTypes := #[24, 33, 3, 33] }, 121, "sched.go:194", #[⟨3, .data⟩, ⟨6, .data⟩, ⟨7, .data⟩, ⟨9, .data⟩, ⟨9, .chain⟩], none⟩) rfl (fun K hK => ?_) ?_
         ·
           go_simp
           go_at_call 62
           have e1 := HAo.out.ext (ext_trans HB.out HBc.out)
           have e2 := RdS.of_own HVc.out (fun k hk => (HVc.out.lt k hk).2)
           have e3 := RdS.of_own HH5.out (fun k hk => (HH5.out.lt k hk).2)
           have e4 := walk_u B p A c mark (sortB (s.holds.map (·.1))) [(⟨xb, xs, xp⟩ : Id3)] (some ⟨gb, 0, none⟩) A3 1 c3 _ HCk.out e1 (by have h1 := HB0.out; have h2 := HB.out.size; have h3 := HBc.out.size; omega) e2 e3 HNd.out (by simp) (by have h1 := HHl.out; unfold heldL at h1; rw [h1]; exact hlen) HWt.out
           refine e4.mono ?_
           clear e1 e2 e3 e4
           rintro e w6 ⟨A61, n61, c61, A62, n62, c62, A63, n63, c63, dp6, ve6, rfl, hwk, hb⟩
           have HWk := Lib.hid (hwk.mono (show w4.heap.size ≤ _ from HBc.out.size))
           have HIc := Lib.hid (HIc.out.ext hb)
           have HBc := Lib.hid (ext_trans HBc.out hb)
           have HS := Lib.hid (HS.out.ext hb)
           try (have HVc := Lib.hid (own_ext HVc.out hb))
           have HJc := Lib.hid (HJc.out.ext hb)
           try (have HKA := Lib.hid (HKA.out.ext hb))
           clear hwk hb
           refine hK.out _ _ ?_ (fun hHeld => ?_)
           · (first | exact ⟨(HS.out.cell 0).trans rfl, (HS.out.cell 1).trans rfl, (HJc.out.cell 0).trans rfl, (HJc.out.cell 1).trans rfl, (HJc.out.cell 2).trans rfl⟩ | go_keep)
           clear hK K
           try simp only [Act.put, List.setIfInBounds_toArray, List.set_cons_zero, List.set_cons_succ]
           refine wpAnyH_take (i := 11) (oi := ⟨some 28, .move (.tmp 39), 121, "sched.go:194", #[⟨10, .data⟩], none⟩) (v := ?v1z11x6) rfl (by kernel_rfl) (by kernel_rfl) (by kernel_rfl) (fun _ _ _ h => h) (Or.inl ⟨by rfl, ?hy1z11x6⟩) (by assumption) ?rest1z11x6
           case hy1z11x6 => (intro w hSw; (try dsimp only at hSw); go_simp; try (with_reducible rfl))
           simp only [Act.put, List.setIfInBounds_toArray, List.set_cons_zero, List.set_cons_succ]
           refine wpAnyH_take (i := 12) (oi := ⟨some 40, .extract (.tmp 28) 0, 120, "sched.go:194", #[⟨11, .data⟩], none⟩) (v := ?v1z12x6) rfl (by kernel_rfl) (by kernel_rfl) (by kernel_rfl) (fun _ _ _ h => h) (Or.inl ⟨by rfl, ?hy1z12x6⟩) (by assumption) ?rest1z12x6
           case hy1z12x6 => (intro w hSw; (try dsimp only at hSw); go_simp; try (with_reducible rfl))
           simp only [Act.put, List.setIfInBounds_toArray, List.set_cons_zero, List.set_cons_succ]
           refine wpAnyH_take (i := 13) (oi := ⟨some 41, .extract (.tmp 28) 1, 28, "sched.go:194", #[⟨11, .data⟩, ⟨15, .gcOnly .lateStores⟩], none⟩) (v := ?v1z13x6) rfl (by kernel_rfl) (by kernel_rfl) (by kernel_rfl) (fun _ _ _ h => h) (Or.inl ⟨by rfl, ?hy1z13x6⟩) (by assumption) ?rest1z13x6
           case hy1z13x6 => (intro w hSw; (try dsimp only at hSw); go_simp; try (with_reducible rfl))
           simp only [Act.put, List.setIfInBounds_toArray, List.set_cons_zero, List.set_cons_succ]
           refine wpAnyH_ready (rs := [15]) (by kernel_rfl) (by simp) ?_
           refine AllReadyH.cons (o := ⟨none, .store 120 (.tmp 12) (.tmp 40), 0, "sched.go:194", #[⟨14, .data⟩, ⟨12, .data⟩, ⟨10, .chain⟩, ⟨0, .phase⟩, ⟨1, .phase⟩, ⟨2, .phase⟩, ⟨3, .phase⟩, ⟨4, .phase⟩, ⟨5, .phase⟩, ⟨6, .phase⟩, ⟨7, .phase⟩, ⟨8, .phase⟩, ⟨9, .phase⟩, ⟨10, .phase⟩, ⟨11, .phase⟩, ⟨12, .phase⟩, ⟨13, .textOnly .lateStores⟩, ⟨14, .phase⟩], none⟩) rfl (fun K hK => ?_) ?_
           ·
             refine step_storeAt rfl 120 (.tmp 12) (.tmp 40) rfl _ _ (by rfl) (by rfl) (run_store_way HKA.out _ _ _ _ _ _ _ _ _ _) ?_
             have HS := Lib.hid (far_way HS.out HNe.out (.slice A61 n61 c61) (.slice A62 n62 c62) (.slice A63 n63 c63) (.int .i64 dp6))
             have HJc := Lib.hid (far_way HJc.out HNj.out (.slice A61 n61 c61) (.slice A62 n62 c62) (.slice A63 n63 c63) (.int .i64 dp6))
             refine hK.out _ _ ?_ (fun hHeld => ?_)
             · (first | exact ⟨(HS.out.cell 0).trans rfl, (HS.out.cell 1).trans rfl, (HJc.out.cell 0).trans rfl, (HJc.out.cell 1).trans rfl, (HJc.out.cell 2).trans rfl⟩ | go_keep)
             clear hK K
             try simp only [Act.put]
             refine wpAnyH_take (i := 16) (oi := ⟨some 13, .assign (.tmp 41), 28, "sched.go:194", #[⟨13, .data⟩, ⟨15, .chain⟩, ⟨0, .phase⟩, ⟨1, .phase⟩, ⟨2, .phase⟩, ⟨3, .phase⟩, ⟨4, .phase⟩, ⟨5, .phase⟩, ⟨6, .phase⟩, ⟨7, .phase⟩, ⟨8, .phase⟩, ⟨9, .phase⟩, ⟨10, .phase⟩, ⟨11, .phase⟩, ⟨12, .phase⟩, ⟨13, .phase⟩, ⟨14, .phase⟩, ⟨15, .phase⟩], none⟩) (v := ?v1z16x6) rfl (by kernel_rfl) (by kernel_rfl) (by kernel_rfl) (fun _ _ _ h => h) (Or.inl ⟨by rfl, ?hy1z16x6⟩) (by assumption) ?rest1z16x6
             case hy1z16x6 => (intro w hSw; (try dsimp only at hSw); go_simp; try (with_reducible rfl))
             simp only [Act.put, List.setIfInBounds_toArray, List.set_cons_zero, List.set_cons_succ]
             refine wpAnyH_done (by kernel_rfl) ?_ _
             go_wp2_with fail
             go_meet
             exact ⟨ab, A62, n62, c62, A63, n63, c63, rfl, Lib.hid ⟨(at_way HKA.out _ _ _ _).1, (at_way2 HKA.out _ _ _ _).1, (at_way HKA.out _ _ _ _).2, HAb.out⟩, Lib.hid (HWk.out.way HKA.out _ _ _ _), Lib.hid (below_way HBc.out HAb.out _ _ _ _)⟩
           exact AllReadyH.nil
         exact AllReadyH.nil
       exact AllReadyH.nil
     refine AllReadyH.cons (o := ⟨some 38, .call { callee := .value (.func 63), args := #[.tmp 37], argTypes := #[26] }, 33, "sched.go:194", #[⟨8, .data⟩], none⟩) rfl (fun K hK => ?_) ?_
     ·
       go_simp
       go_at_call 63
       refine (HHd.out _ (by first | exact HIc.out | exact HIc.out.ext (below_drewN (Below.refl _ _) 1))).mono ?_
       rintro e w5 ⟨A3, c3, l3, rfl, h1, h2, hown, hb⟩
       obtain rfl := sortB_eq h1 h2
       try (have hb := ext_trans (below_drewN (Below.refl w4.heap.size w4) 1) hb)
       have HIc := Lib.hid (HIc.out.ext hb)
       have HBc := Lib.hid (ext_trans HBc.out hb)
       have HS := Lib.hid (HS.out.ext hb)
       try (have HVc := Lib.hid (own_ext HVc.out hb))
       have HJc := Lib.hid (HJc.out.ext hb)
       try (have HKA := Lib.hid (HKA.out.ext hb))
       have HH5 := Lib.hid hown
       clear h1 h2 hown hb
       refine hK.out _ _ ?_ (fun hHeld => ?_)
       · (first | exact ⟨(HS.out.cell 0).trans rfl, (HS.out.cell 1).trans rfl, (HJc.out.cell 0).trans rfl, (HJc.out.cell 1).trans rfl, (HJc.out.cell 2).trans rfl⟩ | go_keep)
       clear hK K
       try simp only [Act.put, List.setIfInBounds_toArray, List.set_cons_zero, List.set_cons_succ]
       refine wpAnyH_ready (rs := [6]) (by kernel_rfl) (by simp) ?_
       refine AllReadyH.cons (o := ⟨some 35, .buildSlice 33 1 #[(0, .tmp 34)], 33, "sched.go:194", #[⟨5, .data⟩], none⟩) rfl (fun K hK => ?_) ?_
       ·
         go_simp
         first
           | (obtain ⟨gb, wS, hgb, hwS, hbA, hKS⟩ := id_al w5 xb xs xp; rw [hwS, ← hgb]; have HVc := Lib.hid (own_one (x := ⟨xb, xs, xp⟩) hKS (show w4.heap.size ≤ gb from (by rw [hgb]; exact HBc.out.size))); clear hgb)
           | (obtain ⟨gb, wS, hgb, hwS, hbA, hKS⟩ := id_al wA xb xs xp; rw [hwS, ← hgb]; have HVc := Lib.hid (own_one (x := ⟨xb, xs, xp⟩) hKS (show w4.heap.size ≤ gb from (by rw [hgb]; exact HBc.out.size))); clear hgb)
           | (obtain ⟨gb, wS, hgb, hwS, hbA, hKS⟩ := id_ald w4 xb xs xp; rw [hwS, ← hgb]; have HVc := Lib.hid (own_one (x := ⟨xb, xs, xp⟩) hKS (show w4.heap.size ≤ gb from (by rw [hgb]; exact HBc.out.size))); clear hgb)
         have HIc := Lib.hid (HIc.out.ext hbA)
         have HBc := Lib.hid (ext_trans HBc.out hbA)
         have HS := Lib.hid (HS.out.ext hbA)
         have HJc := Lib.hid (HJc.out.ext hbA)
         try (have HKA := Lib.hid (HKA.out.ext hbA))
         try (have HH5 := Lib.hid (own_ext HH5.out hbA))
         clear hwS hKS hbA
         refine hK.out _ _ ?_ (fun hHeld => ?_)
         · (first | exact ⟨(HS.out.cell 0).trans rfl, (HS.out.cell 1).trans rfl, (HJc.out.cell 0).trans rfl, (HJc.out.cell 1).trans rfl, (HJc.out.cell 2).trans rfl⟩ | go_keep)
         clear hK K
         try simp only [Act.put, List.setIfInBounds_toArray, List.set_cons_zero, List.set_cons_succ]
         refine wpAnyH_ready (rs := [10]) (by kernel_rfl) (by simp) ?_
         refine AllReadyH.cons (o := ⟨some 39, .call { callee := .value (.func 62), args := #[.tmp 32, .tmp 35, .tmp 36, .tmp 38], argTypes := #[24, 33, 3, 33] }, 121, "sched.go:194", #[⟨3, .data⟩, ⟨6, .data⟩, ⟨7, .data⟩, ⟨9, .data⟩, ⟨9, .chain⟩], none⟩) rfl (fun K hK => ?_) ?_
         ·
           go_simp
           go_at_call 62
           have e1 := HAo.out.ext (ext_trans HB.out HBc.out)
           have e2 := RdS.of_own HVc.out (fun k hk => (HVc.out.lt k hk).2)
           have e3 := RdS.of_own HH5.out (fun k hk => (HH5.out.lt k hk).2)
           have e4 := walk_u B p A c mark (sortB (s.holds.map (·.1))) [(⟨xb, xs, xp⟩ : Id3)] (some ⟨gb, 0, none⟩) A3 1 c3 _ HCk.out e1 (by have h1 := HB0.out; have h2 := HB.out.size; have h3 := HBc.out.size; omega) e2 e3 HNd.out (by simp) (by have h1 := HHl.out; unfold heldL at h1; rw [h1]; exact hlen) HWt.out
           refine e4.mono ?_
           clear e1 e2 e3 e4
           rintro e w6 ⟨A61, n61, c61, A62, n62, c62, A63, n63, c63, dp6, ve6, rfl, hwk, hb⟩
           have HWk := Lib.hid (hwk.mono (show w4.heap.size ≤ _ from HBc.out.size))
           have HIc := Lib.hid (HIc.out.ext hb)
           have HBc := Lib.hid (ext_trans HBc.out hb)
           have HS := Lib.hid (HS.out.ext hb)
           try (have HVc := Lib.hid (own_ext HVc.out hb))
           have HJc := Lib.hid (HJc.out.ext hb)
           try (have HKA := Lib.hid (HKA.out.ext hb))
           clear hwk hb
           refine hK.out _ _ ?_ (fun hHeld => ?_)
           · (first | exact ⟨(HS.out.cell 0).trans rfl, (HS.out.cell 1).trans rfl, (HJc.out.cell 0).trans rfl, (HJc.out.cell 1).trans rfl, (HJc.out.cell 2).trans rfl⟩ | go_keep)
           clear hK K
           try simp only [Act.put, List.setIfInBounds_toArray, List.set_cons_zero, List.set_cons_succ]
           refine wpAnyH_take (i := 11) (oi := ⟨some 28, .move (.tmp 39), 121, "sched.go:194", #[⟨10, .data⟩], none⟩) (v := ?v1z11x7) rfl (by kernel_rfl) (by kernel_rfl) (by kernel_rfl) (fun _ _ _ h => h) (Or.inl ⟨by rfl, ?hy1z11x7⟩) (by assumption) ?rest1z11x7
           case hy1z11x7 => (intro w hSw; (try dsimp only at hSw); go_simp; try (with_reducible rfl))
           simp only [Act.put, List.setIfInBounds_toArray, List.set_cons_zero, List.set_cons_succ]
           refine wpAnyH_take (i := 12) (oi := ⟨some 40, .extract (.tmp 28) 0, 120, "sched.go:194", #[⟨11, .data⟩], none⟩) (v := ?v1z12x7) rfl (by kernel_rfl) (by kernel_rfl) (by kernel_rfl) (fun _ _ _ h => h) (Or.inl ⟨by rfl, ?hy1z12x7⟩) (by assumption) ?rest1z12x7
           case hy1z12x7 => (intro w hSw; (try dsimp only at hSw); go_simp; try (with_reducible rfl))
           simp only [Act.put, List.setIfInBounds_toArray, List.set_cons_zero, List.set_cons_succ]
           refine wpAnyH_take (i := 13) (oi := ⟨some 41, .extract (.tmp 28) 1, 28, "sched.go:194", #[⟨11, .data⟩, ⟨15, .gcOnly .lateStores⟩], none⟩) (v := ?v1z13x7) rfl (by kernel_rfl) (by kernel_rfl) (by kernel_rfl) (fun _ _ _ h => h) (Or.inl ⟨by rfl, ?hy1z13x7⟩) (by assumption) ?rest1z13x7
           case hy1z13x7 => (intro w hSw; (try dsimp only at hSw); go_simp; try (with_reducible rfl))
           simp only [Act.put, List.setIfInBounds_toArray, List.set_cons_zero, List.set_cons_succ]
           refine wpAnyH_ready (rs := [15]) (by kernel_rfl) (by simp) ?_
           refine AllReadyH.cons (o := ⟨none, .store 120 (.tmp 12) (.tmp 40), 0, "sched.go:194", #[⟨14, .data⟩, ⟨12, .data⟩, ⟨10, .chain⟩, ⟨0, .phase⟩, ⟨1, .phase⟩, ⟨2, .phase⟩, ⟨3, .phase⟩, ⟨4, .phase⟩, ⟨5, .phase⟩, ⟨6, .phase⟩, ⟨7, .phase⟩, ⟨8, .phase⟩, ⟨9, .phase⟩, ⟨10, .phase⟩, ⟨11, .phase⟩, ⟨12, .phase⟩, ⟨13, .textOnly .lateStores⟩, ⟨14, .phase⟩], none⟩) rfl (fun K hK => ?_) ?_
           ·
             refine step_storeAt rfl 120 (.tmp 12) (.tmp 40) rfl _ _ (by rfl) (by rfl) (run_store_way HKA.out _ _ _ _ _ _ _ _ _ _) ?_
             have HS := Lib.hid (far_way HS.out HNe.out (.slice A61 n61 c61) (.slice A62 n62 c62) (.slice A63 n63 c63) (.int .i64 dp6))
             have HJc := Lib.hid (far_way HJc.out HNj.out (.slice A61 n61 c61) (.slice A62 n62 c62) (.slice A63 n63 c63) (.int .i64 dp6))
             refine hK.out _ _ ?_ (fun hHeld => ?_)
             · (first | exact ⟨(HS.out.cell 0).trans rfl, (HS.out.cell 1).trans rfl, (HJc.out.cell 0).trans rfl, (HJc.out.cell 1).trans rfl, (HJc.out.cell 2).trans rfl⟩ | go_keep)
             clear hK K
             try simp only [Act.put]
             refine wpAnyH_take (i := 16) (oi := ⟨some 13, .assign (.tmp 41), 28, "sched.go:194", #[⟨13, .data⟩, ⟨15, .chain⟩, ⟨0, .phase⟩, ⟨1, .phase⟩, ⟨2, .phase⟩, ⟨3, .phase⟩, ⟨4, .phase⟩, ⟨5, .phase⟩, ⟨6, .phase⟩, ⟨7, .phase⟩, ⟨8, .phase⟩, ⟨9, .phase⟩, ⟨10, .phase⟩, ⟨11, .phase⟩, ⟨12, .phase⟩, ⟨13, .phase⟩, ⟨14, .phase⟩, ⟨15, .phase⟩], none⟩) (v := ?v1z16x7) rfl (by kernel_rfl) (by kernel_rfl) (by kernel_rfl) (fun _ _ _ h => h) (Or.inl ⟨by rfl, ?hy1z16x7⟩) (by assumption) ?rest1z16x7
             case hy1z16x7 => (intro w hSw; (try dsimp only at hSw); go_simp; try (with_reducible rfl))
             simp only [Act.put, List.setIfInBounds_toArray, List.set_cons_zero, List.set_cons_succ]
             refine wpAnyH_done (by kernel_rfl) ?_ _
             go_wp2_with fail
             go_meet
             exact ⟨ab, A62, n62, c62, A63, n63, c63, rfl, Lib.hid ⟨(at_way HKA.out _ _ _ _).1, (at_way2 HKA.out _ _ _ _).1, (at_way HKA.out _ _ _ _).2, HAb.out⟩, Lib.hid (HWk.out.way HKA.out _ _ _ _), Lib.hid (below_way HBc.out HAb.out _ _ _ _)⟩
           exact AllReadyH.nil
         exact AllReadyH.nil
       exact AllReadyH.nil
     exact AllReadyH.nil
   exact AllReadyH.nil
   --@R8AEND
  case rest =>
   obtain ⟨ab, A1, n1, c1, A2, n2, c2, rfl, HK0, HW0, HB6⟩ := hcut
   cases u with
   | true =>
     obtain ⟨wd, hwd⟩ : ∃ wd, wd = walkD p mark (sortB (s.holds.map (·.1))) [(⟨xb, xs, xp⟩ : Id3)] := ⟨_, rfl⟩
     obtain ⟨hv0, hn1, hn2, ho1, ho2⟩ := HW0.out.1 HU.out.symm
     rw [← hwd] at hn1 hn2 ho1 ho2
     obtain rfl := hv0
     subst hn1 hn2
     have HK := Lib.hid (show wc.cell? ⟨ab, 2, none⟩ = some (.slice A2 wd.used.length c2) ∧ ab < wc.heap.size ∧ w4.heap.size ≤ ab from ⟨HK0.out.2.1, HK0.out.2.2.1, HK0.out.2.2.2⟩)
     have HUs := Lib.hid ho2
     clear ho1 ho2 HK0 HW0
     obtain ⟨w7, rfl⟩ : ∃ w7 : World, w7 = wc := ⟨_, rfl⟩
     have HB7 := Lib.hid (ext_trans HB.out HB6.out)
     have HM7 := Lib.hid (HM4.out.ext HB6.out)
     have HR7 := Lib.hid (HR4.out.ext HB6.out)
     have HX7 := Lib.hid (HX4.out.ext HB6.out)
     have HJ7 := Lib.hid (HJ.out.ext HB6.out)
     have hcan : CanD p mark ⟨xb, xs, xp⟩ := begin_can (beginsB_yes HU.out.symm _ (List.mem_singleton.2 rfl)) (HWt.out _ (List.mem_singleton.2 rfl))
     have HOr := Lib.hid (show ordL p s mark deep (⟨⟨xb, xs, xp⟩, sv⟩ : Jb).id = ordHs p s mark (if deep then wd.used else needsX p ⟨xb, xs, xp⟩) from by
      unfold ordL
      rw [if_pos (beginsB_yes HU.out.symm _ (List.mem_singleton.2 rfl)), hwd]
      rfl)
     have hul : wd.used.length ≤ 816 := by
      rw [hwd]
      exact ((walkD_ok (held := sortB (s.holds.map (·.1))) HP.out (fun x hx => begin_can (beginsB_yes HU.out.symm x hx) (HWt.out x hx)) _ rfl).lens HP.out).2.2
     have hnl := needsX_len HP.out hcan
     have HNd := Lib.hid (fun (W : World) (hW : WaysIs B X.wyb X.Rw p A X.K c X.kc W) => needs_x B X.wyb X.Rw p A X.K c X.kc mark ⟨xb, xs, xp⟩ W hW HP.out hcan)
     obtain ⟨ul, hul2⟩ : ∃ ul, ul = wd.used := ⟨_, rfl⟩
     obtain ⟨nl, hnl2⟩ : ∃ nl, nl = needsX p ⟨xb, xs, xp⟩ := ⟨_, rfl⟩
     rw [← hul2] at HK HUs HOr hul
     rw [← hnl2] at HOr hnl HNd
     have HRb0 := Lib.hid (show ∀ k, R k → B ≤ k ∧ k < w.heap.size from HX.out.bd)
     clear z0 z1 j0 j1 j2 jl sl hwd hcan hul2 hnl2
     have y2 : w7.cell? ⟨sb, 2, none⟩ = some (.pointer (some ⟨X.wyb, 0, none⟩)) := (HX7.out.bk.cell 2).trans rfl
     have j0 : w7.cell? ⟨w.heap.size, 0, none⟩ = some (.int .i64 xb) := (HJ7.out.cell 0).trans rfl
     have j1 : w7.cell? ⟨w.heap.size, 1, none⟩ = some (.int .i64 xs) := (HJ7.out.cell 1).trans rfl
     have j2 : w7.cell? ⟨w.heap.size, 2, none⟩ = some (.int .i64 xp) := (HJ7.out.cell 2).trans rfl
     have jl := HJ7.out.lt
     have sl := HX7.out.bk.lt
     go_upto_region 7 with fail
     go_cut [14] (fun v14 wx => ∃ (A8 : Option Addr) (c8 : Nat) (X8 : SchX) (R8 : Nat → Prop), v14 = .slice A8 nl.length c8 ∧ Hid (wx.ownsRow w7.heap.size 35 3 (.slice A8 nl.length c8) nl.length (idsC nl)) ∧ Hid (SchedAt B sb R8 p A c X8 s wx) ∧ Hid (∀ k, R8 k → R k ∨ w7.heap.size ≤ k) ∧ Hid (Fr R w7 wx) ∧ Hid (∀ k, (Value.slice A8 nl.length c8).ownBlock = some k → ¬ R8 k))
     case first =>
      refine wp_region_held_drew (S := (fun w' => w'.cell? ⟨sb, 2, none⟩ = some (.pointer (some ⟨X.wyb, 0, none⟩)) ∧ w'.cell? ⟨w.heap.size, 0, none⟩ = some (.int .i64 xb) ∧ w'.cell? ⟨w.heap.size, 1, none⟩ = some (.int .i64 xs) ∧ w'.cell? ⟨w.heap.size, 2, none⟩ = some (.int .i64 xp))) (by kernel_rfl) ?_ (fun hHeld => ?_)
      · (first | exact ⟨(HX8.out.bk.cell 2).trans rfl, (HJ8.out.cell 0).trans rfl, (HJ8.out.cell 1).trans rfl, (HJ8.out.cell 2).trans rfl⟩ | exact ⟨y2, j0, j1, j2⟩ | go_keep)
      refine wpAnyH_take (i := 0) (oi := ⟨some 45, .move (.tmp 0), 26, "sched.go:198", #[], none⟩) (v := ?v2z0) rfl (by kernel_rfl) (by kernel_rfl) (by kernel_rfl) (fun _ _ _ h => h) (Or.inl ⟨by rfl, ?hy2z0⟩) (by assumption) ?rest2z0
      case hy2z0 => (intro w hSw; (try dsimp only at hSw); go_simp; try (with_reducible rfl))
      simp only [Act.put, List.setIfInBounds_toArray, List.set_cons_zero, List.set_cons_succ]
      refine wpAnyH_take (i := 1) (oi := ⟨some 46, .nilCheck (.tmp 45), 0, "sched.go:198", #[⟨0, .data⟩], none⟩) (v := ?v2z1) rfl (by kernel_rfl) (by kernel_rfl) (by kernel_rfl) (fun _ _ _ h => h) (Or.inl ⟨by rfl, ?hy2z1⟩) (by assumption) ?rest2z1
      case hy2z1 => (intro w hSw; (try dsimp only at hSw); go_simp; try (with_reducible rfl))
      simp only [Act.put, List.setIfInBounds_toArray, List.set_cons_zero, List.set_cons_succ]
      refine wpAnyH_take (i := 2) (oi := ⟨some 47, .fieldAddr 112 (.tmp 46) 1, 0, "sched.go:198", #[⟨1, .data⟩], none⟩) (v := ?v2z2) rfl (by kernel_rfl) (by kernel_rfl) (by kernel_rfl) (fun _ _ _ h => h) (Or.inl ⟨by rfl, ?hy2z2⟩) (by assumption) ?rest2z2
      case hy2z2 => (intro w hSw; (try dsimp only at hSw); go_simp; try (with_reducible rfl))
      simp only [Act.put, List.setIfInBounds_toArray, List.set_cons_zero, List.set_cons_succ]
      refine wpAnyH_take (i := 3) (oi := ⟨some 48, .load 107 (.tmp 47), 107, "sched.go:198", #[⟨2, .data⟩], none⟩) (v := ?v2z3) rfl (by kernel_rfl) (by kernel_rfl) (by kernel_rfl) (fun _ _ _ h => h) (Or.inl ⟨by rfl, ?hy2z3⟩) (by assumption) ?rest2z3
      case hy2z3 => (intro w hSw; (try dsimp only at hSw); go_simp; try (with_reducible rfl))
      simp only [Act.put, List.setIfInBounds_toArray, List.set_cons_zero, List.set_cons_succ]
      refine wpAnyH_take (i := 4) (oi := ⟨some 49, .fieldAddr 46 (.tmp 6) 0, 0, "sched.go:198", #[], none⟩) (v := ?v2z4) rfl (by kernel_rfl) (by kernel_rfl) (by kernel_rfl) (fun _ _ _ h => h) (Or.inl ⟨by rfl, ?hy2z4⟩) (by assumption) ?rest2z4
      case hy2z4 => (intro w hSw; (try dsimp only at hSw); go_simp; try (with_reducible rfl))
      simp only [Act.put, List.setIfInBounds_toArray, List.set_cons_zero, List.set_cons_succ]
      refine wpAnyH_take (i := 5) (oi := ⟨some 50, .load 35 (.tmp 49), 35, "sched.go:198", #[⟨4, .data⟩], none⟩) (v := ?v2z5) rfl (by kernel_rfl) (by kernel_rfl) (by kernel_rfl) (fun _ _ _ h => h) (Or.inl ⟨by rfl, ?hy2z5⟩) (by assumption) ?rest2z5
      case hy2z5 => (intro w hSw; (try dsimp only at hSw); go_simp; try (with_reducible rfl))
      simp only [Act.put, List.setIfInBounds_toArray, List.set_cons_zero, List.set_cons_succ]
      refine wpAnyH_ready (rs := [6]) (by kernel_rfl) (by simp) ?_
      refine AllReadyH.cons (o := ⟨some 51, .call { callee := .value (.func 82), args := #[.tmp 48, .tmp 50], argTypes := #[107, 35] }, 33, "sched.go:198", #[⟨3, .data⟩, ⟨5, .data⟩], none⟩) rfl (fun K hK => ?_) ?_
      ·
        go_simp
        go_at_call 82
        refine (HNd.out _ (HX7.out.ways.ext (below_drewN (Below.refl _ _) 1))).mono ?_
        rintro e w8 ⟨A8, c8, R9, rfl, hown8, hF8, hW8, hR8, hd8⟩
        have HX8 := Lib.hid ((HX7.out.ext (below_drewN (Below.refl _ _) 1)).waysT hW8 hF8 hR8)
        have HJ8 := Lib.hid ((HJ7.out.drew).fr hF8 (fun hk => by have h1 := (HRb0.out _ (HX7.out.rw_ _ hk)).2; omega))
        have HO8 := Lib.hid hown8
        have HF8 := Lib.hid hF8
        have HR8 := Lib.hid hR8
        have HD8 := Lib.hid hd8
        clear hown8 hF8 hW8 hR8 hd8
        refine hK.out _ _ ?_ (fun hHeld => ?_)
        · (first | exact ⟨(HX8.out.bk.cell 2).trans rfl, (HJ8.out.cell 0).trans rfl, (HJ8.out.cell 1).trans rfl, (HJ8.out.cell 2).trans rfl⟩ | exact ⟨y2, j0, j1, j2⟩ | go_keep)
        clear hK K
        try simp only [Act.put, List.setIfInBounds_toArray, List.set_cons_zero, List.set_cons_succ]
        refine wpAnyH_take (i := 7) (oi := ⟨some 14, .assign (.tmp 51), 33, "sched.go:198", #[⟨6, .data⟩, ⟨6, .chain⟩, ⟨0, .phase⟩, ⟨1, .phase⟩, ⟨2, .phase⟩, ⟨3, .phase⟩, ⟨4, .phase⟩, ⟨5, .phase⟩, ⟨6, .phase⟩], none⟩) (v := ?v2z7) rfl (by kernel_rfl) (by kernel_rfl) (by kernel_rfl) (fun _ _ _ h => h) (Or.inl ⟨by rfl, ?hy2z7⟩) (by assumption) ?rest2z7
        case hy2z7 => (intro w hSw; (try dsimp only at hSw); go_simp; try (with_reducible rfl))
        simp only [Act.put, List.setIfInBounds_toArray, List.set_cons_zero, List.set_cons_succ]
        refine wpAnyH_done (by kernel_rfl) ?_ _
        go_wp2_with fail
        go_meet
        refine ⟨A8, c8, _, _, rfl, HO8, HX8, Lib.hid (fun k hk => ?_), Lib.hid ((Fr.drew Fr.refl).trans HF8.out (fun k hk => .inl (HX7.out.rw_ k hk))), Lib.hid (fun k hk hr => ?_)⟩
        · rcases hk with hk | hk
          · exact .inl hk
          · rcases HR8.out k hk with h1 | h1
            · exact .inl (HX7.out.rw_ k h1)
            · exact .inr h1
        · rcases hr with hr | hr
          · have h1 := (HRb0.out k hr).2
            have h2 := (HO8.out.lt k hk).1
            have h3 : w7.heap.size ≤ k := h2
            have h4 := HB7.out.size
            omega
          · exact HD8.out k hk hr
      exact AllReadyH.nil
     case rest =>
      obtain ⟨A8, c8, X8, R8, rfl, HO8, HX8, HR8, HF8, HD8⟩ := hcut
      obtain ⟨w9, rfl⟩ : ∃ w9 : World, w9 = wc := ⟨_, rfl⟩
      have hz4 := HB.out.size
      have hz7 := HB6.out.size
      have HnR := Lib.hid (show ∀ k, w.heap.size ≤ k → ¬ R k from fun k hk hr => by have := (HRb0.out k hr).2; omega)
      have HM9 := Lib.hid (HM7.out.fr HF8.out (HnR.out _ (by omega)))
      have HR9 := Lib.hid (HR7.out.fr HF8.out (HnR.out _ (by omega)))
      have HU9 := Lib.hid (own_fr HUs.out HF8.out (fun k hk => HnR.out k (by have := (HUs.out.lt k hk).1; omega)))
      have HUn := Lib.hid (show ∀ k, (Value.slice A2 ul.length c2).ownBlock = some k → ¬ R8 k from fun k hk hr => by
       have h1 := HUs.out.lt k hk
       rcases HR8.out k hr with h2 | h2
       · have := (HRb0.out k h2).2; omega
       · omega)
      have k2 : w9.cell? ⟨ab, 2, none⟩ = some (.slice A2 ul.length c2) := (World.cell?_of_block (a := ⟨ab, 2, none⟩) (HF8.out.block ab HK.out.2.1 (HnR.out ab (by have := HK.out.2.2; omega)))).trans HK.out.1
      have kl : ab < w9.heap.size := Nat.lt_of_lt_of_le HK.out.2.1 HF8.out.size
      have HFw := Lib.hid ((Fr.of_below HB7.out).trans HF8.out (fun k hk => .inl hk))
      have HmR := Lib.hid (show ¬ R8 (w.heap.size + 1 + 1) from fun hr => by
       rcases HR8.out _ hr with h2 | h2
       · have := (HRb0.out _ h2).2; omega
       · have := HM7.out.lt; omega)
      have HrR := Lib.hid (show ¬ R8 (w.heap.size + 1) from fun hr => by
       rcases HR8.out _ hr with h2 | h2
       · have := (HRb0.out _ h2).2; omega
       · have := HR7.out.lt; omega)
      clear y2 j0 j1 j2 jl sl
      obtain ⟨fl, hfl⟩ : ∃ fl, fl = (if deep then ul else nl) := ⟨_, rfl⟩
      have HFl := Lib.hid hfl
      have hfll : fl.length ≤ 1000 := by rw [hfl]; split <;> omega
      rw [← hfl] at HOr
      clear hfl
      go_upto_if 52 with fail
      go_cut [14] (fun v14 wx => ∃ (A9 : Option Addr) (c9 : Nat), v14 = .slice A9 fl.length c9 ∧ Hid (wx.ownsRow w.heap.size 35 3 (.slice A9 fl.length c9) fl.length (idsC fl)) ∧ wx = w9)
      case first =>
       cases deep with
       | true =>
         obtain rfl : fl = ul := HFl.out
         go_wp2_with fail
         go_meet
         exact ⟨A2, c2, rfl, Lib.hid (own_mono HU9.out (by omega)), rfl⟩
       | false =>
         obtain rfl : fl = nl := HFl.out
         go_wp2_with fail
         go_meet
         exact ⟨A8, c8, rfl, Lib.hid (own_mono HO8.out (by omega)), rfl⟩
      case rest =>
       obtain ⟨A9, c9, rfl, HO9, rfl⟩ := hcut
       have HV9 := Lib.hid (show OInv B sb R R8 p A c s X8 w kd worker ⟨xb, xs, xp⟩ deep mark (.slice A9 fl.length c9) fl [] wc from ⟨none, 0, HM9.out, World.ownsRow_nil _ _ _ _, fun k hk => (by cases hk), HO9.out, HX8.out, HR9.out, HFw.out, by simp⟩)
       clear k2 kl
       go_wp2_with fail
       go_loopg [16, 17, 18, 57] fl.length (fun gk v16 v17 v18 v57 wr => ∃ (i : Nat), i + gk = fl.length ∧ v57 = .int .i64 (i : Nat) ∧ Hid (OInv B sb R R8 p A c s X8 w kd worker ⟨xb, xs, xp⟩ deep mark (.slice A9 fl.length c9) fl ((fl.take i).foldl (ordStep p s mark) []) wr))
       case atStart => exact ⟨0, by omega, rfl, HV9⟩
       case round =>
        obtain ⟨i, hik, rfl, HV⟩ := hrel
        obtain ⟨Ah, ch, hm, ho, hd, hf, hs, hr, hF, h48⟩ := HV.out
        have HMr := Lib.hid hm
        have HOr2 := Lib.hid ho
        have HDr := Lib.hid hd
        have HFr := Lib.hid hf
        have HSr := Lib.hid hs
        have HRr := Lib.hid hr
        have HFF := Lib.hid hF
        clear hm ho hd hf hs hr hF
        by_cases hi : i < fl.length
        · have hy : fl[i]? = some (fl[i]) := List.getElem?_eq_getElem hi
          generalize fl[i] = x at hy
          obtain ⟨ad, rfl, d0, d1, d2⟩ := (Rd.of_own (B := 0) HFr.out).ids hy hi
          have HTk := Lib.hid (show (fl.take (i + 1)).foldl (ordStep p s mark) [] = ordStep p s mark ((fl.take i).foldl (ordStep p s mark) []) x from by rw [take_succ_of hy, List.foldl_append]; rfl)
          obtain ⟨hl, hhl⟩ : ∃ hl, hl = (fl.take i).foldl (ordStep p s mark) [] := ⟨_, rfl⟩
          rw [← hhl] at HMr HOr2 HDr HV HTk h48
          obtain ⟨WY, hWY⟩ : ∃ WY, WY = wr.alloc (.cells #[.int .i64 x.b, .int .i64 x.s, .int .i64 x.p] 35 (0, 0)) := ⟨_, rfl⟩
          have HBY := Lib.hid (show Below wr.heap.size wr WY from by rw [hWY]; exact ext_alloc (Below.refl _ _) _)
          have HXY := Lib.hid (show Bk WY wr.heap.size 35 #[.int .i64 x.b, .int .i64 x.s, .int .i64 x.p] from by rw [hWY]; exact Bk.new _ _ _)
          have HWY := Lib.hid hWY
          have y0 : WY.cell? ⟨wr.heap.size, 0, none⟩ = some (.int .i64 x.b) := (HXY.out.cell 0).trans rfl
          have y1 : WY.cell? ⟨wr.heap.size, 1, none⟩ = some (.int .i64 x.s) := (HXY.out.cell 1).trans rfl
          have y2 : WY.cell? ⟨wr.heap.size, 2, none⟩ = some (.int .i64 x.p) := (HXY.out.cell 2).trans rfl
          have yl := HXY.out.lt
          obtain ⟨r, hrr⟩ : ∃ r, r = holderR s.holds x := ⟨_, rfl⟩
          have HHo := Lib.hid (holder_c x WY ⟨X8, HSr.out.ext HBY.out⟩)
          rw [← hrr] at HHo
          have HRq := Lib.hid hrr
          obtain ⟨⟨⟨rxb, rxs, rxp⟩, rwk⟩, rok⟩ := r
          clear hWY hy hhl hrr
          go_upto_region 13 with fail
          rw [← HWY.out]
          go_upto_region 14 with (first
           | (go_at_call 111; refine HHo.out.mono ?_; rintro e w10 ⟨rfl, hb⟩
              simp only [hdV]
              have HB10 := Lib.hid (ext_trans HBY.out hb)
              have HX10 := Lib.hid (HXY.out.ext hb)
              clear hb y0 y1 y2 yl))
          obtain ⟨W11, hW11⟩ : ∃ W11, W11 = w10.alloc (.cells #[.int .i64 rxb, .int .i64 rxs, .int .i64 rxp, .int .i64 rwk] 57 (0, 0)) := ⟨_, rfl⟩
          rw [← hW11]
          have HB11 := Lib.hid (show Below wr.heap.size wr W11 from by rw [hW11]; exact ext_alloc HB10.out _)
          have HX11 := Lib.hid (show Bk W11 wr.heap.size 35 #[.int .i64 x.b, .int .i64 x.s, .int .i64 x.p] from by rw [hW11]; exact HX10.out.alloc _)
          have HH11 := Lib.hid (show Bk W11 w10.heap.size 57 #[.int .i64 rxb, .int .i64 rxs, .int .i64 rxp, .int .i64 rwk] from by rw [hW11]; exact Bk.new _ _ _)
          have HS11 := Lib.hid (HSr.out.ext HB11.out)
          have HM11 := Lib.hid (HMr.out.ext HB11.out)
          have HV11 := Lib.hid (HV.out.ext HB11.out)
          have HA11 := Lib.hid (show RdS W11 (· < B) 5 A p.ops.length (opsC p.ops) from by obtain ⟨mb, es, hy⟩ := HS11.out.ways; exact hy.ops)
          have hg10 := HB10.out.size
          clear hW11
          have z0 : W11.cell? ⟨sb, 0, none⟩ = some (.int .i64 p.parts) := (HS11.out.bk.cell 0).trans rfl
          have z1 : W11.cell? ⟨sb, 1, none⟩ = some (.slice A p.ops.length c) := (HS11.out.bk.cell 1).trans rfl
          have y0 : W11.cell? ⟨wr.heap.size, 0, none⟩ = some (.int .i64 x.b) := (HX11.out.cell 0).trans rfl
          have y1 : W11.cell? ⟨wr.heap.size, 1, none⟩ = some (.int .i64 x.s) := (HX11.out.cell 1).trans rfl
          have y2 : W11.cell? ⟨wr.heap.size, 2, none⟩ = some (.int .i64 x.p) := (HX11.out.cell 2).trans rfl
          have m6 : W11.cell? ⟨w.heap.size + 1 + 1, 6, none⟩ = some (.slice Ah hl.length ch) := (HM11.out.cell 6).trans rfl
          have yl := HX11.out.lt
          have zl := HS11.out.bk.lt
          have ml := HM11.out.lt
          obtain ⟨lf, hlf⟩ : ∃ lf, lf = leafD p x mark := ⟨_, rfl⟩
          have HLf := Lib.hid hlf.symm
          clear hlf
          go_cut [83] (fun v83 wx => v83 = .bool (rok && (!lf && decide (hl.length < 48))) ∧ Hid (Below W11.heap.size W11 wx))
          case first =>
           cases rok with
           | false =>
             refine wp_region_held_drew (S := (fun w' => w'.cell? ⟨sb, 0, none⟩ = some (.int .i64 p.parts) ∧ w'.cell? ⟨sb, 1, none⟩ = some (.slice A p.ops.length c) ∧ w'.cell? ⟨wr.heap.size, 0, none⟩ = some (.int .i64 x.b) ∧ w'.cell? ⟨wr.heap.size, 1, none⟩ = some (.int .i64 x.s) ∧ w'.cell? ⟨wr.heap.size, 2, none⟩ = some (.int .i64 x.p) ∧ w'.cell? ⟨w.heap.size + 1 + 1, 6, none⟩ = some (.slice Ah hl.length ch))) (by kernel_rfl) ?_ (fun hHeld => ?_)
             · (first | exact ⟨(HS12.out.bk.cell 0).trans rfl, (HS12.out.bk.cell 1).trans rfl, (HX12.out.cell 0).trans rfl, (HX12.out.cell 1).trans rfl, (HX12.out.cell 2).trans rfl, (HM12.out.cell 6).trans rfl⟩ | exact ⟨z0, z1, y0, y1, y2, m6⟩ | go_keep)
             refine wpAnyH_take (i := 0) (oi := ⟨some 67, .move (.tmp 18), 4, "sched.go:204", #[], none⟩) (v := ?v3z0) rfl (by kernel_rfl) (by kernel_rfl) (by kernel_rfl) (fun _ _ _ h => h) (Or.inl ⟨by rfl, ?hy3z0⟩) (by assumption) ?rest3z0
             case hy3z0 => (intro w hSw; (try dsimp only at hSw); go_simp; try (with_reducible rfl))
             simp only [Act.put, List.setIfInBounds_toArray, List.set_cons_zero, List.set_cons_succ]
             refine wpAnyH_take (i := 1) (oi := ⟨some 68, .move (.tmp 67), 4, "sched.go:204", #[⟨0, .data⟩], none⟩) (v := ?v3z1) rfl (by kernel_rfl) (by kernel_rfl) (by kernel_rfl) (fun _ _ _ h => h) (Or.inl ⟨by rfl, ?hy3z1⟩) (by assumption) ?rest3z1
             case hy3z1 => (intro w hSw; (try dsimp only at hSw); go_simp; try (with_reducible rfl))
             simp only [Act.put, List.setIfInBounds_toArray, List.set_cons_zero, List.set_cons_succ]
             refine wpAnyH_take (i := 2) (oi := ⟨some 69, .move (.tmp 0), 26, "sched.go:204", #[⟨1, .guard⟩], some (1, true)⟩) (v := undef) rfl (by kernel_rfl) (by kernel_rfl) (by kernel_rfl) (fun _ _ _ h => h) (Or.inr ⟨by rfl, rfl⟩) (by assumption) ?_
             simp only [Act.put, List.setIfInBounds_toArray, List.set_cons_zero, List.set_cons_succ]
             refine wpAnyH_take (i := 3) (oi := ⟨some 70, .nilCheck (.tmp 69), 0, "sched.go:204", #[⟨2, .data⟩, ⟨1, .guard⟩], some (1, true)⟩) (v := undef) rfl (by kernel_rfl) (by kernel_rfl) (by kernel_rfl) (fun _ _ _ h => h) (Or.inr ⟨by rfl, rfl⟩) (by assumption) ?_
             simp only [Act.put, List.setIfInBounds_toArray, List.set_cons_zero, List.set_cons_succ]
             refine wpAnyH_take (i := 4) (oi := ⟨some 71, .fieldAddr 112 (.tmp 70) 0, 0, "sched.go:204", #[⟨3, .data⟩, ⟨1, .guard⟩], some (1, true)⟩) (v := undef) rfl (by kernel_rfl) (by kernel_rfl) (by kernel_rfl) (fun _ _ _ h => h) (Or.inr ⟨by rfl, rfl⟩) (by assumption) ?_
             simp only [Act.put, List.setIfInBounds_toArray, List.set_cons_zero, List.set_cons_succ]
             refine wpAnyH_take (i := 5) (oi := ⟨some 72, .load 24 (.tmp 71), 24, "sched.go:204", #[⟨4, .data⟩, ⟨1, .guard⟩], some (1, true)⟩) (v := undef) rfl (by kernel_rfl) (by kernel_rfl) (by kernel_rfl) (fun _ _ _ h => h) (Or.inr ⟨by rfl, rfl⟩) (by assumption) ?_
             simp only [Act.put, List.setIfInBounds_toArray, List.set_cons_zero, List.set_cons_succ]
             refine wpAnyH_take (i := 6) (oi := ⟨some 73, .load 35 (.tmp 16), 35, "sched.go:204", #[⟨1, .guard⟩], some (1, true)⟩) (v := undef) rfl (by kernel_rfl) (by kernel_rfl) (by kernel_rfl) (fun _ _ _ h => h) (Or.inr ⟨by rfl, rfl⟩) (by assumption) ?_
             simp only [Act.put, List.setIfInBounds_toArray, List.set_cons_zero, List.set_cons_succ]
             refine wpAnyH_take (i := 7) (oi := ⟨some 74, .move (.tmp 4), 3, "sched.go:204", #[⟨1, .guard⟩], some (1, true)⟩) (v := undef) rfl (by kernel_rfl) (by kernel_rfl) (by kernel_rfl) (fun _ _ _ h => h) (Or.inr ⟨by rfl, rfl⟩) (by assumption) ?_
             simp only [Act.put, List.setIfInBounds_toArray, List.set_cons_zero, List.set_cons_succ]
             refine wpAnyH_ready (rs := [8]) (by kernel_rfl) (by simp) ?_
             refine AllReadyH.cons (o := ⟨some 75, .call { callee := .value (.func 31), args := #[.tmp 72, .tmp 73, .tmp 74], argTypes := #[24, 35, 3] }, 4, "sched.go:204", #[⟨5, .data⟩, ⟨6, .data⟩, ⟨7, .data⟩, ⟨1, .chain⟩, ⟨1, .guard⟩], some (1, true)⟩) rfl (fun K hK => ?_) ?_
             ·
               rw [if_neg (by rw [show Region.wanted _ _ = false from rfl]; simp)]
               refine hK.out _ _ ?_ (fun hHeld => ?_)
               · (first | exact ⟨(HS12.out.bk.cell 0).trans rfl, (HS12.out.bk.cell 1).trans rfl, (HX12.out.cell 0).trans rfl, (HX12.out.cell 1).trans rfl, (HX12.out.cell 2).trans rfl, (HM12.out.cell 6).trans rfl⟩ | exact ⟨z0, z1, y0, y1, y2, m6⟩ | go_keep)
               clear hK K
               try simp only [Act.put, List.setIfInBounds_toArray, List.set_cons_zero, List.set_cons_succ]
               refine wpAnyH_take (i := 9) (oi := ⟨some 76, .unOp .not 4 (.tmp 75), 4, "sched.go:204", #[⟨8, .data⟩, ⟨1, .guard⟩], some (1, true)⟩) (v := undef) rfl (by kernel_rfl) (by kernel_rfl) (by kernel_rfl) (fun _ _ _ h => h) (Or.inr ⟨by rfl, rfl⟩) (by assumption) ?_
               simp only [Act.put, List.setIfInBounds_toArray, List.set_cons_zero, List.set_cons_succ]
               refine wpAnyH_take (i := 10) (oi := ⟨some 77, .pick (.tmp 68) (.tmp 76) (.const (.bool false)), 4, "sched.go:204", #[⟨1, .data⟩, ⟨9, .data⟩], none⟩) (v := ?v3z10) rfl (by kernel_rfl) (by kernel_rfl) (by kernel_rfl) (fun _ _ _ h => h) (Or.inl ⟨by rfl, ?hy3z10⟩) (by assumption) ?rest3z10
               case hy3z10 => (intro w hSw; (try dsimp only at hSw); go_simp; try (with_reducible rfl))
               simp only [Act.put, List.setIfInBounds_toArray, List.set_cons_zero, List.set_cons_succ]
               refine wpAnyH_take (i := 11) (oi := ⟨some 78, .move (.tmp 77), 4, "sched.go:204", #[⟨10, .data⟩, ⟨8, .chain⟩], none⟩) (v := ?v3z11) rfl (by kernel_rfl) (by kernel_rfl) (by kernel_rfl) (fun _ _ _ h => h) (Or.inl ⟨by rfl, ?hy3z11⟩) (by assumption) ?rest3z11
               case hy3z11 => (intro w hSw; (try dsimp only at hSw); go_simp; try (with_reducible rfl))
               simp only [Act.put, List.setIfInBounds_toArray, List.set_cons_zero, List.set_cons_succ]
               refine wpAnyH_take (i := 12) (oi := ⟨some 79, .fieldAddr 86 (.tmp 11) 4, 0, "sched.go:204", #[⟨11, .guard⟩], some (11, true)⟩) (v := undef) rfl (by kernel_rfl) (by kernel_rfl) (by kernel_rfl) (fun _ _ _ h => h) (Or.inr ⟨by rfl, rfl⟩) (by assumption) ?_
               simp only [Act.put, List.setIfInBounds_toArray, List.set_cons_zero, List.set_cons_succ]
               refine wpAnyH_take (i := 13) (oi := ⟨some 80, .load 54 (.tmp 79), 54, "sched.go:204", #[⟨12, .data⟩, ⟨11, .guard⟩], some (11, true)⟩) (v := undef) rfl (by kernel_rfl) (by kernel_rfl) (by kernel_rfl) (fun _ _ _ h => h) (Or.inr ⟨by rfl, rfl⟩) (by assumption) ?_
               simp only [Act.put, List.setIfInBounds_toArray, List.set_cons_zero, List.set_cons_succ]
               refine wpAnyH_take (i := 14) (oi := ⟨some 81, .call { callee := .builtin .len, args := #[.tmp 80], argTypes := #[54] }, 3, "sched.go:204", #[⟨13, .data⟩, ⟨11, .guard⟩], some (11, true)⟩) (v := undef) rfl (by kernel_rfl) (by kernel_rfl) (by kernel_rfl) (fun _ _ _ h => h) (Or.inr ⟨by rfl, rfl⟩) (by assumption) ?_
               simp only [Act.put, List.setIfInBounds_toArray, List.set_cons_zero, List.set_cons_succ]
               refine wpAnyH_take (i := 15) (oi := ⟨some 82, .binOp .lss 3 (.tmp 81) (.const (.int .i64 48)) 3, 4, "sched.go:204", #[⟨14, .data⟩, ⟨11, .guard⟩], some (11, true)⟩) (v := undef) rfl (by kernel_rfl) (by kernel_rfl) (by kernel_rfl) (fun _ _ _ h => h) (Or.inr ⟨by rfl, rfl⟩) (by assumption) ?_
               simp only [Act.put, List.setIfInBounds_toArray, List.set_cons_zero, List.set_cons_succ]
               refine wpAnyH_take (i := 16) (oi := ⟨some 83, .pick (.tmp 78) (.tmp 82) (.const (.bool false)), 4, "sched.go:204", #[⟨11, .data⟩, ⟨15, .data⟩], none⟩) (v := ?v3z16) rfl (by kernel_rfl) (by kernel_rfl) (by kernel_rfl) (fun _ _ _ h => h) (Or.inl ⟨by rfl, ?hy3z16⟩) (by assumption) ?rest3z16
               case hy3z16 => (intro w hSw; (try dsimp only at hSw); go_simp; try (with_reducible rfl))
               simp only [Act.put, List.setIfInBounds_toArray, List.set_cons_zero, List.set_cons_succ]
               refine wpAnyH_done (by kernel_rfl) ?_ _
               go_wp2_with fail
               go_meet
               exact ⟨rfl, Lib.hid (below_drewN (Below.refl _ _) _)⟩
             exact AllReadyH.nil
           | true =>
             cases lf with
             | true =>
               refine wp_region_held_drew (S := (fun w' => w'.cell? ⟨sb, 0, none⟩ = some (.int .i64 p.parts) ∧ w'.cell? ⟨sb, 1, none⟩ = some (.slice A p.ops.length c) ∧ w'.cell? ⟨wr.heap.size, 0, none⟩ = some (.int .i64 x.b) ∧ w'.cell? ⟨wr.heap.size, 1, none⟩ = some (.int .i64 x.s) ∧ w'.cell? ⟨wr.heap.size, 2, none⟩ = some (.int .i64 x.p) ∧ w'.cell? ⟨w.heap.size + 1 + 1, 6, none⟩ = some (.slice Ah hl.length ch))) (by kernel_rfl) ?_ (fun hHeld => ?_)
               · (first | exact ⟨(HS12.out.bk.cell 0).trans rfl, (HS12.out.bk.cell 1).trans rfl, (HX12.out.cell 0).trans rfl, (HX12.out.cell 1).trans rfl, (HX12.out.cell 2).trans rfl, (HM12.out.cell 6).trans rfl⟩ | exact ⟨z0, z1, y0, y1, y2, m6⟩ | go_keep)
               refine wpAnyH_take (i := 0) (oi := ⟨some 67, .move (.tmp 18), 4, "sched.go:204", #[], none⟩) (v := ?v4z0) rfl (by kernel_rfl) (by kernel_rfl) (by kernel_rfl) (fun _ _ _ h => h) (Or.inl ⟨by rfl, ?hy4z0⟩) (by assumption) ?rest4z0
               case hy4z0 => (intro w hSw; (try dsimp only at hSw); go_simp; try (with_reducible rfl))
               simp only [Act.put, List.setIfInBounds_toArray, List.set_cons_zero, List.set_cons_succ]
               refine wpAnyH_take (i := 1) (oi := ⟨some 68, .move (.tmp 67), 4, "sched.go:204", #[⟨0, .data⟩], none⟩) (v := ?v4z1) rfl (by kernel_rfl) (by kernel_rfl) (by kernel_rfl) (fun _ _ _ h => h) (Or.inl ⟨by rfl, ?hy4z1⟩) (by assumption) ?rest4z1
               case hy4z1 => (intro w hSw; (try dsimp only at hSw); go_simp; try (with_reducible rfl))
               simp only [Act.put, List.setIfInBounds_toArray, List.set_cons_zero, List.set_cons_succ]
               refine wpAnyH_take (i := 2) (oi := ⟨some 69, .move (.tmp 0), 26, "sched.go:204", #[⟨1, .guard⟩], some (1, true)⟩) (v := ?v4z2) rfl (by kernel_rfl) (by kernel_rfl) (by kernel_rfl) (fun _ _ _ h => h) (Or.inl ⟨by rfl, ?hy4z2⟩) (by assumption) ?rest4z2
               case hy4z2 => (intro w hSw; (try dsimp only at hSw); go_simp; try (with_reducible rfl))
               simp only [Act.put, List.setIfInBounds_toArray, List.set_cons_zero, List.set_cons_succ]
               refine wpAnyH_take (i := 3) (oi := ⟨some 70, .nilCheck (.tmp 69), 0, "sched.go:204", #[⟨2, .data⟩, ⟨1, .guard⟩], some (1, true)⟩) (v := ?v4z3) rfl (by kernel_rfl) (by kernel_rfl) (by kernel_rfl) (fun _ _ _ h => h) (Or.inl ⟨by rfl, ?hy4z3⟩) (by assumption) ?rest4z3
               case hy4z3 => (intro w hSw; (try dsimp only at hSw); go_simp; try (with_reducible rfl))
               simp only [Act.put, List.setIfInBounds_toArray, List.set_cons_zero, List.set_cons_succ]
               refine wpAnyH_take (i := 4) (oi := ⟨some 71, .fieldAddr 112 (.tmp 70) 0, 0, "sched.go:204", #[⟨3, .data⟩, ⟨1, .guard⟩], some (1, true)⟩) (v := ?v4z4) rfl (by kernel_rfl) (by kernel_rfl) (by kernel_rfl) (fun _ _ _ h => h) (Or.inl ⟨by rfl, ?hy4z4⟩) (by assumption) ?rest4z4
               case hy4z4 => (intro w hSw; (try dsimp only at hSw); go_simp; try (with_reducible rfl))
               simp only [Act.put, List.setIfInBounds_toArray, List.set_cons_zero, List.set_cons_succ]
               refine wpAnyH_take (i := 5) (oi := ⟨some 72, .load 24 (.tmp 71), 24, "sched.go:204", #[⟨4, .data⟩, ⟨1, .guard⟩], some (1, true)⟩) (v := ?v4z5) rfl (by kernel_rfl) (by kernel_rfl) (by kernel_rfl) (fun _ _ _ h => h) (Or.inl ⟨by rfl, ?hy4z5⟩) (by assumption) ?rest4z5
               case hy4z5 => (intro w hSw; (try dsimp only at hSw); go_simp; try (with_reducible rfl))
               simp only [Act.put, List.setIfInBounds_toArray, List.set_cons_zero, List.set_cons_succ]
               refine wpAnyH_take (i := 6) (oi := ⟨some 73, .load 35 (.tmp 16), 35, "sched.go:204", #[⟨1, .guard⟩], some (1, true)⟩) (v := ?v4z6) rfl (by kernel_rfl) (by kernel_rfl) (by kernel_rfl) (fun _ _ _ h => h) (Or.inl ⟨by rfl, ?hy4z6⟩) (by assumption) ?rest4z6
               case hy4z6 => (intro w hSw; (try dsimp only at hSw); go_simp; try (with_reducible rfl))
               simp only [Act.put, List.setIfInBounds_toArray, List.set_cons_zero, List.set_cons_succ]
               refine wpAnyH_take (i := 7) (oi := ⟨some 74, .move (.tmp 4), 3, "sched.go:204", #[⟨1, .guard⟩], some (1, true)⟩) (v := ?v4z7) rfl (by kernel_rfl) (by kernel_rfl) (by kernel_rfl) (fun _ _ _ h => h) (Or.inl ⟨by rfl, ?hy4z7⟩) (by assumption) ?rest4z7
               case hy4z7 => (intro w hSw; (try dsimp only at hSw); go_simp; try (with_reducible rfl))
               simp only [Act.put, List.setIfInBounds_toArray, List.set_cons_zero, List.set_cons_succ]
               refine wpAnyH_ready (rs := [8]) (by kernel_rfl) (by simp) ?_
               refine AllReadyH.cons (o := ⟨some 75, .call { callee := .value (.func 31), args := #[.tmp 72, .tmp 73, .tmp 74], argTypes := #[24, 35, 3] }, 4, "sched.go:204", #[⟨5, .data⟩, ⟨6, .data⟩, ⟨7, .data⟩, ⟨1, .chain⟩, ⟨1, .guard⟩], some (1, true)⟩) rfl (fun K hK => ?_) ?_
               ·
                 go_simp
                 go_at_call 31
                 refine (leaf_c B p A c x mark _ (HA11.out.ext (below_drewN (Below.refl _ _) 1)) (show B ≤ W11.heap.size by have h1 := HB0.out; have h2 := HB11.out.size; have h3 := HFF.out.size; omega)).mono ?_
                 rw [HLf.out]
                 rintro e w12 ⟨rfl, hb⟩
                 have HB12 := Lib.hid (show Below W11.heap.size W11 w12 from ext_trans (below_drewN (Below.refl _ _) 1) hb)
                 have HS12 := Lib.hid (HS11.out.ext HB12.out)
                 have HX12 := Lib.hid (HX11.out.ext HB12.out)
                 have HM12 := Lib.hid (HM11.out.ext HB12.out)
                 clear hb
                 refine hK.out _ _ ?_ (fun hHeld => ?_)
                 · (first | exact ⟨(HS12.out.bk.cell 0).trans rfl, (HS12.out.bk.cell 1).trans rfl, (HX12.out.cell 0).trans rfl, (HX12.out.cell 1).trans rfl, (HX12.out.cell 2).trans rfl, (HM12.out.cell 6).trans rfl⟩ | exact ⟨z0, z1, y0, y1, y2, m6⟩ | go_keep)
                 clear hK K
                 try simp only [Act.put, List.setIfInBounds_toArray, List.set_cons_zero, List.set_cons_succ]
                 refine wpAnyH_take (i := 9) (oi := ⟨some 76, .unOp .not 4 (.tmp 75), 4, "sched.go:204", #[⟨8, .data⟩, ⟨1, .guard⟩], some (1, true)⟩) (v := ?v4z9) rfl (by kernel_rfl) (by kernel_rfl) (by kernel_rfl) (fun _ _ _ h => h) (Or.inl ⟨by rfl, ?hy4z9⟩) (by assumption) ?rest4z9
                 case hy4z9 => (intro w hSw; (try dsimp only at hSw); go_simp; try (with_reducible rfl))
                 simp only [Act.put, List.setIfInBounds_toArray, List.set_cons_zero, List.set_cons_succ]
                 refine wpAnyH_take (i := 10) (oi := ⟨some 77, .pick (.tmp 68) (.tmp 76) (.const (.bool false)), 4, "sched.go:204", #[⟨1, .data⟩, ⟨9, .data⟩], none⟩) (v := ?v4z10) rfl (by kernel_rfl) (by kernel_rfl) (by kernel_rfl) (fun _ _ _ h => h) (Or.inl ⟨by rfl, ?hy4z10⟩) (by assumption) ?rest4z10
                 case hy4z10 => (intro w hSw; (try dsimp only at hSw); go_simp; try (with_reducible rfl))
                 simp only [Act.put, List.setIfInBounds_toArray, List.set_cons_zero, List.set_cons_succ]
                 refine wpAnyH_take (i := 11) (oi := ⟨some 78, .move (.tmp 77), 4, "sched.go:204", #[⟨10, .data⟩, ⟨8, .chain⟩], none⟩) (v := ?v4z11) rfl (by kernel_rfl) (by kernel_rfl) (by kernel_rfl) (fun _ _ _ h => h) (Or.inl ⟨by rfl, ?hy4z11⟩) (by assumption) ?rest4z11
                 case hy4z11 => (intro w hSw; (try dsimp only at hSw); go_simp; try (with_reducible rfl))
                 simp only [Act.put, List.setIfInBounds_toArray, List.set_cons_zero, List.set_cons_succ]
                 refine wpAnyH_take (i := 12) (oi := ⟨some 79, .fieldAddr 86 (.tmp 11) 4, 0, "sched.go:204", #[⟨11, .guard⟩], some (11, true)⟩) (v := undef) rfl (by kernel_rfl) (by kernel_rfl) (by kernel_rfl) (fun _ _ _ h => h) (Or.inr ⟨by rfl, rfl⟩) (by assumption) ?_
                 simp only [Act.put, List.setIfInBounds_toArray, List.set_cons_zero, List.set_cons_succ]
                 refine wpAnyH_take (i := 13) (oi := ⟨some 80, .load 54 (.tmp 79), 54, "sched.go:204", #[⟨12, .data⟩, ⟨11, .guard⟩], some (11, true)⟩) (v := undef) rfl (by kernel_rfl) (by kernel_rfl) (by kernel_rfl) (fun _ _ _ h => h) (Or.inr ⟨by rfl, rfl⟩) (by assumption) ?_
                 simp only [Act.put, List.setIfInBounds_toArray, List.set_cons_zero, List.set_cons_succ]
                 refine wpAnyH_take (i := 14) (oi := ⟨some 81, .call { callee := .builtin .len, args := #[.tmp 80], argTypes := #[54] }, 3, "sched.go:204", #[⟨13, .data⟩, ⟨11, .guard⟩], some (11, true)⟩) (v := undef) rfl (by kernel_rfl) (by kernel_rfl) (by kernel_rfl) (fun _ _ _ h => h) (Or.inr ⟨by rfl, rfl⟩) (by assumption) ?_
                 simp only [Act.put, List.setIfInBounds_toArray, List.set_cons_zero, List.set_cons_succ]
                 refine wpAnyH_take (i := 15) (oi := ⟨some 82, .binOp .lss 3 (.tmp 81) (.const (.int .i64 48)) 3, 4, "sched.go:204", #[⟨14, .data⟩, ⟨11, .guard⟩], some (11, true)⟩) (v := undef) rfl (by kernel_rfl) (by kernel_rfl) (by kernel_rfl) (fun _ _ _ h => h) (Or.inr ⟨by rfl, rfl⟩) (by assumption) ?_
                 simp only [Act.put, List.setIfInBounds_toArray, List.set_cons_zero, List.set_cons_succ]
                 refine wpAnyH_take (i := 16) (oi := ⟨some 83, .pick (.tmp 78) (.tmp 82) (.const (.bool false)), 4, "sched.go:204", #[⟨11, .data⟩, ⟨15, .data⟩], none⟩) (v := ?v4z16) rfl (by kernel_rfl) (by kernel_rfl) (by kernel_rfl) (fun _ _ _ h => h) (Or.inl ⟨by rfl, ?hy4z16⟩) (by assumption) ?rest4z16
                 case hy4z16 => (intro w hSw; (try dsimp only at hSw); go_simp; try (with_reducible rfl))
                 simp only [Act.put, List.setIfInBounds_toArray, List.set_cons_zero, List.set_cons_succ]
                 refine wpAnyH_done (by kernel_rfl) ?_ _
                 go_wp2_with fail
                 go_meet
                 exact ⟨rfl, HB12⟩
               exact AllReadyH.nil
             | false =>
               by_cases h8 : hl.length < 48
               · have hd8 : decide (hl.length < 48) = true := decide_eq_true h8
                 have h8i : ((hl.length : Nat) : Int) < 48 := by omega
                 have HD8b := Lib.hid hd8
                 clear h8 hd8
                 refine wp_region_held_drew (S := (fun w' => w'.cell? ⟨sb, 0, none⟩ = some (.int .i64 p.parts) ∧ w'.cell? ⟨sb, 1, none⟩ = some (.slice A p.ops.length c) ∧ w'.cell? ⟨wr.heap.size, 0, none⟩ = some (.int .i64 x.b) ∧ w'.cell? ⟨wr.heap.size, 1, none⟩ = some (.int .i64 x.s) ∧ w'.cell? ⟨wr.heap.size, 2, none⟩ = some (.int .i64 x.p) ∧ w'.cell? ⟨w.heap.size + 1 + 1, 6, none⟩ = some (.slice Ah hl.length ch))) (by kernel_rfl) ?_ (fun hHeld => ?_)
                 · (first | exact ⟨(HS12.out.bk.cell 0).trans rfl, (HS12.out.bk.cell 1).trans rfl, (HX12.out.cell 0).trans rfl, (HX12.out.cell 1).trans rfl, (HX12.out.cell 2).trans rfl, (HM12.out.cell 6).trans rfl⟩ | exact ⟨z0, z1, y0, y1, y2, m6⟩ | go_keep)
                 refine wpAnyH_take (i := 0) (oi := ⟨some 67, .move (.tmp 18), 4, "sched.go:204", #[], none⟩) (v := ?v5z0) rfl (by kernel_rfl) (by kernel_rfl) (by kernel_rfl) (fun _ _ _ h => h) (Or.inl ⟨by rfl, ?hy5z0⟩) (by assumption) ?rest5z0
                 case hy5z0 => (intro w hSw; (try dsimp only at hSw); go_simp; try (with_reducible rfl))
                 simp only [Act.put, List.setIfInBounds_toArray, List.set_cons_zero, List.set_cons_succ]
                 refine wpAnyH_take (i := 1) (oi := ⟨some 68, .move (.tmp 67), 4, "sched.go:204", #[⟨0, .data⟩], none⟩) (v := ?v5z1) rfl (by kernel_rfl) (by kernel_rfl) (by kernel_rfl) (fun _ _ _ h => h) (Or.inl ⟨by rfl, ?hy5z1⟩) (by assumption) ?rest5z1
                 case hy5z1 => (intro w hSw; (try dsimp only at hSw); go_simp; try (with_reducible rfl))
                 simp only [Act.put, List.setIfInBounds_toArray, List.set_cons_zero, List.set_cons_succ]
                 refine wpAnyH_take (i := 2) (oi := ⟨some 69, .move (.tmp 0), 26, "sched.go:204", #[⟨1, .guard⟩], some (1, true)⟩) (v := ?v5z2) rfl (by kernel_rfl) (by kernel_rfl) (by kernel_rfl) (fun _ _ _ h => h) (Or.inl ⟨by rfl, ?hy5z2⟩) (by assumption) ?rest5z2
                 case hy5z2 => (intro w hSw; (try dsimp only at hSw); go_simp; try (with_reducible rfl))
                 simp only [Act.put, List.setIfInBounds_toArray, List.set_cons_zero, List.set_cons_succ]
                 refine wpAnyH_take (i := 3) (oi := ⟨some 70, .nilCheck (.tmp 69), 0, "sched.go:204", #[⟨2, .data⟩, ⟨1, .guard⟩], some (1, true)⟩) (v := ?v5z3) rfl (by kernel_rfl) (by kernel_rfl) (by kernel_rfl) (fun _ _ _ h => h) (Or.inl ⟨by rfl, ?hy5z3⟩) (by assumption) ?rest5z3
                 case hy5z3 => (intro w hSw; (try dsimp only at hSw); go_simp; try (with_reducible rfl))
                 simp only [Act.put, List.setIfInBounds_toArray, List.set_cons_zero, List.set_cons_succ]
                 refine wpAnyH_take (i := 4) (oi := ⟨some 71, .fieldAddr 112 (.tmp 70) 0, 0, "sched.go:204", #[⟨3, .data⟩, ⟨1, .guard⟩], some (1, true)⟩) (v := ?v5z4) rfl (by kernel_rfl) (by kernel_rfl) (by kernel_rfl) (fun _ _ _ h => h) (Or.inl ⟨by rfl, ?hy5z4⟩) (by assumption) ?rest5z4
                 case hy5z4 => (intro w hSw; (try dsimp only at hSw); go_simp; try (with_reducible rfl))
                 simp only [Act.put, List.setIfInBounds_toArray, List.set_cons_zero, List.set_cons_succ]
                 refine wpAnyH_take (i := 5) (oi := ⟨some 72, .load 24 (.tmp 71), 24, "sched.go:204", #[⟨4, .data⟩, ⟨1, .guard⟩], some (1, true)⟩) (v := ?v5z5) rfl (by kernel_rfl) (by kernel_rfl) (by kernel_rfl) (fun _ _ _ h => h) (Or.inl ⟨by rfl, ?hy5z5⟩) (by assumption) ?rest5z5
                 case hy5z5 => (intro w hSw; (try dsimp only at hSw); go_simp; try (with_reducible rfl))
                 simp only [Act.put, List.setIfInBounds_toArray, List.set_cons_zero, List.set_cons_succ]
                 refine wpAnyH_take (i := 6) (oi := ⟨some 73, .load 35 (.tmp 16), 35, "sched.go:204", #[⟨1, .guard⟩], some (1, true)⟩) (v := ?v5z6) rfl (by kernel_rfl) (by kernel_rfl) (by kernel_rfl) (fun _ _ _ h => h) (Or.inl ⟨by rfl, ?hy5z6⟩) (by assumption) ?rest5z6
                 case hy5z6 => (intro w hSw; (try dsimp only at hSw); go_simp; try (with_reducible rfl))
                 simp only [Act.put, List.setIfInBounds_toArray, List.set_cons_zero, List.set_cons_succ]
                 refine wpAnyH_take (i := 7) (oi := ⟨some 74, .move (.tmp 4), 3, "sched.go:204", #[⟨1, .guard⟩], some (1, true)⟩) (v := ?v5z7) rfl (by kernel_rfl) (by kernel_rfl) (by kernel_rfl) (fun _ _ _ h => h) (Or.inl ⟨by rfl, ?hy5z7⟩) (by assumption) ?rest5z7
                 case hy5z7 => (intro w hSw; (try dsimp only at hSw); go_simp; try (with_reducible rfl))
                 simp only [Act.put, List.setIfInBounds_toArray, List.set_cons_zero, List.set_cons_succ]
                 refine wpAnyH_ready (rs := [8]) (by kernel_rfl) (by simp) ?_
                 refine AllReadyH.cons (o := ⟨some 75, .call { callee := .value (.func 31), args := #[.tmp 72, .tmp 73, .tmp 74], argTypes := #[24, 35, 3] }, 4, "sched.go:204", #[⟨5, .data⟩, ⟨6, .data⟩, ⟨7, .data⟩, ⟨1, .chain⟩, ⟨1, .guard⟩], some (1, true)⟩) rfl (fun K hK => ?_) ?_
                 ·
                   go_simp
                   go_at_call 31
                   refine (leaf_c B p A c x mark _ (HA11.out.ext (below_drewN (Below.refl _ _) 1)) (show B ≤ W11.heap.size by have h1 := HB0.out; have h2 := HB11.out.size; have h3 := HFF.out.size; omega)).mono ?_
                   rw [HLf.out]
                   rintro e w12 ⟨rfl, hb⟩
                   have HB12 := Lib.hid (show Below W11.heap.size W11 w12 from ext_trans (below_drewN (Below.refl _ _) 1) hb)
                   have HS12 := Lib.hid (HS11.out.ext HB12.out)
                   have HX12 := Lib.hid (HX11.out.ext HB12.out)
                   have HM12 := Lib.hid (HM11.out.ext HB12.out)
                   clear hb
                   refine hK.out _ _ ?_ (fun hHeld => ?_)
                   · (first | exact ⟨(HS12.out.bk.cell 0).trans rfl, (HS12.out.bk.cell 1).trans rfl, (HX12.out.cell 0).trans rfl, (HX12.out.cell 1).trans rfl, (HX12.out.cell 2).trans rfl, (HM12.out.cell 6).trans rfl⟩ | exact ⟨z0, z1, y0, y1, y2, m6⟩ | go_keep)
                   clear hK K
                   try simp only [Act.put, List.setIfInBounds_toArray, List.set_cons_zero, List.set_cons_succ]
                   refine wpAnyH_take (i := 9) (oi := ⟨some 76, .unOp .not 4 (.tmp 75), 4, "sched.go:204", #[⟨8, .data⟩, ⟨1, .guard⟩], some (1, true)⟩) (v := ?v5z9) rfl (by kernel_rfl) (by kernel_rfl) (by kernel_rfl) (fun _ _ _ h => h) (Or.inl ⟨by rfl, ?hy5z9⟩) (by assumption) ?rest5z9
                   case hy5z9 => (intro w hSw; (try dsimp only at hSw); go_simp; try (with_reducible rfl))
                   simp only [Act.put, List.setIfInBounds_toArray, List.set_cons_zero, List.set_cons_succ]
                   refine wpAnyH_take (i := 10) (oi := ⟨some 77, .pick (.tmp 68) (.tmp 76) (.const (.bool false)), 4, "sched.go:204", #[⟨1, .data⟩, ⟨9, .data⟩], none⟩) (v := ?v5z10) rfl (by kernel_rfl) (by kernel_rfl) (by kernel_rfl) (fun _ _ _ h => h) (Or.inl ⟨by rfl, ?hy5z10⟩) (by assumption) ?rest5z10
                   case hy5z10 => (intro w hSw; (try dsimp only at hSw); go_simp; try (with_reducible rfl))
                   simp only [Act.put, List.setIfInBounds_toArray, List.set_cons_zero, List.set_cons_succ]
                   refine wpAnyH_take (i := 11) (oi := ⟨some 78, .move (.tmp 77), 4, "sched.go:204", #[⟨10, .data⟩, ⟨8, .chain⟩], none⟩) (v := ?v5z11) rfl (by kernel_rfl) (by kernel_rfl) (by kernel_rfl) (fun _ _ _ h => h) (Or.inl ⟨by rfl, ?hy5z11⟩) (by assumption) ?rest5z11
                   case hy5z11 => (intro w hSw; (try dsimp only at hSw); go_simp; try (with_reducible rfl))
                   simp only [Act.put, List.setIfInBounds_toArray, List.set_cons_zero, List.set_cons_succ]
                   refine wpAnyH_take (i := 12) (oi := ⟨some 79, .fieldAddr 86 (.tmp 11) 4, 0, "sched.go:204", #[⟨11, .guard⟩], some (11, true)⟩) (v := ?v5z12) rfl (by kernel_rfl) (by kernel_rfl) (by kernel_rfl) (fun _ _ _ h => h) (Or.inl ⟨by rfl, ?hy5z12⟩) (by assumption) ?rest5z12
                   case hy5z12 => (intro w hSw; (try dsimp only at hSw); go_simp; try (with_reducible rfl))
                   simp only [Act.put, List.setIfInBounds_toArray, List.set_cons_zero, List.set_cons_succ]
                   refine wpAnyH_take (i := 13) (oi := ⟨some 80, .load 54 (.tmp 79), 54, "sched.go:204", #[⟨12, .data⟩, ⟨11, .guard⟩], some (11, true)⟩) (v := ?v5z13) rfl (by kernel_rfl) (by kernel_rfl) (by kernel_rfl) (fun _ _ _ h => h) (Or.inl ⟨by rfl, ?hy5z13⟩) (by assumption) ?rest5z13
                   case hy5z13 => (intro w hSw; (try dsimp only at hSw); go_simp; try (with_reducible rfl))
                   simp only [Act.put, List.setIfInBounds_toArray, List.set_cons_zero, List.set_cons_succ]
                   refine wpAnyH_take (i := 14) (oi := ⟨some 81, .call { callee := .builtin .len, args := #[.tmp 80], argTypes := #[54] }, 3, "sched.go:204", #[⟨13, .data⟩, ⟨11, .guard⟩], some (11, true)⟩) (v := ?v5z14) rfl (by kernel_rfl) (by kernel_rfl) (by kernel_rfl) (fun _ _ _ h => h) (Or.inl ⟨by rfl, ?hy5z14⟩) (by assumption) ?rest5z14
                   case hy5z14 => (intro w hSw; (try dsimp only at hSw); go_simp; try (with_reducible rfl))
                   simp only [Act.put, List.setIfInBounds_toArray, List.set_cons_zero, List.set_cons_succ]
                   refine wpAnyH_take (i := 15) (oi := ⟨some 82, .binOp .lss 3 (.tmp 81) (.const (.int .i64 48)) 3, 4, "sched.go:204", #[⟨14, .data⟩, ⟨11, .guard⟩], some (11, true)⟩) (v := ?v5z15) rfl (by kernel_rfl) (by kernel_rfl) (by kernel_rfl) (fun _ _ _ h => h) (Or.inl ⟨by rfl, ?hy5z15⟩) (by assumption) ?rest5z15
                   case hy5z15 => (intro w hSw; (try dsimp only at hSw); go_simp; try (with_reducible rfl))
                   simp only [Act.put, List.setIfInBounds_toArray, List.set_cons_zero, List.set_cons_succ]
                   refine wpAnyH_take (i := 16) (oi := ⟨some 83, .pick (.tmp 78) (.tmp 82) (.const (.bool false)), 4, "sched.go:204", #[⟨11, .data⟩, ⟨15, .data⟩], none⟩) (v := ?v5z16) rfl (by kernel_rfl) (by kernel_rfl) (by kernel_rfl) (fun _ _ _ h => h) (Or.inl ⟨by rfl, ?hy5z16⟩) (by assumption) ?rest5z16
                   case hy5z16 => (intro w hSw; (try dsimp only at hSw); go_simp; try (with_reducible rfl))
                   simp only [Act.put, List.setIfInBounds_toArray, List.set_cons_zero, List.set_cons_succ]
                   refine wpAnyH_done (by kernel_rfl) ?_ _
                   go_wp2_with fail
                   go_meet
                   exact ⟨by rw [HD8b.out]; rfl, HB12⟩
                 exact AllReadyH.nil
               · have hd8 : decide (hl.length < 48) = false := decide_eq_false h8
                 have h8i : ¬ ((hl.length : Nat) : Int) < 48 := by omega
                 have HD8b := Lib.hid hd8
                 clear h8 hd8
                 refine wp_region_held_drew (S := (fun w' => w'.cell? ⟨sb, 0, none⟩ = some (.int .i64 p.parts) ∧ w'.cell? ⟨sb, 1, none⟩ = some (.slice A p.ops.length c) ∧ w'.cell? ⟨wr.heap.size, 0, none⟩ = some (.int .i64 x.b) ∧ w'.cell? ⟨wr.heap.size, 1, none⟩ = some (.int .i64 x.s) ∧ w'.cell? ⟨wr.heap.size, 2, none⟩ = some (.int .i64 x.p) ∧ w'.cell? ⟨w.heap.size + 1 + 1, 6, none⟩ = some (.slice Ah hl.length ch))) (by kernel_rfl) ?_ (fun hHeld => ?_)
                 · (first | exact ⟨(HS12.out.bk.cell 0).trans rfl, (HS12.out.bk.cell 1).trans rfl, (HX12.out.cell 0).trans rfl, (HX12.out.cell 1).trans rfl, (HX12.out.cell 2).trans rfl, (HM12.out.cell 6).trans rfl⟩ | exact ⟨z0, z1, y0, y1, y2, m6⟩ | go_keep)
                 refine wpAnyH_take (i := 0) (oi := ⟨some 67, .move (.tmp 18), 4, "sched.go:204", #[], none⟩) (v := ?v6z0) rfl (by kernel_rfl) (by kernel_rfl) (by kernel_rfl) (fun _ _ _ h => h) (Or.inl ⟨by rfl, ?hy6z0⟩) (by assumption) ?rest6z0
                 case hy6z0 => (intro w hSw; (try dsimp only at hSw); go_simp; try (with_reducible rfl))
                 simp only [Act.put, List.setIfInBounds_toArray, List.set_cons_zero, List.set_cons_succ]
                 refine wpAnyH_take (i := 1) (oi := ⟨some 68, .move (.tmp 67), 4, "sched.go:204", #[⟨0, .data⟩], none⟩) (v := ?v6z1) rfl (by kernel_rfl) (by kernel_rfl) (by kernel_rfl) (fun _ _ _ h => h) (Or.inl ⟨by rfl, ?hy6z1⟩) (by assumption) ?rest6z1
                 case hy6z1 => (intro w hSw; (try dsimp only at hSw); go_simp; try (with_reducible rfl))
                 simp only [Act.put, List.setIfInBounds_toArray, List.set_cons_zero, List.set_cons_succ]
                 refine wpAnyH_take (i := 2) (oi := ⟨some 69, .move (.tmp 0), 26, "sched.go:204", #[⟨1, .guard⟩], some (1, true)⟩) (v := ?v6z2) rfl (by kernel_rfl) (by kernel_rfl) (by kernel_rfl) (fun _ _ _ h => h) (Or.inl ⟨by rfl, ?hy6z2⟩) (by assumption) ?rest6z2
                 case hy6z2 => (intro w hSw; (try dsimp only at hSw); go_simp; try (with_reducible rfl))
                 simp only [Act.put, List.setIfInBounds_toArray, List.set_cons_zero, List.set_cons_succ]
                 refine wpAnyH_take (i := 3) (oi := ⟨some 70, .nilCheck (.tmp 69), 0, "sched.go:204", #[⟨2, .data⟩, ⟨1, .guard⟩], some (1, true)⟩) (v := ?v6z3) rfl (by kernel_rfl) (by kernel_rfl) (by kernel_rfl) (fun _ _ _ h => h) (Or.inl ⟨by rfl, ?hy6z3⟩) (by assumption) ?rest6z3
                 case hy6z3 => (intro w hSw; (try dsimp only at hSw); go_simp; try (with_reducible rfl))
                 simp only [Act.put, List.setIfInBounds_toArray, List.set_cons_zero, List.set_cons_succ]
                 refine wpAnyH_take (i := 4) (oi := ⟨some 71, .fieldAddr 112 (.tmp 70) 0, 0, "sched.go:204", #[⟨3, .data⟩, ⟨1, .guard⟩], some (1, true)⟩) (v := ?v6z4) rfl (by kernel_rfl) (by kernel_rfl) (by kernel_rfl) (fun _ _ _ h => h) (Or.inl ⟨by rfl, ?hy6z4⟩) (by assumption) ?rest6z4
                 case hy6z4 => (intro w hSw; (try dsimp only at hSw); go_simp; try (with_reducible rfl))
                 simp only [Act.put, List.setIfInBounds_toArray, List.set_cons_zero, List.set_cons_succ]
                 refine wpAnyH_take (i := 5) (oi := ⟨some 72, .load 24 (.tmp 71), 24, "sched.go:204", #[⟨4, .data⟩, ⟨1, .guard⟩], some (1, true)⟩) (v := ?v6z5) rfl (by kernel_rfl) (by kernel_rfl) (by kernel_rfl) (fun _ _ _ h => h) (Or.inl ⟨by rfl, ?hy6z5⟩) (by assumption) ?rest6z5
                 case hy6z5 => (intro w hSw; (try dsimp only at hSw); go_simp; try (with_reducible rfl))
                 simp only [Act.put, List.setIfInBounds_toArray, List.set_cons_zero, List.set_cons_succ]
                 refine wpAnyH_take (i := 6) (oi := ⟨some 73, .load 35 (.tmp 16), 35, "sched.go:204", #[⟨1, .guard⟩], some (1, true)⟩) (v := ?v6z6) rfl (by kernel_rfl) (by kernel_rfl) (by kernel_rfl) (fun _ _ _ h => h) (Or.inl ⟨by rfl, ?hy6z6⟩) (by assumption) ?rest6z6
                 case hy6z6 => (intro w hSw; (try dsimp only at hSw); go_simp; try (with_reducible rfl))
                 simp only [Act.put, List.setIfInBounds_toArray, List.set_cons_zero, List.set_cons_succ]
                 refine wpAnyH_take (i := 7) (oi := ⟨some 74, .move (.tmp 4), 3, "sched.go:204", #[⟨1, .guard⟩], some (1, true)⟩) (v := ?v6z7) rfl (by kernel_rfl) (by kernel_rfl) (by kernel_rfl) (fun _ _ _ h => h) (Or.inl ⟨by rfl, ?hy6z7⟩) (by assumption) ?rest6z7
                 case hy6z7 => (intro w hSw; (try dsimp only at hSw); go_simp; try (with_reducible rfl))
                 simp only [Act.put, List.setIfInBounds_toArray, List.set_cons_zero, List.set_cons_succ]
                 refine wpAnyH_ready (rs := [8]) (by kernel_rfl) (by simp) ?_
                 refine AllReadyH.cons (o := ⟨some 75, .call { callee := .value (.func 31), args := #[.tmp 72, .tmp 73, .tmp 74], argTypes := #[24, 35, 3] }, 4, "sched.go:204", #[⟨5, .data⟩, ⟨6, .data⟩, ⟨7, .data⟩, ⟨1, .chain⟩, ⟨1, .guard⟩], some (1, true)⟩) rfl (fun K hK => ?_) ?_
                 ·
                   go_simp
                   go_at_call 31
                   refine (leaf_c B p A c x mark _ (HA11.out.ext (below_drewN (Below.refl _ _) 1)) (show B ≤ W11.heap.size by have h1 := HB0.out; have h2 := HB11.out.size; have h3 := HFF.out.size; omega)).mono ?_
                   rw [HLf.out]
                   rintro e w12 ⟨rfl, hb⟩
                   have HB12 := Lib.hid (show Below W11.heap.size W11 w12 from ext_trans (below_drewN (Below.refl _ _) 1) hb)
                   have HS12 := Lib.hid (HS11.out.ext HB12.out)
                   have HX12 := Lib.hid (HX11.out.ext HB12.out)
                   have HM12 := Lib.hid (HM11.out.ext HB12.out)
                   clear hb
                   refine hK.out _ _ ?_ (fun hHeld => ?_)
                   · (first | exact ⟨(HS12.out.bk.cell 0).trans rfl, (HS12.out.bk.cell 1).trans rfl, (HX12.out.cell 0).trans rfl, (HX12.out.cell 1).trans rfl, (HX12.out.cell 2).trans rfl, (HM12.out.cell 6).trans rfl⟩ | exact ⟨z0, z1, y0, y1, y2, m6⟩ | go_keep)
                   clear hK K
                   try simp only [Act.put, List.setIfInBounds_toArray, List.set_cons_zero, List.set_cons_succ]
                   refine wpAnyH_take (i := 9) (oi := ⟨some 76, .unOp .not 4 (.tmp 75), 4, "sched.go:204", #[⟨8, .data⟩, ⟨1, .guard⟩], some (1, true)⟩) (v := ?v6z9) rfl (by kernel_rfl) (by kernel_rfl) (by kernel_rfl) (fun _ _ _ h => h) (Or.inl ⟨by rfl, ?hy6z9⟩) (by assumption) ?rest6z9
                   case hy6z9 => (intro w hSw; (try dsimp only at hSw); go_simp; try (with_reducible rfl))
                   simp only [Act.put, List.setIfInBounds_toArray, List.set_cons_zero, List.set_cons_succ]
                   refine wpAnyH_take (i := 10) (oi := ⟨some 77, .pick (.tmp 68) (.tmp 76) (.const (.bool false)), 4, "sched.go:204", #[⟨1, .data⟩, ⟨9, .data⟩], none⟩) (v := ?v6z10) rfl (by kernel_rfl) (by kernel_rfl) (by kernel_rfl) (fun _ _ _ h => h) (Or.inl ⟨by rfl, ?hy6z10⟩) (by assumption) ?rest6z10
                   case hy6z10 => (intro w hSw; (try dsimp only at hSw); go_simp; try (with_reducible rfl))
                   simp only [Act.put, List.setIfInBounds_toArray, List.set_cons_zero, List.set_cons_succ]
                   refine wpAnyH_take (i := 11) (oi := ⟨some 78, .move (.tmp 77), 4, "sched.go:204", #[⟨10, .data⟩, ⟨8, .chain⟩], none⟩) (v := ?v6z11) rfl (by kernel_rfl) (by kernel_rfl) (by kernel_rfl) (fun _ _ _ h => h) (Or.inl ⟨by rfl, ?hy6z11⟩) (by assumption) ?rest6z11
                   case hy6z11 => (intro w hSw; (try dsimp only at hSw); go_simp; try (with_reducible rfl))
                   simp only [Act.put, List.setIfInBounds_toArray, List.set_cons_zero, List.set_cons_succ]
                   refine wpAnyH_take (i := 12) (oi := ⟨some 79, .fieldAddr 86 (.tmp 11) 4, 0, "sched.go:204", #[⟨11, .guard⟩], some (11, true)⟩) (v := ?v6z12) rfl (by kernel_rfl) (by kernel_rfl) (by kernel_rfl) (fun _ _ _ h => h) (Or.inl ⟨by rfl, ?hy6z12⟩) (by assumption) ?rest6z12
                   case hy6z12 => (intro w hSw; (try dsimp only at hSw); go_simp; try (with_reducible rfl))
                   simp only [Act.put, List.setIfInBounds_toArray, List.set_cons_zero, List.set_cons_succ]
                   refine wpAnyH_take (i := 13) (oi := ⟨some 80, .load 54 (.tmp 79), 54, "sched.go:204", #[⟨12, .data⟩, ⟨11, .guard⟩], some (11, true)⟩) (v := ?v6z13) rfl (by kernel_rfl) (by kernel_rfl) (by kernel_rfl) (fun _ _ _ h => h) (Or.inl ⟨by rfl, ?hy6z13⟩) (by assumption) ?rest6z13
                   case hy6z13 => (intro w hSw; (try dsimp only at hSw); go_simp; try (with_reducible rfl))
                   simp only [Act.put, List.setIfInBounds_toArray, List.set_cons_zero, List.set_cons_succ]
                   refine wpAnyH_take (i := 14) (oi := ⟨some 81, .call { callee := .builtin .len, args := #[.tmp 80], argTypes := #[54] }, 3, "sched.go:204", #[⟨13, .data⟩, ⟨11, .guard⟩], some (11, true)⟩) (v := ?v6z14) rfl (by kernel_rfl) (by kernel_rfl) (by kernel_rfl) (fun _ _ _ h => h) (Or.inl ⟨by rfl, ?hy6z14⟩) (by assumption) ?rest6z14
                   case hy6z14 => (intro w hSw; (try dsimp only at hSw); go_simp; try (with_reducible rfl))
                   simp only [Act.put, List.setIfInBounds_toArray, List.set_cons_zero, List.set_cons_succ]
                   refine wpAnyH_take (i := 15) (oi := ⟨some 82, .binOp .lss 3 (.tmp 81) (.const (.int .i64 48)) 3, 4, "sched.go:204", #[⟨14, .data⟩, ⟨11, .guard⟩], some (11, true)⟩) (v := ?v6z15) rfl (by kernel_rfl) (by kernel_rfl) (by kernel_rfl) (fun _ _ _ h => h) (Or.inl ⟨by rfl, ?hy6z15⟩) (by assumption) ?rest6z15
                   case hy6z15 => (intro w hSw; (try dsimp only at hSw); go_simp; try (with_reducible rfl))
                   simp only [Act.put, List.setIfInBounds_toArray, List.set_cons_zero, List.set_cons_succ]
                   refine wpAnyH_take (i := 16) (oi := ⟨some 83, .pick (.tmp 78) (.tmp 82) (.const (.bool false)), 4, "sched.go:204", #[⟨11, .data⟩, ⟨15, .data⟩], none⟩) (v := ?v6z16) rfl (by kernel_rfl) (by kernel_rfl) (by kernel_rfl) (fun _ _ _ h => h) (Or.inl ⟨by rfl, ?hy6z16⟩) (by assumption) ?rest6z16
                   case hy6z16 => (intro w hSw; (try dsimp only at hSw); go_simp; try (with_reducible rfl))
                   simp only [Act.put, List.setIfInBounds_toArray, List.set_cons_zero, List.set_cons_succ]
                   refine wpAnyH_done (by kernel_rfl) ?_ _
                   go_wp2_with fail
                   go_meet
                   exact ⟨by rw [HD8b.out]; rfl, HB12⟩
                 exact AllReadyH.nil
          case rest =>
           obtain ⟨rfl, HB12⟩ := hcut
           obtain ⟨w12, rfl⟩ : ∃ w12 : World, w12 = wc := ⟨_, rfl⟩
           clear z0 z1 y0 y1 y2 m6 yl zl ml
           have HV12 := Lib.hid (HV11.out.ext HB12.out)
           obtain ⟨g, hg⟩ : ∃ g, g = (rok && (!lf && decide (hl.length < 48))) := ⟨_, rfl⟩
           rw [← hg]
           cases g with
           | false =>
             have HSt := Lib.hid (show ordStep p s mark hl x = hl from by
              unfold ordStep
              rw [if_neg]
              rintro ⟨e1, e2, e3⟩
              rw [← HRq.out] at e1
              rw [HLf.out] at e2
              rw [show rok = true from e1, e2, decide_eq_true e3] at hg
              cases hg)
             clear hg
             go_wp2_with fail
             go_roundg (gk - 1)
             case measure => omega
             case rel => exact ⟨i + 1, by omega, by go_num, by rw [HTk.out, HSt.out]; exact HV12⟩
           | true =>
             have hg' := hg.symm
             rw [Bool.and_eq_true, Bool.and_eq_true, Bool.not_eq_true', decide_eq_true_eq] at hg'
             obtain ⟨e1, e2, e3⟩ := hg'
             have HSt := Lib.hid (show ordStep p s mark hl x = hl ++ [⟨⟨rxb, rxs, rxp⟩, rwk⟩] from by
              unfold ordStep
              rw [← HRq.out, if_pos ⟨e1, by rw [HLf.out]; exact e2, e3⟩])
             clear hg e1 e2
             have HS12 := Lib.hid (HS11.out.ext HB12.out)
             have HM12 := Lib.hid (HM11.out.ext HB12.out)
             have HH12 := Lib.hid (HH11.out.ext HB12.out)
             have HR12 := Lib.hid ((HRr.out.ext HB11.out).ext HB12.out)
             have HO12 := Lib.hid (own_ext (own_ext HOr2.out HB11.out) HB12.out)
             have HF12 := Lib.hid (own_ext (own_ext HFr.out HB11.out) HB12.out)
             have HFF12 := Lib.hid ((HFF.out.ext HB11.out).ext HB12.out)
             have h0 : w12.cell? ⟨w10.heap.size, 0, none⟩ = some (.int .i64 rxb) := (HH12.out.cell 0).trans rfl
             have h1 : w12.cell? ⟨w10.heap.size, 1, none⟩ = some (.int .i64 rxs) := (HH12.out.cell 1).trans rfl
             have h2 : w12.cell? ⟨w10.heap.size, 2, none⟩ = some (.int .i64 rxp) := (HH12.out.cell 2).trans rfl
             have h3 : w12.cell? ⟨w10.heap.size, 3, none⟩ = some (.int .i64 rwk) := (HH12.out.cell 3).trans rfl
             have m6 : w12.cell? ⟨w.heap.size + 1 + 1, 6, none⟩ = some (.slice Ah hl.length ch) := (HM12.out.cell 6).trans rfl
             have hhl := HH12.out.lt
             have ml := HM12.out.lt
             have HE13 := Lib.hid (ext_alloc (Below.refl w12.heap.size w12) (.cells #[.int .i64 rxb, .int .i64 rxs, .int .i64 rxp, .int .i64 rwk] 57 (0, 0)))
             have HO13 := Lib.hid (own_ext HO12.out HE13.out)
             have HN13 := Lib.hid (Bk.new w12 57 #[.int .i64 rxb, .int .i64 rxs, .int .i64 rxp, .int .i64 rwk])
             have HM13 := Lib.hid (HM12.out.ext HE13.out)
             have hz12 := HFF12.out.size
             have HBd := Lib.hid (show ∀ k, R8 k → k < w12.heap.size from fun k hk => (HS12.out.bd k hk).2)
             go_wp2_with (first
              | (at_builtin; refine wpList_appG hold_app _ rfl (.tmp 85) (.tmp 87) rfl w.heap.size _ hl (by rfl) HO13.out (⟨⟨rxb, rxs, rxp⟩, rwk⟩ : Hd) (w12.heap.size) (by rfl) HN13.out (by omega) (by have h2 := HE13.out.size; omega) ?_
                 intro A7 c7 w13 hown7 hg7 hc7 hn7
                 have HO7 := Lib.hid hown7
                 have HG7 := Lib.hid hg7
                 have HN7 := Lib.hid hn7
                 have HM14 := Lib.hid (HM13.out.grown hg7 (fun e => own_ne_bk HO13.out HM13.out (by decide) e.symm))
                 have m7 : w13.cell? ⟨w.heap.size + 1 + 1, 6, none⟩ = some (.slice Ah hl.length ch) := (HM14.out.cell 6).trans rfl
                 have n7 := HM14.out.frozen 6
                 have ml7 := HM14.out.lt
                 clear hown7 hg7 hn7))
             go_roundg (gk - 1)
             case measure => omega
             case rel =>
              refine ⟨i + 1, by omega, by go_num, ?_⟩
              rw [HTk.out, HSt.out]
              have hF1 : Fr (fun k => (Value.slice Ah hl.length ch).ownBlock = some k) w12 w13 := (Fr.of_below HE13.out).grown HG7.out (fun k hk => .inl hk)
              have hF2 : Fr (fun k => (Value.slice Ah hl.length ch).ownBlock = some k ∨ k = w.heap.size + 1 + 1) w12 (w13.setCell ⟨w.heap.size + 1 + 1, 6, none⟩ (.slice A7 (hl.length + 1) c7)) := Fr.set_ (S := fun k => (Value.slice Ah hl.length ch).ownBlock = some k ∨ k = w.heap.size + 1 + 1) (p := ⟨w.heap.size + 1 + 1, 6, none⟩) (hF1.mono (fun k _ hk => Or.inl hk)) (Or.inl (Or.inr rfl)) _
              have hlen1 : (hl ++ [(⟨⟨rxb, rxs, rxp⟩, rwk⟩ : Hd)]).length = hl.length + 1 := by rw [List.length_append]; rfl
              have hO7 := HO7.out
              have hN7 := HN7.out
              rw [hlen1] at hO7 hN7
              refine Lib.hid ⟨A7, c7, ?_, ?_, fun k hk hr => ?_, own_fr HF12.out hF2 (fun k hk he => ?_), HS12.out.fr hF2 (fun k hk he => ?_) (fun k hk he => ?_), HR12.out.fr hF2 (fun he => ?_), HFF12.out.trans hF2 (fun k hk => .inr ?_), by rw [hlen1]; omega⟩
              · rw [hlen1]
                exact HM14.out.set_ 6 _
              · rw [hlen1]
                exact own_far HM14.out hO7 (by decide) 6 _
              · rw [hlen1] at hk
                have hb := HBd.out k hr
                rcases hN7 with h7 | h7
                · rw [h7] at hk; exact HDr.out k hk hr
                · rw [h7] at hk
                  injection hk with hk
                  simp only [World.size_alloc] at hk
                  omega
              · rcases he with he | he
                · exact (own_ne_own HF12.out HO12.out (by decide)).elim (fun h => by rw [hk] at h; cases h) (fun h => h (by rw [hk]; exact he.symm ▸ rfl))
                · exact own_ne_bk HF12.out HM12.out (by decide) (by rw [hk, he])
              · rcases he with he | he
                · exact HDr.out k he hk
                · exact HmR.out (he ▸ hk)
              · rcases he with he | he
                · have h8 := (HO12.out.lt k he).1
                  have h9 := HB0.out
                  omega
                · have h9 := HB0.out
                  omega
              · rcases he with he | he
                · exact own_ne_bk HO12.out HR12.out (by decide) he
                · omega
              · rcases hk with he | he
                · exact (HO12.out.lt k he).1
                · omega
        · have hil : i = fl.length := by omega
          subst hil
          rw [List.take_length] at HMr HOr2 HDr
          rw [show fl.foldl (ordStep p s mark) [] = ordL p s mark deep (⟨⟨xb, xs, xp⟩, sv⟩ : Jb).id from HOr.out.symm] at HMr HOr2 HDr
          obtain ⟨ol, hol⟩ : ∃ ol, ol = ordL p s mark deep (⟨⟨xb, xs, xp⟩, sv⟩ : Jb).id := ⟨_, rfl⟩
          rw [← hol] at HMr HOr2 HDr
          have HOl := Lib.hid hol
          have hz := HB7.out.size
          clear HV hi hik hol h48
          go_wp2_with (first
           | (refine wpList_load_row rfl 86 (.tmp 11) rfl (w.heap.size + 1 + 1) (by rfl) 86 (omC kd worker ⟨xb, xs, xp⟩ deep (.slice Ah ol.length ch) mark) (0, 0) _ HMr.out Tryz.underlying86 rfl (by kernel_rfl) ?_)
           | (refine wpList_store_row rfl 86 (.tmp 10) (.tmp 91) rfl (w.heap.size + 1) (omC kd worker ⟨xb, xs, xp⟩ deep (.slice Ah ol.length ch) mark) (by rfl) (by rfl) 86 _ HRr.out (by kernel_rfl) rfl (by kernel_rfl) ?_; simp only [Act.put]))
          refine bodyPost_ret (results_cell_only (g := w.heap.size + 1) (t := 86) (cs := omC kd worker ⟨xb, xs, xp⟩ deep (.slice Ah ol.length ch) mark) (fr := (0, 0)) rfl _ _ _ rfl (setRow_heap wr (w.heap.size + 1) _ _ _ _ HRr.out) Tryz.underlying86 rfl (by kernel_rfl)) rfl ?_
          have hF := fr_row wr (w.heap.size + 1) (omC kd worker ⟨xb, xs, xp⟩ deep (.slice Ah ol.length ch) mark)
          refine ⟨Ah, ch, R8, by rw [← HOl.out, ← show kd = (if sv then (6 : Int) else 1) from HKd.out], ?_, ⟨X8, HSr.out.fr hF (fun k hk e => HrR.out (e ▸ hk)) (fun k hk e => by have h1 := HB0.out; omega)⟩, HFF.out.trans hF (fun k hk => .inr (by omega)), fun k hk => (HR8.out k hk).imp id (fun h => by omega), ?_⟩
          · rw [← HOl.out]
            exact own_fr HOr2.out hF (fun k hk e => own_ne_bk HOr2.out HRr.out (by decide) (by rw [hk]; exact congrArg some e))
          · rw [← HOl.out]
            exact HDr.out
   | false =>
     obtain ⟨T, y, rfl⟩ := HW0.out.2 HU.out.symm
     obtain ⟨w7, rfl⟩ : ∃ w7 : World, w7 = wc := ⟨_, rfl⟩
     have HM7 := Lib.hid (HM4.out.ext HB6.out)
     have HR7 := Lib.hid (HR4.out.ext HB6.out)
     have HI7 := Lib.hid (HIc.out.ext HB6.out)
     have HOr := Lib.hid (show ordL p s mark deep (⟨⟨xb, xs, xp⟩, sv⟩ : Jb).id = [] from by
      unfold ordL
      rw [if_neg]
      obtain ⟨x, hx, hn⟩ := beginsB_no HU.out.symm
      rw [List.mem_singleton] at hx
      rw [← hx]
      exact hn)
     clear z0 z1 j0 j1 j2 jl sl
     go_wp2_with (first
      | (refine wpList_load_row rfl 86 (.tmp 11) rfl (w.heap.size + 1 + 1) (by rfl) 86 (omC kd worker ⟨xb, xs, xp⟩ deep (.slice none 0 0) mark) (0, 0) _ HM7.out Tryz.underlying86 rfl (by kernel_rfl) ?_)
      | (refine wpList_store_row rfl 86 (.tmp 10) (.tmp 44) rfl (w.heap.size + 1) (omC kd worker ⟨xb, xs, xp⟩ deep (.slice none 0 0) mark) (by rfl) (by rfl) 86 _ HR7.out (by kernel_rfl) rfl (by kernel_rfl) ?_; simp only [Act.put]))
     refine bodyPost_ret (results_cell_only (g := w.heap.size + 1) (t := 86) (cs := omC kd worker ⟨xb, xs, xp⟩ deep (.slice none 0 0) mark) (fr := (0, 0)) rfl _ _ _ rfl (setRow_heap w7 (w.heap.size + 1) _ _ _ _ HR7.out) Tryz.underlying86 rfl (by kernel_rfl)) rfl ?_
     have hF := fr_row w7 (w.heap.size + 1) (omC kd worker ⟨xb, xs, xp⟩ deep (.slice none 0 0) mark)
     have hbd := HIc.out
     refine ⟨none, 0, R, by rw [HOr.out, ← show kd = (if sv then (6 : Int) else 1) from HKd.out]; rfl, by rw [HOr.out]; exact World.ownsRow_nil _ _ _ _, HI7.out.fr hF (fun k hk e => by obtain ⟨X0, h0⟩ := HI.out; have h1 := (h0.bd k hk).2; omega) (fun k hk e => by have h1 := HB0.out; omega), (Fr.of_below (ext_trans HB.out HB6.out)).trans hF (fun k hk => .inr (by omega)), fun k hk => .inl hk, fun k hk => by rw [HOr.out] at hk; cases hk⟩
end
end Go.Proofs.YtapjhliglmohgaaGreatDoor
