/- LineG, LineH, Swap: laid together. -/
import Derived.Test.YtapjhliglmohgaaGreatDoorPwP
import Derived.Test.YtapjhliglmohgaaGreatDoorPwS
import Derived.Test.YtapjhliglmohgaaGreatDoorPwN
import Derived.Test.YtapjhliglmohgaaGreatDoorPwE
import Derived.Defers
import Derived.Recover
/- The walk through a lineage: the deferred closure of Walk. -/
namespace Go.Proofs.YtapjhliglmohgaaGreatDoor
open Go.RowKit Go.Sort
def zWay : Array Value := #[.slice none 0 0, .slice none 0 0, .slice none 0 0, .int .i64 0]
set_option maxRecDepth 100000 in
set_option maxHeartbeats 8000000 in
theorem wcatch_idle (rb eb : Nat) (w : World) :
 CallsD Tryz.prog 115 #[.pointer (some ⟨rb, 0, none⟩), .pointer (some ⟨eb, 0, none⟩)] .returning w fun e u' w' => e = .returned (.tuple #[]) ∧ u' = .returning ∧ w' = w := by
 have hta : ∀ w : World, (Instr.typeAssert .nilIface 20 28 true).run Tryz.prog w = .ok (.tuple #[.nilIface, .bool false]) w := fun _ => by kernel_rfl
 refine callsD_of_wpS Tryz.func115 rfl fun c₀ cs hu => ?_
 apply wpS_seq
 apply wpS_region
 simp [wpOpsS, go_sem, recoverD, hu, Tryz.ntmps115, Exit.thenS, hta]
 apply wpS_seq
 apply wpS_region
 simp [wpOpsS, go_sem, Exit.thenS]
 refine wpS_cond (t := false) (by simp [Act.eval, Array.replicate]) ?_
 simp only [Bool.false_eq_true, if_false]
 refine wpS_of_wp (wp_skip ?_)
 cases c₀
 simp_all [bodyPostS, results, Tryz.results115]
set_option maxRecDepth 100000 in
set_option maxHeartbeats 8000000 in
theorem wcatch_panic (rb eb : Nat) (y : Value) (w : World) (h1 : Bk w rb 120 zWay) (h2 : Bk w eb 28 #[.nilIface]) (hne : rb ≠ eb) :
 CallsD Tryz.prog 115 #[.pointer (some ⟨rb, 0, none⟩), .pointer (some ⟨eb, 0, none⟩)] (.panicking [{ v := .iface 169 y, recovered := false }]) w fun e u' w' =>
  e = .returned (.tuple #[]) ∧ u' = .panicking [{ v := .iface 169 y, recovered := true }] ∧ Bk w' rb 120 zWay ∧ Bk w' eb 28 #[.iface 169 y] ∧ Fr (fun k => k = rb ∨ k = eb) w w' := by
 have hta : ∀ w : World, (Instr.typeAssert (.iface 169 y) 20 28 true).run Tryz.prog w = .ok (.tuple #[.iface 169 y, .bool true]) w := fun _ => by kernel_rfl
 refine callsD_of_wpS Tryz.func115 rfl fun c₀ cs hu => ?_
 apply wpS_seq
 apply wpS_region
 simp [wpOpsS, go_sem, recoverD, hu, Tryz.ntmps115, Exit.thenS, hta]
 apply wpS_seq
 apply wpS_region
 simp [wpOpsS, go_sem, Exit.thenS]
 refine wpS_cond (t := true) (by simp [Act.eval, Array.replicate]) ?_
 simp only [if_true]
 apply wpS_region
 have c0 : w.cell? ⟨rb, 0, none⟩ = some (.slice none 0 0) := (h1.cell 0).trans rfl
 have c1 : w.cell? ⟨rb, 1, none⟩ = some (.slice none 0 0) := (h1.cell 1).trans rfl
 have c2 : w.cell? ⟨rb, 2, none⟩ = some (.slice none 0 0) := (h1.cell 2).trans rfl
 have c3 : w.cell? ⟨rb, 3, none⟩ = some (.int .i64 0) := (h1.cell 3).trans rfl
 have c4 : w.cell? ⟨eb, 0, none⟩ = some .nilIface := (h2.cell 0).trans rfl
 have f0 := h1.frozen 0
 have f1 := h1.frozen 1
 have f2 := h1.frozen 2
 have f3 := h1.frozen 3
 have f4 := h2.frozen 0
 have z1 := h1.lt
 have z2 := h2.lt
 simp [wpOpsS, go_sem, c0, c1, c2, c3, c4, f0, f1, f2, f3, f4, bodyPostS, results, Tryz.results115]
 refine ⟨(((((h1.set_ 0 _).set_ 1 _).set_ 2 _).set_ 3 _).far (p := ⟨eb, 0, none⟩) hne _), ?_, ?_⟩
 · exact (((((h2.far (p := ⟨rb, 0, none⟩) hne.symm _).far (p := ⟨rb, 1, none⟩) hne.symm _).far (p := ⟨rb, 2, none⟩) hne.symm _).far (p := ⟨rb, 3, none⟩) hne.symm _).set_ 0 _)
 · exact (((((Fr.refl.set_ (p := ⟨rb, 0, none⟩) (.inl (.inl rfl)) _).set_ (p := ⟨rb, 1, none⟩) (.inl (.inl rfl)) _).set_ (p := ⟨rb, 2, none⟩) (.inl (.inl rfl)) _).set_ (p := ⟨rb, 3, none⟩) (.inl (.inl rfl)) _).set_ (p := ⟨eb, 0, none⟩) (.inl (.inr rfl)) _)
end Go.Proofs.YtapjhliglmohgaaGreatDoor
/- The walk through a lineage: Walk of the program, for a right plan. -/
namespace Go.Proofs.YtapjhliglmohgaaGreatDoor
open Go.RowKit Go.Sort
def lnZ : LnD := ⟨[], [], [], 0⟩
/-- 11.2: what a walk tells, if it may begin at each. -/
def walkD (p : PlanD) (mark : Int) (held want : List Id3) : LnD := want.foldl (fun d x => comeD p mark held 300 d x 0) lnZ
def wayV (A1 A2 A3 : Option Addr) (c1 c2 c3 : Nat) (d : LnD) : Value := .agg #[.slice A1 d.seen.length c1, .slice A2 d.ready.length c2, .slice A3 d.used.length c3, .int .i64 d.depth]
def WalkPost (p : PlanD) (mark : Int) (held want : List Id3) (w : World) (e : Ending) (w' : World) : Prop :=
 ((∀ x ∈ want, beginD p mark x = 0) → ∃ (A1 A2 A3 : Option Addr) (c1 c2 c3 : Nat), e = .returned (.tuple #[wayV A1 A2 A3 c1 c2 c3 (walkD p mark held want), .nilIface]) ∧
   w'.ownsRow w.heap.size 35 3 (.slice A1 (walkD p mark held want).seen.length c1) (walkD p mark held want).seen.length (idsC (walkD p mark held want).seen) ∧
   w'.ownsRow w.heap.size 35 3 (.slice A2 (walkD p mark held want).ready.length c2) (walkD p mark held want).ready.length (idsC (walkD p mark held want).ready) ∧
   w'.ownsRow w.heap.size 35 3 (.slice A3 (walkD p mark held want).used.length c3) (walkD p mark held want).used.length (idsC (walkD p mark held want).used) ∧ Below w.heap.size w w') ∧
 ((∃ x ∈ want, beginD p mark x ≠ 0) → ∃ (v : Value) (at_ code : Int), e = .returned (.tuple #[.agg zWay, v]) ∧ ErrAt w' v at_ code ∧ Below w.heap.size w w')
section
variable {B : Nat} {X : LnX} {R : Nat → Prop} {p : PlanD} {A : Option Addr} {c : Nat} {mark : Int} {held : List Id3} {d : LnD} {ks : List Id3}
theorem LnAt.hold_ {w w1 : World} {x : Id3} (h : LnAt B X R p A c mark held d ks w) (hx : x ∉ held) (hm : MapIs idV w1 X.hb (mset (held.map fun x => (x, .int .i64 1)) x (.int .i64 1))) (hg : w.grownBy w1 (some X.hb)) : LnAt B X R p A c mark (held ++ [x]) d ks w1 := by
 have hBl : ∀ k, k < B → k ≠ X.hb := fun k hk e => by have := (h.bd _ h.rh.1).1; omega
 have hF : Fr (fun k => k = X.hb) w w1 := Fr.map_ hg
 have hms : mset (held.map fun x => (x, (.int .i64 1 : Value))) x (.int .i64 1) = (held ++ [x]).map fun x => (x, (.int .i64 1 : Value)) := by
  unfold mset
  rw [if_neg, List.map_append]
  · rfl
  · rw [List.map_map]
    simpa using hx
 rw [hms] at hm
 exact ⟨h.bk.fr hF (fun e => h.hm.ne_cells h.bk e.symm), h.ways.fr hF (fun k hk e => h.rh.2 (e ▸ hk)) hBl, hm, h.sm.fr hF (fun e => h.nm e.symm), own_fr h.s1 hF (own_ne_map h.s1 h.hm), own_fr h.s2 hF (own_ne_map h.s2 h.hm), own_fr h.s3 hF (own_ne_map h.s3 h.hm),
   h.rl, h.rh, h.rm, h.r1, h.r2, h.r3, h.rw_, h.n12, h.n13, h.n23, h.nm, fun k hk => ⟨(h.bd k hk).1, Nat.lt_of_lt_of_le (h.bd k hk).2 hF.size⟩⟩
end
theorem ln_start {B wyb hb mb Z c kc : Nat} {Rw : Nat → Prop} {p : PlanD} {A Kq : Option Addr} {mark : Int} {wl : World} (hW : WaysIs B wyb Rw p A Kq c kc wl) (hH : MapIs idV wl hb ([] : List (Id3 × Value))) (hV : MapIs idV wl mb ([] : List (Id3 × Value))) (hne : hb ≠ mb)
 (hRw : ∀ k, Rw k → Z ≤ k) (h1 : ¬ Rw hb) (h2 : ¬ Rw mb) (h3 : Z ≤ hb) (h4 : Z ≤ mb) (hBZ : B ≤ Z) :
 ∃ (X : LnX) (R : Nat → Prop), X.lb = wl.heap.size ∧ (∀ k, R k → Z ≤ k) ∧ LnAt B X R p A c mark [] lnZ [] (wl.alloc (.cells #[.int .i64 p.parts, .slice A p.ops.length c, .pointer (some ⟨wyb, 0, none⟩), .int .i64 mark, .map (some hb), .map (some mb), .slice none 0 0, .slice none 0 0, .slice none 0 0, .int .i64 0] 181 (0, 0))) := by
 have hWb := hW.bd
 have hHl := hH.lt
 have hVl := hV.lt
 have hbb := ext_alloc (Below.refl wl.heap.size wl) (.cells #[.int .i64 p.parts, .slice A p.ops.length c, .pointer (some ⟨wyb, 0, none⟩), .int .i64 mark, .map (some hb), .map (some mb), .slice none 0 0, .slice none 0 0, .slice none 0 0, .int .i64 0] 181 (0, 0))
 refine ⟨⟨wl.heap.size, wyb, hb, mb, Rw, Kq, kc, none, 0, none, 0, none, 0⟩, fun k => Rw k ∨ k = hb ∨ k = mb ∨ k = wl.heap.size, rfl, fun k hk => ?_, ⟨Bk.new _ _ _, hW.ext hbb, hH.ext hbb, hV.ext hbb, World.ownsRow_nil _ _ _ _, World.ownsRow_nil _ _ _ _, World.ownsRow_nil _ _ _ _, ⟨.inr (.inr (.inr rfl)), fun hk => by have := (hWb _ hk).2; simp only at this; omega⟩, ⟨.inr (.inl rfl), h1⟩, ⟨.inr (.inr (.inl rfl)), h2⟩, fun k hk => (by cases hk), fun k hk => (by cases hk), fun k hk => (by cases hk), fun k hk => .inl hk, fun k hk => (by cases hk), fun k hk => (by cases hk), fun k hk => (by cases hk), hne, fun k hk => ?_⟩⟩
 · rcases hk with hk | rfl | rfl | rfl
   · exact hRw k hk
   · exact h3
   · exact h4
   · omega
 · simp only [World.size_alloc]
   rcases hk with hk | rfl | rfl | rfl
   · have := hWb k hk; omega
   · omega
   · omega
   · omega
theorem deepD_lt {p : PlanD} {mark : Int} {x : Id3} (hp : Shaped p) (h : CanD p mark x) : deepD mark x + 1 < 300 := by
 obtain ⟨h1, s, q, hs, hq, hsl, hql⟩ := hasB_parts h.has
 have h2 := h.near
 have h3 := hp.n12
 unfold deepD
 omega
theorem walkD_ok {p : PlanD} {mark : Int} {held : List Id3} (hp : Shaped p) : ∀ {l : List Id3}, (∀ x ∈ l, CanD p mark x) → ∀ l', l' = l → LnOk p mark (walkD p mark held l')
 | l, h, l', hl => by
   subst hl
   have hz : LnOk p mark lnZ := ⟨List.nodup_nil, fun x hx => (by cases hx), List.nodup_nil, fun x hx => (by cases hx), Nat.le_refl _, by show (0 : Int) ≤ 0 ∧ (0 : Int) ≤ 100000; omega⟩
   have hf : ∀ (l : List Id3) (d : LnD), (∀ x ∈ l, CanD p mark x) → LnOk p mark d → LnOk p mark (l.foldl (fun d x => comeD p mark held 300 d x 0) d) := by
    intro l
    induction l with
    | nil => intro d _ hd; exact hd
    | cons y l ih =>
      intro d hy hd
      exact ih _ (fun z hz => hy z (List.mem_cons_of_mem _ hz)) (comeD_ok hp 300 d y 0 hd (hy y (List.mem_cons_self ..)) (by omega) (by omega)).1
   exact hf l' lnZ h hz
theorem ErrAt.bk {w w' : World} {v : Value} {at_ code : Int} (h : ErrAt w v at_ code) (hb : ∀ g t cs, Bk w g t cs → t = 171 → Bk w' g t cs) : ErrAt w' v at_ code := by
 obtain ⟨fb, s, v', n, h1, h2, h3⟩ := h
 exact ⟨fb, s, v', n, h1, hb _ _ _ h2 rfl, h3.bk hb⟩
theorem wp_only {P : Program} {cd : Code} {a : Act} {w : World} {K : Act → World → Prop} {Q : Exit → Act → World → Prop} (h : cd.wp P (Exit.then K (fun _ _ _ => False)) a w) : cd.wp P (Exit.then K Q) a w :=
 wp_mono h (fun e a w h => by cases e <;> first | exact h | exact h.elim)
set_option maxRecDepth 100000 in
set_option maxHeartbeats 64000000 in
theorem walk_c (B : Nat) (p : PlanD) (A : Option Addr) (c : Nat) (mark : Int) (held want : List Id3) (Aw Ah : Option Addr) (cw ch : Nat) (w : World) (hc : checkD p = none) (ho : RdS w (· < B) 5 A p.ops.length (opsC p.ops)) (hB : B ≤ w.heap.size)
 (hw : RdS w (· < w.heap.size) 3 Aw want.length (idsC want)) (hh : RdS w (· < w.heap.size) 3 Ah held.length (idsC held)) (hnd : held.Nodup) (hwl : want.length ≤ 1000000) (hhl : held.length ≤ 1000000) (htop : ∀ x ∈ want, x.b ≤ 9223372036854775807) :
 Calls Tryz.prog 62 #[planV p A c, .slice Aw want.length cw, .int .i64 mark, .slice Ah held.length ch] w (WalkPost p mark held want w) := by
 have hp := shaped_check hc
 have HP := Lib.hid hp
 have HCk := Lib.hid hc
 have HO := Lib.hid (ho.mono (fun k (hk : k < B) => (show k < w.heap.size by omega)))
 have HW := Lib.hid hw
 have HH := Lib.hid hh
 have HNd := Lib.hid hnd
 have HTop := Lib.hid htop
 have hmf : ∀ (fn : Fn) (first cap : Array Value) (w : World), (Instr.makeFunc fn first cap).run Tryz.prog w = .ok (.func fn first cap) w := fun _ _ _ _ => rfl
 have hmm := @run_makeMap Tryz.prog
 clear hp hc ho hw hh hnd htop
 go_enter_defers Tryz.func62, Tryz.ntmps62
 go_upto_region 5 with (first
  | (go_at_call 54; refine (check_c w.heap.size p A c _ (HO.out.ext (by repeat (first | exact Below.refl _ _ | refine ext_alloc ?_ _))) (by simp only [World.size_alloc]; omega)).mono ?_
     rintro e w1 hpost
     obtain ⟨rfl, hb⟩ := hpost.1 HCk.out
     have HC := Lib.hid (show Below w.heap.size w w1 from ext_trans (by repeat (first | exact Below.refl _ _ | refine ext_alloc ?_ _)) hb)
     have HCw := HC
     have HX := Lib.hid (show Bk w1 w.heap.size 24 #[.int .i64 p.parts, .slice A p.ops.length c] from (((Bk.new w 24 #[.int .i64 p.parts, .slice A p.ops.length c]).alloc _).alloc _).ext hb)
     have HRb := Lib.hid (show Bk w1 (w.heap.size + 1) 120 zWay from ((Bk.newAt (w := w.alloc (.cells #[.int .i64 p.parts, .slice A p.ops.length c] 24 (0, 0))) (t := 120) (cs := zWay) (by simp)).alloc _).ext hb)
     have HEb := Lib.hid (show Bk w1 (w.heap.size + 2) 28 #[.nilIface] from (Bk.newAt (w := (w.alloc (.cells #[.int .i64 p.parts, .slice A p.ops.length c] 24 (0, 0))).alloc (.cells zWay 120 (0, 0))) (t := 28) (cs := #[.nilIface]) (by simp)).ext hb)
     clear hpost hb))
 have hz1 : w.heap.size + 3 ≤ w1.heap.size := HEb.out.lt
 go_cut [11] from 10 to 33 (fun v11 wx => ∃ (X : LnX) (R : Nat → Prop), v11 = .pointer (some ⟨X.lb, 0, none⟩) ∧ Hid (LnAt w.heap.size X R p A c mark [] lnZ [] wx) ∧ Hid (∀ k, R k → w1.heap.size ≤ k) ∧ Hid (Below w1.heap.size w1 wx))
 case first =>
  have HX := Lib.hid (HX.out.drew)
  have HC := Lib.hid (show Below w1.heap.size w1 w1.drew from (Below.refl _ _).drew)
  refine wp_only ?_
  refine wp_region_held_drew (S := (fun w' => w'.cell? ⟨w.heap.size, 0, none⟩ = some (.int .i64 p.parts) ∧ w'.cell? ⟨w.heap.size, 1, none⟩ = some (.slice A p.ops.length c))) (by kernel_rfl) ?_ (fun hHeld => ?_)
  · (first | exact ⟨(HX.out.cell 0).trans rfl, (HX.out.cell 1).trans rfl⟩ | go_keep)
  refine wpAnyH_take (i := 0) (oi := ⟨some 26, .load 24 (.tmp 4), 24, "line.go:85", #[], none⟩) (v := ?v1z0) rfl (by kernel_rfl) (by kernel_rfl) (by kernel_rfl) (fun _ _ _ h => h) (Or.inl ⟨by rfl, ?hy1z0⟩) (by assumption) ?rest1z0
  case hy1z0 => (intro w hSw; (try dsimp only at hSw); go_simp; try (with_reducible rfl))
  simp only [Act.put, List.setIfInBounds_toArray, List.set_cons_zero, List.set_cons_succ]
  refine wpAnyH_take (i := 1) (oi := ⟨some 27, .load 24 (.tmp 4), 24, "line.go:85", #[], none⟩) (v := ?v1z1) rfl (by kernel_rfl) (by kernel_rfl) (by kernel_rfl) (fun _ _ _ h => h) (Or.inl ⟨by rfl, ?hy1z1⟩) (by assumption) ?rest1z1
  case hy1z1 => (intro w hSw; (try dsimp only at hSw); go_simp; try (with_reducible rfl))
  simp only [Act.put, List.setIfInBounds_toArray, List.set_cons_zero, List.set_cons_succ]
  refine wpAnyH_take (i := 3) (oi := ⟨some 29, .move (.tmp 2), 3, "line.go:85", #[], none⟩) (v := ?v1z3) rfl (by kernel_rfl) (by kernel_rfl) (by kernel_rfl) (fun _ _ _ h => h) (Or.inl ⟨by rfl, ?hy1z3⟩) (by assumption) ?rest1z3
  case hy1z3 => (intro w hSw; (try dsimp only at hSw); go_simp; try (with_reducible rfl))
  simp only [Act.put, List.setIfInBounds_toArray, List.set_cons_zero, List.set_cons_succ]
  refine wpAnyH_ready (rs := [2, 4, 5]) (by kernel_rfl) (by simp) ?_
  refine AllReadyH.cons (o := ⟨some 28, .call { callee := .value (.func 56), args := #[.tmp 27], argTypes := #[24] }, 107, "line.go:85", #[⟨1, .data⟩], none⟩) rfl (fun K hK => ?_) ?_
  ·
    go_simp
    go_at_call 56
    refine (new_c w.heap.size p A c _ (HO.out.ext (show Below w.heap.size w _ from (HCw.out).trans (HC.out.mono (by omega)))) HP.out (by have := HC.out.size; omega)).mono ?_
    rintro e wN ⟨wyb, Kq, kc, Rw, rfl, hW, hb, hR⟩
    have hszN := hb.size
    have HRw := Lib.hid hR
    have HWy := Lib.hid hW
    have HWb := Lib.hid hW.bd
    have HC := Lib.hid (ext_trans HC.out hb)
    have HX := Lib.hid (HX.out.ext hb)
    try (have HHm := Lib.hid (HHm.out.ext hb))
    try (have HVm := Lib.hid (HVm.out.ext hb))
    clear hW hb hR
    refine hK.out _ _ ?_ (fun hHeld => ?_)
    · (first | exact ⟨(HX.out.cell 0).trans rfl, (HX.out.cell 1).trans rfl⟩ | go_keep)
    clear hK K
    try simp only [Act.put, List.setIfInBounds_toArray, List.set_cons_zero, List.set_cons_succ]
    refine wpAnyH_ready (rs := [4, 5]) (by kernel_rfl) (by simp) ?_
    refine AllReadyH.cons (o := ⟨some 30, .makeMap 110 none, 110, "line.go:85", #[], none⟩) rfl (fun K hK => ?_) ?_
    ·
      refine step_makeMap (enc := idV) _ rfl 110 rfl (by first | exact hmm _ _ | simp [hmm]) ?_
      intro wH hb_ hmH hb hbH hszH
      have HC := Lib.hid (ext_trans HC.out hb)
      have HX := Lib.hid (HX.out.ext hb)
      have HHm := Lib.hid hmH
      try (have HVm := Lib.hid (HVm.out.ext hb))
      try (have HWy := Lib.hid (HWy.out.ext hb))
      have HbH := Lib.hid hbH
      have HsH := Lib.hid hszH
      clear hmH hb hbH hszH
      refine hK.out _ _ ?_ (fun hHeld => ?_)
      · (first | exact ⟨(HX.out.cell 0).trans rfl, (HX.out.cell 1).trans rfl⟩ | go_keep)
      clear hK K
      try simp only [Act.put, List.setIfInBounds_toArray, List.set_cons_zero, List.set_cons_succ]
      refine wpAnyH_ready (rs := [5]) (by kernel_rfl) (by simp) ?_
      refine AllReadyH.cons (o := ⟨some 31, .makeMap 110 none, 110, "line.go:85", #[], none⟩) rfl (fun K hK => ?_) ?_
      ·
        refine step_makeMap (enc := idV) _ rfl 110 rfl (by first | exact hmm _ _ | simp [hmm]) ?_
        intro wV vb_ hmV hb hbV hszV
        have HC := Lib.hid (ext_trans HC.out hb)
        have HX := Lib.hid (HX.out.ext hb)
        have HVm := Lib.hid hmV
        try (have HHm := Lib.hid (HHm.out.ext hb))
        try (have HWy := Lib.hid (HWy.out.ext hb))
        have HbV := Lib.hid hbV
        have HsV := Lib.hid hszV
        clear hmV hb hbV hszV
        refine hK.out _ _ ?_ (fun hHeld => ?_)
        · (first | exact ⟨(HX.out.cell 0).trans rfl, (HX.out.cell 1).trans rfl⟩ | go_keep)
        clear hK K
        try simp only [Act.put, List.setIfInBounds_toArray, List.set_cons_zero, List.set_cons_succ]
        refine wpAnyH_take (i := 6) (oi := ⟨some 32, .build 181 #[(0, .tmp 26), (1, .tmp 28), (2, .tmp 29), (3, .tmp 30), (4, .tmp 31)], 181, "line.go:85", #[⟨0, .data⟩, ⟨2, .data⟩, ⟨3, .data⟩, ⟨4, .data⟩, ⟨5, .data⟩], none⟩) (v := ?v1z6) rfl (by kernel_rfl) (by kernel_rfl) (by kernel_rfl) (fun _ _ _ h => h) (Or.inl ⟨by rfl, ?hy1z6⟩) (by assumption) ?rest1z6
        case hy1z6 => (intro w hSw; (try dsimp only at hSw); go_simp; try (with_reducible rfl))
        simp only [Act.put, List.setIfInBounds_toArray, List.set_cons_zero, List.set_cons_succ]
        refine wpAnyH_ready (rs := [7]) (by kernel_rfl) (by simp) ?_
        refine AllReadyH.cons (o := ⟨some 33, .box 181 (.tmp 32), 179, "line.go:85", #[⟨6, .data⟩], none⟩) rfl (fun K hK => ?_) ?_
        ·
          go_simp
          refine hK.out _ _ ?_ (fun hHeld => ?_)
          · (first | exact ⟨(HX.out.cell 0).trans rfl, (HX.out.cell 1).trans rfl⟩ | go_keep)
          clear hK K
          try simp only [Act.put, List.setIfInBounds_toArray, List.set_cons_zero, List.set_cons_succ]
          refine wpAnyH_take (i := 8) (oi := ⟨some 11, .assign (.tmp 33), 179, "line.go:85", #[⟨7, .data⟩, ⟨2, .chain⟩, ⟨0, .phase⟩, ⟨1, .phase⟩, ⟨2, .phase⟩, ⟨3, .phase⟩, ⟨4, .phase⟩, ⟨5, .phase⟩, ⟨6, .phase⟩, ⟨7, .phase⟩], none⟩) (v := ?v1z8) rfl (by kernel_rfl) (by kernel_rfl) (by kernel_rfl) (fun _ _ _ h => h) (Or.inl ⟨by rfl, ?hy1z8⟩) (by assumption) ?rest1z8
          case hy1z8 => (intro w hSw; (try dsimp only at hSw); go_simp; try (with_reducible rfl))
          simp only [Act.put, List.setIfInBounds_toArray, List.set_cons_zero, List.set_cons_succ]
          refine wpAnyH_done (by kernel_rfl) ?_ _
          go_wp2_with fail
          go_meet
          have e0 : w1.drew.heap.size = w1.heap.size := rfl
          have e1 := HbH.out
          have e2 := HbV.out
          have e3 := HsH.out
          have e4 := HsV.out
          have e5 := HC.out.size
          obtain ⟨X, R, hlb, hR, hA⟩ := ln_start (Z := w1.heap.size) (mark := mark) HWy.out HHm.out HVm.out (by omega) (fun k hk => by have a1 := HRw.out k hk; omega) (fun hk => by have a1 := HRw.out _ hk; have a2 := (HWb.out _ hk).2; omega) (fun hk => by have a1 := HRw.out _ hk; have a2 := (HWb.out _ hk).2; omega) (by omega) (by omega) (by omega)
          exact ⟨X, R, by rw [hlb], Lib.hid hA, Lib.hid hR, Lib.hid (ext_alloc HC.out _)⟩
        exact AllReadyH.nil
      exact AllReadyH.nil
    refine AllReadyH.cons (o := ⟨some 31, .makeMap 110 none, 110, "line.go:85", #[], none⟩) rfl (fun K hK => ?_) ?_
    ·
      refine step_makeMap (enc := idV) _ rfl 110 rfl (by first | exact hmm _ _ | simp [hmm]) ?_
      intro wV vb_ hmV hb hbV hszV
      have HC := Lib.hid (ext_trans HC.out hb)
      have HX := Lib.hid (HX.out.ext hb)
      have HVm := Lib.hid hmV
      try (have HHm := Lib.hid (HHm.out.ext hb))
      try (have HWy := Lib.hid (HWy.out.ext hb))
      have HbV := Lib.hid hbV
      have HsV := Lib.hid hszV
      clear hmV hb hbV hszV
      refine hK.out _ _ ?_ (fun hHeld => ?_)
      · (first | exact ⟨(HX.out.cell 0).trans rfl, (HX.out.cell 1).trans rfl⟩ | go_keep)
      clear hK K
      try simp only [Act.put, List.setIfInBounds_toArray, List.set_cons_zero, List.set_cons_succ]
      refine wpAnyH_ready (rs := [4]) (by kernel_rfl) (by simp) ?_
      refine AllReadyH.cons (o := ⟨some 30, .makeMap 110 none, 110, "line.go:85", #[], none⟩) rfl (fun K hK => ?_) ?_
      ·
        refine step_makeMap (enc := idV) _ rfl 110 rfl (by first | exact hmm _ _ | simp [hmm]) ?_
        intro wH hb_ hmH hb hbH hszH
        have HC := Lib.hid (ext_trans HC.out hb)
        have HX := Lib.hid (HX.out.ext hb)
        have HHm := Lib.hid hmH
        try (have HVm := Lib.hid (HVm.out.ext hb))
        try (have HWy := Lib.hid (HWy.out.ext hb))
        have HbH := Lib.hid hbH
        have HsH := Lib.hid hszH
        clear hmH hb hbH hszH
        refine hK.out _ _ ?_ (fun hHeld => ?_)
        · (first | exact ⟨(HX.out.cell 0).trans rfl, (HX.out.cell 1).trans rfl⟩ | go_keep)
        clear hK K
        try simp only [Act.put, List.setIfInBounds_toArray, List.set_cons_zero, List.set_cons_succ]
        refine wpAnyH_take (i := 6) (oi := ⟨some 32, .build 181 #[(0, .tmp 26), (1, .tmp 28), (2, .tmp 29), (3, .tmp 30), (4, .tmp 31)], 181, "line.go:85", #[⟨0, .data⟩, ⟨2, .data⟩, ⟨3, .data⟩, ⟨4, .data⟩, ⟨5, .data⟩], none⟩) (v := ?v1z6x1) rfl (by kernel_rfl) (by kernel_rfl) (by kernel_rfl) (fun _ _ _ h => h) (Or.inl ⟨by rfl, ?hy1z6x1⟩) (by assumption) ?rest1z6x1
        case hy1z6x1 => (intro w hSw; (try dsimp only at hSw); go_simp; try (with_reducible rfl))
        simp only [Act.put, List.setIfInBounds_toArray, List.set_cons_zero, List.set_cons_succ]
        refine wpAnyH_ready (rs := [7]) (by kernel_rfl) (by simp) ?_
        refine AllReadyH.cons (o := ⟨some 33, .box 181 (.tmp 32), 179, "line.go:85", #[⟨6, .data⟩], none⟩) rfl (fun K hK => ?_) ?_
        ·
          go_simp
          refine hK.out _ _ ?_ (fun hHeld => ?_)
          · (first | exact ⟨(HX.out.cell 0).trans rfl, (HX.out.cell 1).trans rfl⟩ | go_keep)
          clear hK K
          try simp only [Act.put, List.setIfInBounds_toArray, List.set_cons_zero, List.set_cons_succ]
          refine wpAnyH_take (i := 8) (oi := ⟨some 11, .assign (.tmp 33), 179, "line.go:85", #[⟨7, .data⟩, ⟨2, .chain⟩, ⟨0, .phase⟩, ⟨1, .phase⟩, ⟨2, .phase⟩, ⟨3, .phase⟩, ⟨4, .phase⟩, ⟨5, .phase⟩, ⟨6, .phase⟩, ⟨7, .phase⟩], none⟩) (v := ?v1z8x1) rfl (by kernel_rfl) (by kernel_rfl) (by kernel_rfl) (fun _ _ _ h => h) (Or.inl ⟨by rfl, ?hy1z8x1⟩) (by assumption) ?rest1z8x1
          case hy1z8x1 => (intro w hSw; (try dsimp only at hSw); go_simp; try (with_reducible rfl))
          simp only [Act.put, List.setIfInBounds_toArray, List.set_cons_zero, List.set_cons_succ]
          refine wpAnyH_done (by kernel_rfl) ?_ _
          go_wp2_with fail
          go_meet
          have e0 : w1.drew.heap.size = w1.heap.size := rfl
          have e1 := HbH.out
          have e2 := HbV.out
          have e3 := HsH.out
          have e4 := HsV.out
          have e5 := HC.out.size
          obtain ⟨X, R, hlb, hR, hA⟩ := ln_start (Z := w1.heap.size) (mark := mark) HWy.out HHm.out HVm.out (by omega) (fun k hk => by have a1 := HRw.out k hk; omega) (fun hk => by have a1 := HRw.out _ hk; have a2 := (HWb.out _ hk).2; omega) (fun hk => by have a1 := HRw.out _ hk; have a2 := (HWb.out _ hk).2; omega) (by omega) (by omega) (by omega)
          exact ⟨X, R, by rw [hlb], Lib.hid hA, Lib.hid hR, Lib.hid (ext_alloc HC.out _)⟩
        exact AllReadyH.nil
      exact AllReadyH.nil
    exact AllReadyH.nil
  refine AllReadyH.cons (o := ⟨some 30, .makeMap 110 none, 110, "line.go:85", #[], none⟩) rfl (fun K hK => ?_) ?_
  ·
    refine step_makeMap (enc := idV) _ rfl 110 rfl (by first | exact hmm _ _ | simp [hmm]) ?_
    intro wH hb_ hmH hb hbH hszH
    have HC := Lib.hid (ext_trans HC.out hb)
    have HX := Lib.hid (HX.out.ext hb)
    have HHm := Lib.hid hmH
    try (have HVm := Lib.hid (HVm.out.ext hb))
    try (have HWy := Lib.hid (HWy.out.ext hb))
    have HbH := Lib.hid hbH
    have HsH := Lib.hid hszH
    clear hmH hb hbH hszH
    refine hK.out _ _ ?_ (fun hHeld => ?_)
    · (first | exact ⟨(HX.out.cell 0).trans rfl, (HX.out.cell 1).trans rfl⟩ | go_keep)
    clear hK K
    try simp only [Act.put, List.setIfInBounds_toArray, List.set_cons_zero, List.set_cons_succ]
    refine wpAnyH_ready (rs := [2, 5]) (by kernel_rfl) (by simp) ?_
    refine AllReadyH.cons (o := ⟨some 28, .call { callee := .value (.func 56), args := #[.tmp 27], argTypes := #[24] }, 107, "line.go:85", #[⟨1, .data⟩], none⟩) rfl (fun K hK => ?_) ?_
    ·
      go_simp
      go_at_call 56
      refine (new_c w.heap.size p A c _ (HO.out.ext (show Below w.heap.size w _ from (HCw.out).trans (HC.out.mono (by omega)))) HP.out (by have := HC.out.size; omega)).mono ?_
      rintro e wN ⟨wyb, Kq, kc, Rw, rfl, hW, hb, hR⟩
      have hszN := hb.size
      have HRw := Lib.hid hR
      have HWy := Lib.hid hW
      have HWb := Lib.hid hW.bd
      have HC := Lib.hid (ext_trans HC.out hb)
      have HX := Lib.hid (HX.out.ext hb)
      try (have HHm := Lib.hid (HHm.out.ext hb))
      try (have HVm := Lib.hid (HVm.out.ext hb))
      clear hW hb hR
      refine hK.out _ _ ?_ (fun hHeld => ?_)
      · (first | exact ⟨(HX.out.cell 0).trans rfl, (HX.out.cell 1).trans rfl⟩ | go_keep)
      clear hK K
      try simp only [Act.put, List.setIfInBounds_toArray, List.set_cons_zero, List.set_cons_succ]
      refine wpAnyH_ready (rs := [5]) (by kernel_rfl) (by simp) ?_
      refine AllReadyH.cons (o := ⟨some 31, .makeMap 110 none, 110, "line.go:85", #[], none⟩) rfl (fun K hK => ?_) ?_
      ·
        refine step_makeMap (enc := idV) _ rfl 110 rfl (by first | exact hmm _ _ | simp [hmm]) ?_
        intro wV vb_ hmV hb hbV hszV
        have HC := Lib.hid (ext_trans HC.out hb)
        have HX := Lib.hid (HX.out.ext hb)
        have HVm := Lib.hid hmV
        try (have HHm := Lib.hid (HHm.out.ext hb))
        try (have HWy := Lib.hid (HWy.out.ext hb))
        have HbV := Lib.hid hbV
        have HsV := Lib.hid hszV
        clear hmV hb hbV hszV
        refine hK.out _ _ ?_ (fun hHeld => ?_)
        · (first | exact ⟨(HX.out.cell 0).trans rfl, (HX.out.cell 1).trans rfl⟩ | go_keep)
        clear hK K
        try simp only [Act.put, List.setIfInBounds_toArray, List.set_cons_zero, List.set_cons_succ]
        refine wpAnyH_take (i := 6) (oi := ⟨some 32, .build 181 #[(0, .tmp 26), (1, .tmp 28), (2, .tmp 29), (3, .tmp 30), (4, .tmp 31)], 181, "line.go:85", #[⟨0, .data⟩, ⟨2, .data⟩, ⟨3, .data⟩, ⟨4, .data⟩, ⟨5, .data⟩], none⟩) (v := ?v1z6x2) rfl (by kernel_rfl) (by kernel_rfl) (by kernel_rfl) (fun _ _ _ h => h) (Or.inl ⟨by rfl, ?hy1z6x2⟩) (by assumption) ?rest1z6x2
        case hy1z6x2 => (intro w hSw; (try dsimp only at hSw); go_simp; try (with_reducible rfl))
        simp only [Act.put, List.setIfInBounds_toArray, List.set_cons_zero, List.set_cons_succ]
        refine wpAnyH_ready (rs := [7]) (by kernel_rfl) (by simp) ?_
        refine AllReadyH.cons (o := ⟨some 33, .box 181 (.tmp 32), 179, "line.go:85", #[⟨6, .data⟩], none⟩) rfl (fun K hK => ?_) ?_
        ·
          go_simp
          refine hK.out _ _ ?_ (fun hHeld => ?_)
          · (first | exact ⟨(HX.out.cell 0).trans rfl, (HX.out.cell 1).trans rfl⟩ | go_keep)
          clear hK K
          try simp only [Act.put, List.setIfInBounds_toArray, List.set_cons_zero, List.set_cons_succ]
          refine wpAnyH_take (i := 8) (oi := ⟨some 11, .assign (.tmp 33), 179, "line.go:85", #[⟨7, .data⟩, ⟨2, .chain⟩, ⟨0, .phase⟩, ⟨1, .phase⟩, ⟨2, .phase⟩, ⟨3, .phase⟩, ⟨4, .phase⟩, ⟨5, .phase⟩, ⟨6, .phase⟩, ⟨7, .phase⟩], none⟩) (v := ?v1z8x2) rfl (by kernel_rfl) (by kernel_rfl) (by kernel_rfl) (fun _ _ _ h => h) (Or.inl ⟨by rfl, ?hy1z8x2⟩) (by assumption) ?rest1z8x2
          case hy1z8x2 => (intro w hSw; (try dsimp only at hSw); go_simp; try (with_reducible rfl))
          simp only [Act.put, List.setIfInBounds_toArray, List.set_cons_zero, List.set_cons_succ]
          refine wpAnyH_done (by kernel_rfl) ?_ _
          go_wp2_with fail
          go_meet
          have e0 : w1.drew.heap.size = w1.heap.size := rfl
          have e1 := HbH.out
          have e2 := HbV.out
          have e3 := HsH.out
          have e4 := HsV.out
          have e5 := HC.out.size
          obtain ⟨X, R, hlb, hR, hA⟩ := ln_start (Z := w1.heap.size) (mark := mark) HWy.out HHm.out HVm.out (by omega) (fun k hk => by have a1 := HRw.out k hk; omega) (fun hk => by have a1 := HRw.out _ hk; have a2 := (HWb.out _ hk).2; omega) (fun hk => by have a1 := HRw.out _ hk; have a2 := (HWb.out _ hk).2; omega) (by omega) (by omega) (by omega)
          exact ⟨X, R, by rw [hlb], Lib.hid hA, Lib.hid hR, Lib.hid (ext_alloc HC.out _)⟩
        exact AllReadyH.nil
      exact AllReadyH.nil
    refine AllReadyH.cons (o := ⟨some 31, .makeMap 110 none, 110, "line.go:85", #[], none⟩) rfl (fun K hK => ?_) ?_
    ·
      refine step_makeMap (enc := idV) _ rfl 110 rfl (by first | exact hmm _ _ | simp [hmm]) ?_
      intro wV vb_ hmV hb hbV hszV
      have HC := Lib.hid (ext_trans HC.out hb)
      have HX := Lib.hid (HX.out.ext hb)
      have HVm := Lib.hid hmV
      try (have HHm := Lib.hid (HHm.out.ext hb))
      try (have HWy := Lib.hid (HWy.out.ext hb))
      have HbV := Lib.hid hbV
      have HsV := Lib.hid hszV
      clear hmV hb hbV hszV
      refine hK.out _ _ ?_ (fun hHeld => ?_)
      · (first | exact ⟨(HX.out.cell 0).trans rfl, (HX.out.cell 1).trans rfl⟩ | go_keep)
      clear hK K
      try simp only [Act.put, List.setIfInBounds_toArray, List.set_cons_zero, List.set_cons_succ]
      refine wpAnyH_ready (rs := [2]) (by kernel_rfl) (by simp) ?_
      refine AllReadyH.cons (o := ⟨some 28, .call { callee := .value (.func 56), args := #[.tmp 27], argTypes := #[24] }, 107, "line.go:85", #[⟨1, .data⟩], none⟩) rfl (fun K hK => ?_) ?_
      ·
        go_simp
        go_at_call 56
        refine (new_c w.heap.size p A c _ (HO.out.ext (show Below w.heap.size w _ from (HCw.out).trans (HC.out.mono (by omega)))) HP.out (by have := HC.out.size; omega)).mono ?_
        rintro e wN ⟨wyb, Kq, kc, Rw, rfl, hW, hb, hR⟩
        have hszN := hb.size
        have HRw := Lib.hid hR
        have HWy := Lib.hid hW
        have HWb := Lib.hid hW.bd
        have HC := Lib.hid (ext_trans HC.out hb)
        have HX := Lib.hid (HX.out.ext hb)
        try (have HHm := Lib.hid (HHm.out.ext hb))
        try (have HVm := Lib.hid (HVm.out.ext hb))
        clear hW hb hR
        refine hK.out _ _ ?_ (fun hHeld => ?_)
        · (first | exact ⟨(HX.out.cell 0).trans rfl, (HX.out.cell 1).trans rfl⟩ | go_keep)
        clear hK K
        try simp only [Act.put, List.setIfInBounds_toArray, List.set_cons_zero, List.set_cons_succ]
        refine wpAnyH_take (i := 6) (oi := ⟨some 32, .build 181 #[(0, .tmp 26), (1, .tmp 28), (2, .tmp 29), (3, .tmp 30), (4, .tmp 31)], 181, "line.go:85", #[⟨0, .data⟩, ⟨2, .data⟩, ⟨3, .data⟩, ⟨4, .data⟩, ⟨5, .data⟩], none⟩) (v := ?v1z6x3) rfl (by kernel_rfl) (by kernel_rfl) (by kernel_rfl) (fun _ _ _ h => h) (Or.inl ⟨by rfl, ?hy1z6x3⟩) (by assumption) ?rest1z6x3
        case hy1z6x3 => (intro w hSw; (try dsimp only at hSw); go_simp; try (with_reducible rfl))
        simp only [Act.put, List.setIfInBounds_toArray, List.set_cons_zero, List.set_cons_succ]
        refine wpAnyH_ready (rs := [7]) (by kernel_rfl) (by simp) ?_
        refine AllReadyH.cons (o := ⟨some 33, .box 181 (.tmp 32), 179, "line.go:85", #[⟨6, .data⟩], none⟩) rfl (fun K hK => ?_) ?_
        ·
          go_simp
          refine hK.out _ _ ?_ (fun hHeld => ?_)
          · (first | exact ⟨(HX.out.cell 0).trans rfl, (HX.out.cell 1).trans rfl⟩ | go_keep)
          clear hK K
          try simp only [Act.put, List.setIfInBounds_toArray, List.set_cons_zero, List.set_cons_succ]
          refine wpAnyH_take (i := 8) (oi := ⟨some 11, .assign (.tmp 33), 179, "line.go:85", #[⟨7, .data⟩, ⟨2, .chain⟩, ⟨0, .phase⟩, ⟨1, .phase⟩, ⟨2, .phase⟩, ⟨3, .phase⟩, ⟨4, .phase⟩, ⟨5, .phase⟩, ⟨6, .phase⟩, ⟨7, .phase⟩], none⟩) (v := ?v1z8x3) rfl (by kernel_rfl) (by kernel_rfl) (by kernel_rfl) (fun _ _ _ h => h) (Or.inl ⟨by rfl, ?hy1z8x3⟩) (by assumption) ?rest1z8x3
          case hy1z8x3 => (intro w hSw; (try dsimp only at hSw); go_simp; try (with_reducible rfl))
          simp only [Act.put, List.setIfInBounds_toArray, List.set_cons_zero, List.set_cons_succ]
          refine wpAnyH_done (by kernel_rfl) ?_ _
          go_wp2_with fail
          go_meet
          have e0 : w1.drew.heap.size = w1.heap.size := rfl
          have e1 := HbH.out
          have e2 := HbV.out
          have e3 := HsH.out
          have e4 := HsV.out
          have e5 := HC.out.size
          obtain ⟨X, R, hlb, hR, hA⟩ := ln_start (Z := w1.heap.size) (mark := mark) HWy.out HHm.out HVm.out (by omega) (fun k hk => by have a1 := HRw.out k hk; omega) (fun hk => by have a1 := HRw.out _ hk; have a2 := (HWb.out _ hk).2; omega) (fun hk => by have a1 := HRw.out _ hk; have a2 := (HWb.out _ hk).2; omega) (by omega) (by omega) (by omega)
          exact ⟨X, R, by rw [hlb], Lib.hid hA, Lib.hid hR, Lib.hid (ext_alloc HC.out _)⟩
        exact AllReadyH.nil
      exact AllReadyH.nil
    exact AllReadyH.nil
  refine AllReadyH.cons (o := ⟨some 31, .makeMap 110 none, 110, "line.go:85", #[], none⟩) rfl (fun K hK => ?_) ?_
  ·
    refine step_makeMap (enc := idV) _ rfl 110 rfl (by first | exact hmm _ _ | simp [hmm]) ?_
    intro wV vb_ hmV hb hbV hszV
    have HC := Lib.hid (ext_trans HC.out hb)
    have HX := Lib.hid (HX.out.ext hb)
    have HVm := Lib.hid hmV
    try (have HHm := Lib.hid (HHm.out.ext hb))
    try (have HWy := Lib.hid (HWy.out.ext hb))
    have HbV := Lib.hid hbV
    have HsV := Lib.hid hszV
    clear hmV hb hbV hszV
    refine hK.out _ _ ?_ (fun hHeld => ?_)
    · (first | exact ⟨(HX.out.cell 0).trans rfl, (HX.out.cell 1).trans rfl⟩ | go_keep)
    clear hK K
    try simp only [Act.put, List.setIfInBounds_toArray, List.set_cons_zero, List.set_cons_succ]
    refine wpAnyH_ready (rs := [2, 4]) (by kernel_rfl) (by simp) ?_
    refine AllReadyH.cons (o := ⟨some 28, .call { callee := .value (.func 56), args := #[.tmp 27], argTypes := #[24] }, 107, "line.go:85", #[⟨1, .data⟩], none⟩) rfl (fun K hK => ?_) ?_
    ·
      go_simp
      go_at_call 56
      refine (new_c w.heap.size p A c _ (HO.out.ext (show Below w.heap.size w _ from (HCw.out).trans (HC.out.mono (by omega)))) HP.out (by have := HC.out.size; omega)).mono ?_
      rintro e wN ⟨wyb, Kq, kc, Rw, rfl, hW, hb, hR⟩
      have hszN := hb.size
      have HRw := Lib.hid hR
      have HWy := Lib.hid hW
      have HWb := Lib.hid hW.bd
      have HC := Lib.hid (ext_trans HC.out hb)
      have HX := Lib.hid (HX.out.ext hb)
      try (have HHm := Lib.hid (HHm.out.ext hb))
      try (have HVm := Lib.hid (HVm.out.ext hb))
      clear hW hb hR
      refine hK.out _ _ ?_ (fun hHeld => ?_)
      · (first | exact ⟨(HX.out.cell 0).trans rfl, (HX.out.cell 1).trans rfl⟩ | go_keep)
      clear hK K
      try simp only [Act.put, List.setIfInBounds_toArray, List.set_cons_zero, List.set_cons_succ]
      refine wpAnyH_ready (rs := [4]) (by kernel_rfl) (by simp) ?_
      refine AllReadyH.cons (o := ⟨some 30, .makeMap 110 none, 110, "line.go:85", #[], none⟩) rfl (fun K hK => ?_) ?_
      ·
        refine step_makeMap (enc := idV) _ rfl 110 rfl (by first | exact hmm _ _ | simp [hmm]) ?_
        intro wH hb_ hmH hb hbH hszH
        have HC := Lib.hid (ext_trans HC.out hb)
        have HX := Lib.hid (HX.out.ext hb)
        have HHm := Lib.hid hmH
        try (have HVm := Lib.hid (HVm.out.ext hb))
        try (have HWy := Lib.hid (HWy.out.ext hb))
        have HbH := Lib.hid hbH
        have HsH := Lib.hid hszH
        clear hmH hb hbH hszH
        refine hK.out _ _ ?_ (fun hHeld => ?_)
        · (first | exact ⟨(HX.out.cell 0).trans rfl, (HX.out.cell 1).trans rfl⟩ | go_keep)
        clear hK K
        try simp only [Act.put, List.setIfInBounds_toArray, List.set_cons_zero, List.set_cons_succ]
        refine wpAnyH_take (i := 6) (oi := ⟨some 32, .build 181 #[(0, .tmp 26), (1, .tmp 28), (2, .tmp 29), (3, .tmp 30), (4, .tmp 31)], 181, "line.go:85", #[⟨0, .data⟩, ⟨2, .data⟩, ⟨3, .data⟩, ⟨4, .data⟩, ⟨5, .data⟩], none⟩) (v := ?v1z6x4) rfl (by kernel_rfl) (by kernel_rfl) (by kernel_rfl) (fun _ _ _ h => h) (Or.inl ⟨by rfl, ?hy1z6x4⟩) (by assumption) ?rest1z6x4
        case hy1z6x4 => (intro w hSw; (try dsimp only at hSw); go_simp; try (with_reducible rfl))
        simp only [Act.put, List.setIfInBounds_toArray, List.set_cons_zero, List.set_cons_succ]
        refine wpAnyH_ready (rs := [7]) (by kernel_rfl) (by simp) ?_
        refine AllReadyH.cons (o := ⟨some 33, .box 181 (.tmp 32), 179, "line.go:85", #[⟨6, .data⟩], none⟩) rfl (fun K hK => ?_) ?_
        ·
          go_simp
          refine hK.out _ _ ?_ (fun hHeld => ?_)
          · (first | exact ⟨(HX.out.cell 0).trans rfl, (HX.out.cell 1).trans rfl⟩ | go_keep)
          clear hK K
          try simp only [Act.put, List.setIfInBounds_toArray, List.set_cons_zero, List.set_cons_succ]
          refine wpAnyH_take (i := 8) (oi := ⟨some 11, .assign (.tmp 33), 179, "line.go:85", #[⟨7, .data⟩, ⟨2, .chain⟩, ⟨0, .phase⟩, ⟨1, .phase⟩, ⟨2, .phase⟩, ⟨3, .phase⟩, ⟨4, .phase⟩, ⟨5, .phase⟩, ⟨6, .phase⟩, ⟨7, .phase⟩], none⟩) (v := ?v1z8x4) rfl (by kernel_rfl) (by kernel_rfl) (by kernel_rfl) (fun _ _ _ h => h) (Or.inl ⟨by rfl, ?hy1z8x4⟩) (by assumption) ?rest1z8x4
          case hy1z8x4 => (intro w hSw; (try dsimp only at hSw); go_simp; try (with_reducible rfl))
          simp only [Act.put, List.setIfInBounds_toArray, List.set_cons_zero, List.set_cons_succ]
          refine wpAnyH_done (by kernel_rfl) ?_ _
          go_wp2_with fail
          go_meet
          have e0 : w1.drew.heap.size = w1.heap.size := rfl
          have e1 := HbH.out
          have e2 := HbV.out
          have e3 := HsH.out
          have e4 := HsV.out
          have e5 := HC.out.size
          obtain ⟨X, R, hlb, hR, hA⟩ := ln_start (Z := w1.heap.size) (mark := mark) HWy.out HHm.out HVm.out (by omega) (fun k hk => by have a1 := HRw.out k hk; omega) (fun hk => by have a1 := HRw.out _ hk; have a2 := (HWb.out _ hk).2; omega) (fun hk => by have a1 := HRw.out _ hk; have a2 := (HWb.out _ hk).2; omega) (by omega) (by omega) (by omega)
          exact ⟨X, R, by rw [hlb], Lib.hid hA, Lib.hid hR, Lib.hid (ext_alloc HC.out _)⟩
        exact AllReadyH.nil
      exact AllReadyH.nil
    refine AllReadyH.cons (o := ⟨some 30, .makeMap 110 none, 110, "line.go:85", #[], none⟩) rfl (fun K hK => ?_) ?_
    ·
      refine step_makeMap (enc := idV) _ rfl 110 rfl (by first | exact hmm _ _ | simp [hmm]) ?_
      intro wH hb_ hmH hb hbH hszH
      have HC := Lib.hid (ext_trans HC.out hb)
      have HX := Lib.hid (HX.out.ext hb)
      have HHm := Lib.hid hmH
      try (have HVm := Lib.hid (HVm.out.ext hb))
      try (have HWy := Lib.hid (HWy.out.ext hb))
      have HbH := Lib.hid hbH
      have HsH := Lib.hid hszH
      clear hmH hb hbH hszH
      refine hK.out _ _ ?_ (fun hHeld => ?_)
      · (first | exact ⟨(HX.out.cell 0).trans rfl, (HX.out.cell 1).trans rfl⟩ | go_keep)
      clear hK K
      try simp only [Act.put, List.setIfInBounds_toArray, List.set_cons_zero, List.set_cons_succ]
      refine wpAnyH_ready (rs := [2]) (by kernel_rfl) (by simp) ?_
      refine AllReadyH.cons (o := ⟨some 28, .call { callee := .value (.func 56), args := #[.tmp 27], argTypes := #[24] }, 107, "line.go:85", #[⟨1, .data⟩], none⟩) rfl (fun K hK => ?_) ?_
      ·
        go_simp
        go_at_call 56
        refine (new_c w.heap.size p A c _ (HO.out.ext (show Below w.heap.size w _ from (HCw.out).trans (HC.out.mono (by omega)))) HP.out (by have := HC.out.size; omega)).mono ?_
        rintro e wN ⟨wyb, Kq, kc, Rw, rfl, hW, hb, hR⟩
        have hszN := hb.size
        have HRw := Lib.hid hR
        have HWy := Lib.hid hW
        have HWb := Lib.hid hW.bd
        have HC := Lib.hid (ext_trans HC.out hb)
        have HX := Lib.hid (HX.out.ext hb)
        try (have HHm := Lib.hid (HHm.out.ext hb))
        try (have HVm := Lib.hid (HVm.out.ext hb))
        clear hW hb hR
        refine hK.out _ _ ?_ (fun hHeld => ?_)
        · (first | exact ⟨(HX.out.cell 0).trans rfl, (HX.out.cell 1).trans rfl⟩ | go_keep)
        clear hK K
        try simp only [Act.put, List.setIfInBounds_toArray, List.set_cons_zero, List.set_cons_succ]
        refine wpAnyH_take (i := 6) (oi := ⟨some 32, .build 181 #[(0, .tmp 26), (1, .tmp 28), (2, .tmp 29), (3, .tmp 30), (4, .tmp 31)], 181, "line.go:85", #[⟨0, .data⟩, ⟨2, .data⟩, ⟨3, .data⟩, ⟨4, .data⟩, ⟨5, .data⟩], none⟩) (v := ?v1z6x5) rfl (by kernel_rfl) (by kernel_rfl) (by kernel_rfl) (fun _ _ _ h => h) (Or.inl ⟨by rfl, ?hy1z6x5⟩) (by assumption) ?rest1z6x5
        case hy1z6x5 => (intro w hSw; (try dsimp only at hSw); go_simp; try (with_reducible rfl))
        simp only [Act.put, List.setIfInBounds_toArray, List.set_cons_zero, List.set_cons_succ]
        refine wpAnyH_ready (rs := [7]) (by kernel_rfl) (by simp) ?_
        refine AllReadyH.cons (o := ⟨some 33, .box 181 (.tmp 32), 179, "line.go:85", #[⟨6, .data⟩], none⟩) rfl (fun K hK => ?_) ?_
        ·
          go_simp
          refine hK.out _ _ ?_ (fun hHeld => ?_)
          · (first | exact ⟨(HX.out.cell 0).trans rfl, (HX.out.cell 1).trans rfl⟩ | go_keep)
          clear hK K
          try simp only [Act.put, List.setIfInBounds_toArray, List.set_cons_zero, List.set_cons_succ]
          refine wpAnyH_take (i := 8) (oi := ⟨some 11, .assign (.tmp 33), 179, "line.go:85", #[⟨7, .data⟩, ⟨2, .chain⟩, ⟨0, .phase⟩, ⟨1, .phase⟩, ⟨2, .phase⟩, ⟨3, .phase⟩, ⟨4, .phase⟩, ⟨5, .phase⟩, ⟨6, .phase⟩, ⟨7, .phase⟩], none⟩) (v := ?v1z8x5) rfl (by kernel_rfl) (by kernel_rfl) (by kernel_rfl) (fun _ _ _ h => h) (Or.inl ⟨by rfl, ?hy1z8x5⟩) (by assumption) ?rest1z8x5
          case hy1z8x5 => (intro w hSw; (try dsimp only at hSw); go_simp; try (with_reducible rfl))
          simp only [Act.put, List.setIfInBounds_toArray, List.set_cons_zero, List.set_cons_succ]
          refine wpAnyH_done (by kernel_rfl) ?_ _
          go_wp2_with fail
          go_meet
          have e0 : w1.drew.heap.size = w1.heap.size := rfl
          have e1 := HbH.out
          have e2 := HbV.out
          have e3 := HsH.out
          have e4 := HsV.out
          have e5 := HC.out.size
          obtain ⟨X, R, hlb, hR, hA⟩ := ln_start (Z := w1.heap.size) (mark := mark) HWy.out HHm.out HVm.out (by omega) (fun k hk => by have a1 := HRw.out k hk; omega) (fun hk => by have a1 := HRw.out _ hk; have a2 := (HWb.out _ hk).2; omega) (fun hk => by have a1 := HRw.out _ hk; have a2 := (HWb.out _ hk).2; omega) (by omega) (by omega) (by omega)
          exact ⟨X, R, by rw [hlb], Lib.hid hA, Lib.hid hR, Lib.hid (ext_alloc HC.out _)⟩
        exact AllReadyH.nil
      exact AllReadyH.nil
    exact AllReadyH.nil
  exact AllReadyH.nil
 case rest =>
  obtain ⟨X, R, rfl, HA0, HR0, HB0⟩ := hcut
  obtain ⟨w2, rfl⟩ : ∃ w2 : World, w2 = wc := ⟨_, rfl⟩
  have HBw := Lib.hid (show Below w.heap.size w w2 from HC.out.trans (HB0.out.mono (by omega)))
  have HHd := Lib.hid (HH.out.ext HBw.out)
  have HWt := Lib.hid (HW.out.ext HBw.out)
  have HRb2 := Lib.hid (HRb.out.ext HB0.out)
  have HEb2 := Lib.hid (HEb.out.ext HB0.out)
  have hz2 := HB0.out.size
  go_wp2_with fail
  go_loopg [36, 13] held.length (fun gk v36 v13 wr => ∃ i : Nat, i + gk = held.length ∧ v36 = .int .i64 (i : Nat) ∧ Hid (LnAt w.heap.size X R p A c mark (held.take i) lnZ [] wr) ∧ Hid (Fr R w2 wr))
  case atStart => exact ⟨0, by omega, rfl, HA0, Lib.hid Fr.refl⟩
  case round =>
   obtain ⟨i, hik, rfl, HA, HF⟩ := hrel
   by_cases hi : i < held.length
   · have hy : held[i]? = some (held[i]) := List.getElem?_eq_getElem hi
     generalize held[i] = x at hy
     obtain ⟨ad, rfl, d0, d1, d2⟩ := ((HHd.out.fr HF.out (fun k hk hr => by have h1 := HR0.out k hr; have h2 : k < w.heap.size := hk; omega)).rd (e := 35) (Nat.le_refl _)).ids hy hi
     have HTk := Lib.hid (take_succ_of hy)
     have HNx := Lib.hid (show x ∉ held.take i from fun hx => by
      have h1 : (held.take (i + 1)).Nodup := HNd.out.sublist (List.take_sublist _ _)
      rw [HTk.out, List.nodup_append] at h1
      exact h1.2.2 x hx x (by simp) rfl)
     obtain ⟨WY, hWY⟩ : ∃ WY, WY = wr.alloc (.cells #[.int .i64 x.b, .int .i64 x.s, .int .i64 x.p] 35 (0, 0)) := ⟨_, rfl⟩
     have HBY := Lib.hid (show Below wr.heap.size wr WY from by rw [hWY]; exact ext_alloc (Below.refl _ _) _)
     have HXY := Lib.hid (show Bk WY wr.heap.size 35 #[.int .i64 x.b, .int .i64 x.s, .int .i64 x.p] from by rw [hWY]; exact Bk.new _ _ _)
     have HWY := Lib.hid hWY
     have HAY := Lib.hid (HA.out.ext HBY.out)
     have y0 : WY.cell? ⟨wr.heap.size, 0, none⟩ = some (.int .i64 x.b) := (HXY.out.cell 0).trans rfl
     have y1 : WY.cell? ⟨wr.heap.size, 1, none⟩ = some (.int .i64 x.s) := (HXY.out.cell 1).trans rfl
     have y2 : WY.cell? ⟨wr.heap.size, 2, none⟩ = some (.int .i64 x.p) := (HXY.out.cell 2).trans rfl
     have y4 : WY.cell? ⟨X.lb, 4, none⟩ = some (.map (some X.hb)) := (HAY.out.bk.cell 4).trans rfl
     have yl := HXY.out.lt
     have zl := HAY.out.bk.lt
     obtain ⟨w4, hrun4, hm4, hg4, hs4⟩ := (HAY.out.hm.drew).store idKey Tryz.underlying110 x (.int .i64 1)
     have HM4 := Lib.hid hm4
     have HG4 := Lib.hid hg4
     simp only [idV] at hrun4
     clear hm4 hg4 hs4 hWY hy
     go_upto_region 9 with fail
     rw [← HWY.out]
     go_region
     go_wp2_with fail
     go_roundg (gk - 1)
     case measure => omega
     case rel =>
      refine ⟨i + 1, by omega, by go_num, Lib.hid ?_, Lib.hid ?_⟩
      · rw [HTk.out]
        exact (HAY.out.ext (below_drewN (Below.refl _ _) 1)).hold_ HNx.out HM4.out HG4.out
      · exact ((HF.out.ext HBY.out).drew).grown HG4.out (fun k hk => .inl (by injection hk with hk; rw [← hk]; exact HAY.out.rh.1))
   · have hil : i = held.length := by omega
     subst hil
     rw [List.take_length] at HA
     obtain ⟨wo, rfl⟩ : ∃ wo : World, wo = wr := ⟨_, rfl⟩
     obtain ⟨go, rfl⟩ : ∃ go : Nat, go = gk := ⟨_, rfl⟩
     have HA1 := HA
     have HF1 := HF
     clear HA HF hik hi
     go_wp2_with fail
     go_loopg [48, 14, 15] want.length (fun gk v48 v14 v15 wr => ∃ i : Nat, i + gk = want.length ∧ v48 = .int .i64 (i : Nat) ∧ Hid (LnAt w.heap.size X R p A c mark held lnZ [] wr) ∧ Hid (Fr R w2 wr) ∧ Hid (∀ x ∈ want.take i, beginD p mark x = 0))
     case atStart => exact ⟨0, by omega, rfl, HA1, HF1, Lib.hid (by simp)⟩
     case round =>
      obtain ⟨i, hik, rfl, HA, HF, HZ⟩ := hrel
      by_cases hi : i < want.length
      · have hy : want[i]? = some (want[i]) := List.getElem?_eq_getElem hi
        generalize want[i] = x at hy
        obtain ⟨ad, rfl, d0, d1, d2⟩ := ((HWt.out.fr HF.out (fun k hk hr => by have h1 := HR0.out k hr; have h2 : k < w.heap.size := hk; omega)).rd (e := 35) (Nat.le_refl _)).ids hy hi
        have HTk := Lib.hid (take_succ_of hy)
        have HMx := Lib.hid (List.mem_of_getElem? hy)
        obtain ⟨WY, hWY⟩ : ∃ WY, WY = wr.alloc (.cells #[.int .i64 x.b, .int .i64 x.s, .int .i64 x.p] 35 (0, 0)) := ⟨_, rfl⟩
        have HBY := Lib.hid (show Below wr.heap.size wr WY from by rw [hWY]; exact ext_alloc (Below.refl _ _) _)
        have HXY := Lib.hid (show Bk WY wr.heap.size 35 #[.int .i64 x.b, .int .i64 x.s, .int .i64 x.p] from by rw [hWY]; exact Bk.new _ _ _)
        have HWY := Lib.hid hWY
        have HAY := Lib.hid (HA.out.ext HBY.out)
        have y0 : WY.cell? ⟨wr.heap.size, 0, none⟩ = some (.int .i64 x.b) := (HXY.out.cell 0).trans rfl
        have y1 : WY.cell? ⟨wr.heap.size, 1, none⟩ = some (.int .i64 x.s) := (HXY.out.cell 1).trans rfl
        have y2 : WY.cell? ⟨wr.heap.size, 2, none⟩ = some (.int .i64 x.p) := (HXY.out.cell 2).trans rfl
        have yl := HXY.out.lt
        have HBg := Lib.hid (begin_c HP.out (i : Nat) x (HTop.out x HMx.out) WY HAY.out)
        clear hWY hy
        by_cases hb0 : beginD p mark x = 0
        · have HB00 := Lib.hid hb0
          clear hb0
          go_upto_region 14 with fail
          rw [← HWY.out]
          go_wp2_with (first
           | (go_at_call 116; refine HBg.out.mono ?_; rintro e w8 hpost
              obtain ⟨rfl, hb⟩ := hpost.1 HB00.out
              have HB8 := Lib.hid hb
              clear hpost hb y0 y1 y2 yl))
          go_roundg (gk - 1)
          case measure => omega
          case rel =>
           refine ⟨i + 1, by omega, by go_num, Lib.hid (HAY.out.ext HB8.out), Lib.hid ((HF.out.ext HBY.out).ext HB8.out), Lib.hid ?_⟩
           rw [HTk.out]
           intro z hz
           rcases List.mem_append.1 hz with hz | hz
           · exact HZ.out z hz
           · rw [List.mem_singleton] at hz
             rw [hz]
             exact HB00.out
        · have HB00 := Lib.hid hb0
          clear hb0
          go_upto_region 14 with fail
          rw [← HWY.out]
          go_wp2_with (first
           | (go_at_call 116; refine HBg.out.mono ?_; rintro e w8 hpost
              obtain ⟨at_, v, rfl, hE, hb⟩ := hpost.2 HB00.out
              obtain ⟨fb, s1, v', n', rfl, hE1, hE2⟩ := hE
              have HE8 := Lib.hid (show ErrAt w8 _ at_ _ from ⟨fb, s1, v', n', rfl, hE1, hE2⟩)
              have HB8 := Lib.hid hb
              clear hpost hE1 hE2 hb y0 y1 y2 yl))
          have HFz := Lib.hid (((HF.out.ext HBY.out).ext HB8.out).below (B := w1.heap.size) (fun k hk => HR0.out k hk) hz2)
          have HRb8 := Lib.hid (HRb2.out.below HFz.out (by omega))
          have HEb8 := Lib.hid (HEb2.out.below HFz.out (by omega))
          refine leaves_cons (f := 115) (args := #[.pointer (some ⟨w.heap.size + 1, 0, none⟩), .pointer (some ⟨w.heap.size + 1 + 1, 0, none⟩)]) (by simp) (by simp [go_sem]) ?_
          refine (wcatch_panic (w.heap.size + 1) (w.heap.size + 1 + 1) _ _ HRb8.out HEb8.out (by omega)).mono ?_
          rintro e u' w9 ⟨rfl, rfl, hr9, he9, hF9⟩
          have r0 : w9.cell? ⟨w.heap.size + 1, 0, none⟩ = some (.slice none 0 0) := (hr9.cell 0).trans rfl
          have r1 : w9.cell? ⟨w.heap.size + 1, 1, none⟩ = some (.slice none 0 0) := (hr9.cell 1).trans rfl
          have r2 : w9.cell? ⟨w.heap.size + 1, 2, none⟩ = some (.slice none 0 0) := (hr9.cell 2).trans rfl
          have r3 : w9.cell? ⟨w.heap.size + 1, 3, none⟩ = some (.int .i64 0) := (hr9.cell 3).trans rfl
          have r4 : w9.cell? ⟨w.heap.size + 1 + 1, 0, none⟩ = some (.iface 169 (.pointer (some ⟨fb, 0, none⟩))) := (he9.cell 0).trans rfl
          have HPost := Lib.hid (show WalkPost p mark held want w (.returned (.tuple #[.agg zWay, .iface 169 (.pointer (some ⟨fb, 0, none⟩))])) w9 from by
           refine ⟨fun h => absurd (h x HMx.out) HB00.out, fun _ => ⟨_, at_, _, rfl, HE8.out.bk (fun g t cs hg ht => hg.fr hF9 (fun hk => hk.elim (fun e => Bk.ne_ hg HRb8.out (by rw [ht]; decide) e) (fun e => Bk.ne_ hg HEb8.out (by rw [ht]; decide) e))), ?_⟩⟩
           have hb1 := hF9.below (B := w.heap.size) (fun k hk => by rcases hk with rfl | rfl <;> omega) (by have := HRb8.out.lt; omega)
           exact (HBw.out.trans (HFz.out.mono (by omega))).trans hb1)
          clear hr9 he9 hF9
          simp [Leaves, settle, results, Tryz.results62, go_sem, r0, r1, r2, r3, r4]
          exact HPost.out
      · have hil : i = want.length := by omega
        subst hil
        rw [List.take_length] at HZ
        obtain ⟨wo2, rfl⟩ : ∃ wo2 : World, wo2 = wr := ⟨_, rfl⟩
        obtain ⟨go2, rfl⟩ : ∃ go2 : Nat, go2 = gk := ⟨_, rfl⟩
        have HA2 := HA
        have HF2 := Lib.hid (HF.out.below (B := w1.heap.size) (fun k hk => HR0.out k hk) hz2)
        have HCn := Lib.hid (fun x (hx : x ∈ want) => begin_can (HZ.out x hx) (HTop.out x hx))
        have HOk := Lib.hid (fun (i : Nat) => walkD_ok (held := held) (l := want.take i) HP.out (fun x hx => HCn.out x (List.mem_of_mem_take hx)) _ rfl)
        clear HA HF hik hi
        go_wp2_with fail
        go_loopg [60, 17] want.length (fun gk v60 v17 wr => ∃ (i : Nat) (X' : LnX) (R' : Nat → Prop), i + gk = want.length ∧ v60 = .int .i64 (i : Nat) ∧ Hid (LnAt w.heap.size X' R' p A c mark held (walkD p mark held (want.take i)) (walkD p mark held (want.take i)).seen wr) ∧ Hid (X'.lb = X.lb) ∧ Hid (∀ k, R' k → w1.heap.size ≤ k) ∧ Hid (Below w1.heap.size w2 wr))
        case atStart => exact ⟨0, X, R, by omega, rfl, HA2, Lib.hid rfl, HR0, HF2⟩
        case round =>
         obtain ⟨i, X', R', hik, rfl, HA, HLb, HR, HF⟩ := hrel
         by_cases hi : i < want.length
         · have hy : want[i]? = some (want[i]) := List.getElem?_eq_getElem hi
           generalize want[i] = x at hy
           obtain ⟨ad, rfl, d0, d1, d2⟩ := ((HW.out.fr (T := No) (Fr.of_below (show Below w.heap.size w wr from HBw.out.trans (HF.out.mono (by omega)))) (fun _ _ h => h)).rd (e := 35) (Nat.le_refl _)).ids hy hi
           have HTk := Lib.hid (take_succ_of hy)
           have HMx := Lib.hid (List.mem_of_getElem? hy)
           have hCx := HCn.out x HMx.out
           have HCm := Lib.hid (fun (W : World) (hb : Below wr.heap.size wr W) => (by
            have h1 := come_c HP.out 300 X' R' (walkD p mark held (want.take i)) x 0 W (HA.out.ext hb) (HOk.out i) hCx (.inr (deepD_lt HP.out hCx)) (by omega) (by omega)
            rw [HLb.out] at h1
            exact h1 : Calls Tryz.prog 117 #[.pointer (some ⟨X.lb, 0, none⟩), idV x, .int .i64 0] W (ComePost w.heap.size X.lb R' p A c mark held (comeD p mark held 300 (walkD p mark held (want.take i)) x 0) W)))
           have HWs := Lib.hid (show walkD p mark held (want.take (i + 1)) = comeD p mark held 300 (walkD p mark held (want.take i)) x 0 from by
            rw [HTk.out]; unfold walkD; rw [List.foldl_append]; rfl)
           obtain ⟨WY, hWY⟩ : ∃ WY, WY = wr.alloc (.cells #[.int .i64 x.b, .int .i64 x.s, .int .i64 x.p] 35 (0, 0)) := ⟨_, rfl⟩
           have HBY := Lib.hid (show Below wr.heap.size wr WY from by rw [hWY]; exact ext_alloc (Below.refl _ _) _)
           have HXY := Lib.hid (show Bk WY wr.heap.size 35 #[.int .i64 x.b, .int .i64 x.s, .int .i64 x.p] from by rw [hWY]; exact Bk.new _ _ _)
           have HWY := Lib.hid hWY
           have y0 : WY.cell? ⟨wr.heap.size, 0, none⟩ = some (.int .i64 x.b) := (HXY.out.cell 0).trans rfl
           have y1 : WY.cell? ⟨wr.heap.size, 1, none⟩ = some (.int .i64 x.s) := (HXY.out.cell 1).trans rfl
           have y2 : WY.cell? ⟨wr.heap.size, 2, none⟩ = some (.int .i64 x.p) := (HXY.out.cell 2).trans rfl
           have yl := HXY.out.lt
           clear hWY hy hCx
           go_upto_region 19 with fail
           rw [← HWY.out]
           go_wp2_with (first
            | (go_at_call 117; refine (HCm.out _ HBY.out).mono ?_; rintro e w8 ⟨rfl, hL⟩
               have HL := Lib.hid hL
               clear hL y0 y1 y2 yl))
           obtain ⟨X9, R9, j1, j2, j3, j4⟩ := HL.out
           have hs1 := HF.out.size
           have hs2 := HBY.out.size
           have HA9 := Lib.hid j1
           have HL9 := Lib.hid j2
           have HR9 := Lib.hid (show ∀ k, R9 k → w1.heap.size ≤ k from fun k hk => (j3 k hk).elim (HR.out k) (fun h => by omega))
           have HF9 := Lib.hid (show Below w1.heap.size w2 w8 from (HF.out.trans (HBY.out.mono (by omega))).trans (j4.below (fun k hk => HR.out k hk) (by omega)))
           clear j1 j2 j3 j4 hs1 hs2
           go_roundg (gk - 1)
           case measure => omega
           case rel =>
            exact ⟨i + 1, X9, R9, by omega, by go_num, by rw [HWs.out]; exact HA9, HL9, HR9, HF9⟩
         · have hil : i = want.length := by omega
           subst hil
           rw [List.take_length] at HA
           have l6 : wr.cell? ⟨X.lb, 6, none⟩ = some (.slice X'.A1 (walkD p mark held want).seen.length X'.c1) := by rw [← HLb.out]; exact (HA.out.bk.cell 6).trans rfl
           have l7 : wr.cell? ⟨X.lb, 7, none⟩ = some (.slice X'.A2 (walkD p mark held want).ready.length X'.c2) := by rw [← HLb.out]; exact (HA.out.bk.cell 7).trans rfl
           have l8 : wr.cell? ⟨X.lb, 8, none⟩ = some (.slice X'.A3 (walkD p mark held want).used.length X'.c3) := by rw [← HLb.out]; exact (HA.out.bk.cell 8).trans rfl
           have l9 : wr.cell? ⟨X.lb, 9, none⟩ = some (.int .i64 (walkD p mark held want).depth) := by rw [← HLb.out]; exact (HA.out.bk.cell 9).trans rfl
           have lz : X.lb < wr.heap.size := by rw [← HLb.out]; exact HA.out.bk.lt
           have HRb8 := Lib.hid (HRb2.out.below HF.out (by omega))
           have HEb8 := Lib.hid (HEb2.out.below HF.out (by omega))
           have r0 : wr.cell? ⟨w.heap.size + 1, 0, none⟩ = some (.slice none 0 0) := (HRb8.out.cell 0).trans rfl
           have r1 : wr.cell? ⟨w.heap.size + 1, 1, none⟩ = some (.slice none 0 0) := (HRb8.out.cell 1).trans rfl
           have r2 : wr.cell? ⟨w.heap.size + 1, 2, none⟩ = some (.slice none 0 0) := (HRb8.out.cell 2).trans rfl
           have r3 : wr.cell? ⟨w.heap.size + 1, 3, none⟩ = some (.int .i64 0) := (HRb8.out.cell 3).trans rfl
           have r4 : wr.cell? ⟨w.heap.size + 1 + 1, 0, none⟩ = some .nilIface := (HEb8.out.cell 0).trans rfl
           have f0 := HRb8.out.frozen 0
           have f1 := HRb8.out.frozen 1
           have f2 := HRb8.out.frozen 2
           have f3 := HRb8.out.frozen 3
           have f4 : wr.frozen? ⟨w.heap.size + 1 + 1, 0, none⟩ = false := HEb8.out.frozen 0
           have g0 := HRb8.out.lt
           have g1 : w.heap.size + 1 + 1 < wr.heap.size := HEb8.out.lt
           go_wp2_with fail
           refine leaves_cons (f := 115) (args := #[.pointer (some ⟨w.heap.size + 1, 0, none⟩), .pointer (some ⟨w.heap.size + 1 + 1, 0, none⟩)]) (by simp) (by simp [go_sem]) ?_
           refine (wcatch_idle (w.heap.size + 1) (w.heap.size + 1 + 1) _).mono ?_
           rintro e u' w9 ⟨rfl, rfl, rfl⟩
           obtain ⟨wd, hwd⟩ : ∃ wd, wd = (((((wr.setCell ⟨w.heap.size + 1, 0, none⟩ (.slice X'.A1 (walkD p mark held want).seen.length X'.c1)).setCell ⟨w.heap.size + 1, 1, none⟩ (.slice X'.A2 (walkD p mark held want).ready.length X'.c2)).setCell ⟨w.heap.size + 1, 2, none⟩ (.slice X'.A3 (walkD p mark held want).used.length X'.c3)).setCell ⟨w.heap.size + 1, 3, none⟩ (.int .i64 (walkD p mark held want).depth)).setCell ⟨w.heap.size + 1 + 1, 0, none⟩ .nilIface) := ⟨_, rfl⟩
           rw [← hwd]
           have HFd := Lib.hid (show Fr (fun k => k = w.heap.size + 1 ∨ k = w.heap.size + 1 + 1) wr wd from by
            rw [hwd]
            exact (((((Fr.refl.set_ (p := ⟨w.heap.size + 1, 0, none⟩) (.inl (.inl rfl)) _).set_ (p := ⟨w.heap.size + 1, 1, none⟩) (.inl (.inl rfl)) _).set_ (p := ⟨w.heap.size + 1, 2, none⟩) (.inl (.inl rfl)) _).set_ (p := ⟨w.heap.size + 1, 3, none⟩) (.inl (.inl rfl)) _).set_ (p := ⟨w.heap.size + 1 + 1, 0, none⟩) (.inl (.inr rfl)) _))
           have HRd := Lib.hid (show Bk wd (w.heap.size + 1) 120 #[.slice X'.A1 (walkD p mark held want).seen.length X'.c1, .slice X'.A2 (walkD p mark held want).ready.length X'.c2, .slice X'.A3 (walkD p mark held want).used.length X'.c3, .int .i64 (walkD p mark held want).depth] from by
            rw [hwd]
            exact (((((HRb8.out.set_ 0 _).set_ 1 _).set_ 2 _).set_ 3 _).far (p := ⟨w.heap.size + 1 + 1, 0, none⟩) (by simp only [ne_eq]; omega) _))
           have HEd := Lib.hid (show Bk wd (w.heap.size + 1 + 1) 28 #[.nilIface] from by
            rw [hwd]
            exact (((((HEb8.out.far (p := ⟨w.heap.size + 1, 0, none⟩) (by simp only [ne_eq]; omega) _).far (p := ⟨w.heap.size + 1, 1, none⟩) (by simp only [ne_eq]; omega) _).far (p := ⟨w.heap.size + 1, 2, none⟩) (by simp only [ne_eq]; omega) _).far (p := ⟨w.heap.size + 1, 3, none⟩) (by simp only [ne_eq]; omega) _).set_ 0 _))
           clear hwd r0 r1 r2 r3 r4 f0 f1 f2 f3 f4 l6 l7 l8 l9
           have r0 : wd.cell? ⟨w.heap.size + 1, 0, none⟩ = some (.slice X'.A1 (walkD p mark held want).seen.length X'.c1) := (HRd.out.cell 0).trans rfl
           have r1 : wd.cell? ⟨w.heap.size + 1, 1, none⟩ = some (.slice X'.A2 (walkD p mark held want).ready.length X'.c2) := (HRd.out.cell 1).trans rfl
           have r2 : wd.cell? ⟨w.heap.size + 1, 2, none⟩ = some (.slice X'.A3 (walkD p mark held want).used.length X'.c3) := (HRd.out.cell 2).trans rfl
           have r3 : wd.cell? ⟨w.heap.size + 1, 3, none⟩ = some (.int .i64 (walkD p mark held want).depth) := (HRd.out.cell 3).trans rfl
           have r4 : wd.cell? ⟨w.heap.size + 1 + 1, 0, none⟩ = some .nilIface := (HEd.out.cell 0).trans rfl
           have HPost := Lib.hid (show WalkPost p mark held want w (.returned (.tuple #[wayV X'.A1 X'.A2 X'.A3 X'.c1 X'.c2 X'.c3 (walkD p mark held want), .nilIface])) wd from by
            have hoff : ∀ k, R' k → ¬ (k = w.heap.size + 1 ∨ k = w.heap.size + 1 + 1) := fun k hk h => by have := HR.out k hk; omega
            refine ⟨fun _ => ⟨X'.A1, X'.A2, X'.A3, X'.c1, X'.c2, X'.c3, rfl, own_fr HA.out.s1 HFd.out (fun k hk => hoff k (HA.out.r1 k hk).1), own_fr HA.out.s2 HFd.out (fun k hk => hoff k (HA.out.r2 k hk).1), own_fr HA.out.s3 HFd.out (fun k hk => hoff k (HA.out.r3 k hk).1), ?_⟩, fun ⟨x, hx, hne⟩ => absurd (HZ.out x hx) hne⟩
            have hb1 := HFd.out.below (B := w.heap.size) (fun k hk => by rcases hk with rfl | rfl <;> omega) (by omega)
            exact (HBw.out.trans (HF.out.mono (by omega))).trans hb1)
           simp [Leaves, settle, results, Tryz.results62, go_sem, r0, r1, r2, r3, r4]
           exact HPost.out
end Go.Proofs.YtapjhliglmohgaaGreatDoor
/- A name stored into an element of a slice of the function's own. -/
namespace Go.Proofs.YtapjhliglmohgaaGreatDoor
open Go.RowKit Go.Sort
theorem step_storeAt {P : Program} {ops : Array Oper} {o : Oper} {a : Act} {Q : Exit → Act → World → Prop} {K : Act → World → Prop} {E : Prop} (hg : o.guard = none) (t : TypeId) (pa px : Operand) (hop : o.op = Op.store t pa px) (va vx : Value) (ha : a.eval pa = va) (hx : a.eval px = vx) {w w' : World}
 (hrun : (Instr.storeAt t va vx).run P w = .ok () w') (h : K (a.put o.dst undef) w') : if Region.wanted o (yielded ops a.tmps) = true then Oper.wp P o a w K Q else E := by
 rw [if_pos (by simp [Region.wanted, hg])]
 unfold Oper.wp
 simp [execOp, hop, ha, hx, hrun, Result.andThen]
 exact h
end Go.Proofs.YtapjhliglmohgaaGreatDoor
