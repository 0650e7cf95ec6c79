/- DownB, DownC, DownD, DownE, DownF, TRow, Tree, CheckR, RightR, Has, WayA, WayB: laid together. -/
import Derived.Test.YtapjhliglmohgaaGreatDoorPwC
/- The way down, by the document's text: down. -/
namespace Go.Proofs.YtapjhliglmohgaaGreatDoor
open Go.RowKit Go.Sort
section
variable {ops : List OpD} {parts f : Nat}
theorem down_eq {s q : Nat} {out : List Pt} {o : OpD} (ho : ops[s]? = some o) : down ops parts (f + 1) s q out = (steps parts o q).foldl (fun out y => comeL ops parts f y.1 y.2 out) out := by
 unfold down
 rw [ho]
 rfl
/-- The parts of dataset a, from the first. -/
def goN (ops : List OpD) (parts f a m : Nat) (out : List Pt) : List Pt := ((List.range m).map fun n => (a, n)).foldl (fun out y => comeL ops parts f y.1 y.2 out) out
theorem goN_succ (a m : Nat) (out : List Pt) : goN ops parts f a (m + 1) out = comeL ops parts f a m (goN ops parts f a m out) := by
 unfold goN
 rw [List.range_succ, List.map_append, List.foldl_append]
 rfl
variable {s q : Nat} {out : List Pt} {o : OpD}
theorem down_src (ho : ops[s]? = some o) (hk : o.k = 1) : down ops parts (f + 1) s q out = out := by
 rw [down_eq ho]
 unfold steps
 rw [if_neg (by rw [hk]; decide), if_neg (by rw [hk]; decide)]
 rfl
theorem down_one (ho : ops[s]? = some o) {a : Nat} (ha : o.a = (a : Nat)) (hw : wide o.k = false) (hn : narrow o.k = true) (h2 : two o.k = false) : down ops parts (f + 1) s q out = comeL ops parts f a q out := by
 rw [down_eq ho]
 unfold steps froms
 rw [hw, hn, h2, ha]
 rfl
theorem down_two (ho : ops[s]? = some o) {a b : Nat} (ha : o.a = (a : Nat)) (hb : o.b = (b : Nat)) (hw : wide o.k = false) (hn : narrow o.k = true) (h2 : two o.k = true) : down ops parts (f + 1) s q out = comeL ops parts f b q (comeL ops parts f a q out) := by
 rw [down_eq ho]
 unfold steps froms
 rw [hw, hn, h2, ha, hb]
 rfl
theorem down_wide (ho : ops[s]? = some o) {a : Nat} (ha : o.a = (a : Nat)) (hw : wide o.k = true) (h2 : two o.k = false) : down ops parts (f + 1) s q out = goN ops parts f a parts out := by
 rw [down_eq ho]
 unfold steps froms goN
 rw [hw, h2, ha]
 simp
theorem down_join (ho : ops[s]? = some o) {a b : Nat} (ha : o.a = (a : Nat)) (hb : o.b = (b : Nat)) (hw : wide o.k = true) (h2 : two o.k = true) : down ops parts (f + 1) s q out = goN ops parts f b parts (goN ops parts f a parts out) := by
 rw [down_eq ho]
 unfold steps froms goN
 rw [hw, h2, ha, hb]
 simp [List.foldl_append]
theorem good_come {p : PlanD} (hp : Shaped p) (h : Good out) (hs : s < f) (hsn : s < p.ops.length) (hq : q < p.parts.toNat) : Good (comeL p.ops p.parts.toNat f s q out) := by
 have hok : OpsOk p.ops := fun i o h => (hp.op i o h).2
 have hn := hp.n12
 have hp4 := hp.p4
 unfold comeL
 split
 · split
   · exact h
   · next hm =>
     refine ⟨?_, fun y hy => ?_⟩
     · rw [List.nodup_append]
       exact ⟨h.nd, by simp, fun x hx y hy e => by
         simp only [List.mem_cons, List.not_mem_nil, or_false] at hy
         rw [e, hy] at hx
         exact hm hx⟩
     · rcases List.mem_append.1 hy with h1 | h1
       · exact h.lt y h1
       · simp only [List.mem_cons, List.not_mem_nil, or_false] at h1
         rw [h1]
         exact ⟨by show s < 12; omega, by show q < 4; omega⟩
 · refine ⟨down_nodup _ _ _ _ h.nd, fun y hy => ?_⟩
   rcases (down_mem hok f s q out hs y).1 hy with h1 | h1
   · exact h.lt y h1
   · have := h1.lt hok
     exact ⟨by omega, by omega⟩
theorem good_goN {p : PlanD} (hp : Shaped p) {a : Nat} (ha : a < f) (han : a < p.ops.length) : ∀ (m : Nat), m ≤ p.parts.toNat → Good out → Good (goN p.ops p.parts.toNat f a m out)
 | 0, _, h => h
 | m + 1, hm, h => by
   rw [goN_succ]
   exact good_come hp (good_goN hp ha han m (by omega) h) ha han (by omega)
end
/-- Where a walk stands that has come to l. -/
structure DInv (w0 : World) (base : Nat) (v : Value) (l : List Pt) (A : Option Addr) (c : Nat) (w : World) : Prop where
 own : w.ownsRow base 35 3 (.slice A l.length c) l.length (ptsC l)
 grown : w0.grownBy w v.ownBlock
 fresh : ∀ j, (Value.slice A l.length c).ownBlock = some j → w0.heap.size ≤ j ∨ v.ownBlock = some j
section
variable {w0 w1 w2 : World} {base : Nat} {v : Value} {l l' : List Pt} {A1 : Option Addr} {c1 : Nat}
theorem DInv.start {A : Option Addr} {c : Nat} (ho : w0.ownsRow base 35 3 (.slice A l.length c) l.length (ptsC l)) (hb : Below w0.heap.size w0 w1) : DInv w0 base (.slice A l.length c) l A c w1 :=
 ⟨own_ext ho hb, (grownBy_of_below hb).but _, fun _ hj => .inr hj⟩
theorem DInv.pre {B : Nat} {p : PlanD} {A K : Option Addr} {out : List Pt} (h : DInv w0 base v l A1 c1 w1) (hp : DownPre B base p A K w0 v out) (hg : Good l) : DownPre B base p A K w1 (.slice A1 l.length c1) l := hp.next h.grown h.own hg
theorem DInv.next {B : Nat} {e : Ending} (h : DInv w0 base v l A1 c1 w1) (hB : B ≤ base) (hp : DownPost w1 base (.slice A1 l.length c1) l' e w2) : ∃ A2 c2, e = .returned (.slice A2 l'.length c2) ∧ DInv w0 base v l' A2 c2 w2 ∧ KeepBut B 35 w1 w2 := by
 obtain ⟨A2, c2, rfl, ho, hg, hj⟩ := hp
 refine ⟨A2, c2, rfl, ⟨ho, h.grown.andThen hg h.fresh, fun j hjj => ?_⟩, keepBut_own h.own hB hg⟩
 rcases hj j hjj with h1 | h1
 · exact .inl (Nat.le_trans h.grown.size h1)
 · exact h.fresh j h1
theorem DInv.post (h : DInv w0 base v l A1 c1 w1) : DownPost w0 base v l (.returned (.slice A1 l.length c1)) w1 := ⟨A1, c1, rfl, h.own, h.grown, h.fresh⟩
end
def DownStep (k : Int → Bool) : Prop := ∀ (f : Nat), RCome f → ∀ (B base : Nat) (p : PlanD) (A K : Option Addr) (c kc s q : Nat) (out : List Pt) (v : Value) (w : World) (o : OpD), Shaped p → DownPre B base p A K w v out → s < f + 1 → s < p.ops.length → q < p.parts.toNat → p.ops[s]? = some o → k o.k = true →
 Calls Tryz.prog 125 #[planV p A c, .slice K p.ops.length kc, .int .i64 (s : Nat), .int .i64 (q : Nat), v] w (DownPost w base v (down p.ops p.parts.toNat (f + 1) s q out))
set_option maxRecDepth 100000 in
set_option maxHeartbeats 4000000 in
theorem rdown_src : DownStep (fun k => decide (k = 1)) := by
 intro f hc B base p A K c kc s q out v w o hp hpre hsf hsn hq ho hk
 have h1 : o.k = 1 := of_decide_eq_true hk
 obtain ⟨ad, rfl, d0, d1, d2, d3, d4⟩ := hpre.ops.ops ho hsn
 have hdl := World.block_lt_of_cell? w _ d0
 rw [h1] at d0
 obtain ⟨A4, c4, rfl, hc4⟩ := own_shape hpre.own
 have HR := Lib.hid (down_src (parts := p.parts.toNat) (f := f) (q := q) (out := out) ho h1)
 have HPre := Lib.hid hpre
 clear hp hpre hc ho hk h1
 go_enter Tryz.func125, Tryz.ntmps125
 go_wp2_with fail
 go_ret
 rw [HR.out]
 exact (DInv.start HPre.out.own (ext_alloc (ext_alloc (Below.refl _ _) _) _)).post
set_option maxRecDepth 100000 in
set_option maxHeartbeats 4000000 in
theorem rdown_one : DownStep (fun k => narrow k && !two k) := by
 intro f hc B base p A K c kc s q out v w o hp hpre hsf hsn hq ho hk
 have hk' : (narrow o.k && !two o.k) = true := hk
 rw [Bool.and_eq_true, Bool.not_eq_true'] at hk'
 obtain ⟨hn, h2⟩ := hk'
 have h1 : o.k ≠ 1 := by intro e; rw [e] at hn; cases hn
 have h5 : o.k ≠ 5 := by intro e; rw [e] at h2; cases h2
 have hw : wide o.k = false := by
  unfold narrow at hn
  unfold wide
  simp only [Bool.or_eq_true, decide_eq_true_eq] at hn
  simp only [Bool.or_eq_false_iff, decide_eq_false_iff_not]
  omega
 have hin := inputsD_a (hp.op s o ho).2 h1
 obtain ⟨a, ha⟩ : ∃ a : Nat, o.a = (a : Nat) := ⟨o.a.toNat, by omega⟩
 obtain ⟨ad, rfl, d0, d1, d2, d3, d4⟩ := hpre.ops.ops ho hsn
 have hdl := World.block_lt_of_cell? w _ d0
 have haf : a < f := by omega
 have han : a < p.ops.length := by omega
 have e1 : (o.k == 1) = false := by simp [h1]
 have e5 : (o.k == 5) = false := by simp [h5]
 rw [ha] at d1
 obtain ⟨A4, c4, rfl, hc4⟩ := own_shape hpre.own
 have HR := Lib.hid (down_one (parts := p.parts.toNat) (f := f) (q := q) (out := out) ho ha hw hn h2)
 have HPre := Lib.hid hpre
 have HP := Lib.hid hp
 have HC := Lib.hid hc
 have HN := Lib.hid hn
 have HX := Lib.hid (Bk.newAt (w := w.alloc (.cells #[.int .i64 p.parts, .slice (some ad) p.ops.length c] 24)) (t := 48) (cs := #[.int .i64 o.k, .int .i64 (a : Nat), .int .i64 o.b, .int .i64 o.f, .int .i64 o.c]) (g := w.heap.size + 1) (by simp))
 have HI := Lib.hid (DInv.start hpre.own (ext_alloc (ext_alloc (Below.refl _ _) (.cells #[.int .i64 p.parts, .slice (some ad) p.ops.length c] 24)) (.cells #[.int .i64 o.k, .int .i64 (a : Nat), .int .i64 o.b, .int .i64 o.f, .int .i64 o.c] 48)))
 clear hp hpre hc ho hk hn hw h2 ha h1 h5 hin
 go_enter Tryz.func125, Tryz.ntmps125
 go_wp2_with (first
  | (go_at_call 162; refine (rnarrow_c o.k _).mono ?_; rw [HN.out]; rintro e w' ⟨rfl, rfl⟩)
  | (go_at_call 163; refine (HC.out B base p (some ad) K c kc a q out (.slice A4 out.length c4) _ HP.out (HI.out.pre HPre.out HPre.out.good) haf han hq).mono ?_; rintro e w2 hpost; obtain ⟨A2, c2, rfl, hI2, hK2⟩ := HI.out.next HPre.out.bB hpost; have HI2 := Lib.hid hI2; have HX2 := Lib.hid (hK2.bk HX.out (by decide)); have x0 : w2.cell? ⟨w.heap.size + 1, 0, none⟩ = some (.int .i64 o.k) := by rw [HX2.out.cell]; rfl
     have hxl := HX2.out.lt; clear hI2 hK2 hpost))
 go_ret
 rw [HR.out]
 exact HI2.out.post
end Go.Proofs.YtapjhliglmohgaaGreatDoor
/- The way down: a union. -/
namespace Go.Proofs.YtapjhliglmohgaaGreatDoor
open Go.RowKit Go.Sort
set_option maxRecDepth 100000 in
set_option maxHeartbeats 4000000 in
theorem rdown_two : DownStep (fun k => decide (k = 5)) := by
 intro f hc B base p A K c kc s q out v w o hp hpre hsf hsn hq ho hk
 have hk' : o.k = 5 := of_decide_eq_true hk
 have hin := inputsD_a (hp.op s o ho).2 (by omega)
 obtain ⟨a, ha⟩ : ∃ a : Nat, o.a = (a : Nat) := ⟨o.a.toNat, by omega⟩
 have haf : a < f := by omega
 have han : a < p.ops.length := by omega
 have hib := inputsD_b (hp.op s o ho).2 (by rw [hk']; rfl)
 obtain ⟨b, hb⟩ : ∃ b : Nat, o.b = (b : Nat) := ⟨o.b.toNat, by omega⟩
 have hbf : b < f := by omega
 have hbn : b < p.ops.length := by omega
 obtain ⟨ad, rfl, d0, d1, d2, d3, d4⟩ := hpre.ops.ops ho hsn
 have hdl := World.block_lt_of_cell? w _ d0
 have HR := Lib.hid (down_two (parts := p.parts.toNat) (f := f) (q := q) (out := out) ho ha hb (by rw [hk']; rfl) (by rw [hk']; rfl) (by rw [hk']; rfl))
 rw [ha] at d1
 rw [hb] at d2
 rw [hk'] at d0
 obtain ⟨A4, c4, rfl, hc4⟩ := own_shape hpre.own
 have HPre := Lib.hid hpre
 have HP := Lib.hid hp
 have HC := Lib.hid hc
 have HX := Lib.hid (Bk.newAt (w := w.alloc (.cells #[.int .i64 p.parts, .slice (some ad) p.ops.length c] 24)) (t := 48) (cs := #[.int .i64 5, .int .i64 (a : Nat), .int .i64 (b : Nat), .int .i64 o.f, .int .i64 o.c]) (g := w.heap.size + 1) (by simp))
 have HZ := Lib.hid ((Bk.new w 24 #[.int .i64 p.parts, .slice (some ad) p.ops.length c]).alloc (.cells #[.int .i64 5, .int .i64 (a : Nat), .int .i64 (b : Nat), .int .i64 o.f, .int .i64 o.c] 48))
 have HI := Lib.hid (DInv.start hpre.own (ext_alloc (ext_alloc (Below.refl _ _) (.cells #[.int .i64 p.parts, .slice (some ad) p.ops.length c] 24)) (.cells #[.int .i64 5, .int .i64 (a : Nat), .int .i64 (b : Nat), .int .i64 o.f, .int .i64 o.c] 48)))
 clear hp hpre hc ho hk hk' ha hb hin hib
 go_enter Tryz.func125, Tryz.ntmps125
 go_wp2_with (first
  | (go_at_call 162; refine (rnarrow_c 5 _).mono ?_; rw [show narrow 5 = true from rfl]; rintro e w' ⟨rfl, rfl⟩)
  | (go_at_call 163; refine (HC.out B base p (some ad) K c kc b q l2 (.slice A2 l2.length c2) _ HP.out (HI2.out.pre HPre.out HG2.out) hbf hbn hq).mono ?_; rintro e w3 hpost; obtain ⟨A3, c3, rfl, hI2, hK2⟩ := HI2.out.next HPre.out.bB hpost; have HI3 := Lib.hid hI2; have HX3 := Lib.hid (hK2.bk HX2.out (by decide)); clear hI2 hK2 hpost)
  | (go_at_call 163; refine (HC.out B base p (some ad) K c kc a q out (.slice A4 out.length c4) _ HP.out (HI.out.pre HPre.out HPre.out.good) haf han hq).mono ?_; rintro e w2 hpost; obtain ⟨A2, c2, rfl, hI2, hK2⟩ := HI.out.next HPre.out.bB hpost; have HI2 := Lib.hid hI2; have HX2 := Lib.hid (hK2.bk HX.out (by decide)); have HZ2 := Lib.hid (hK2.bk HZ.out (by decide))
     have x0 : w2.cell? ⟨w.heap.size + 1, 0, none⟩ = some (.int .i64 5) := (HX2.out.cell 0).trans rfl
     have x2 : w2.cell? ⟨w.heap.size + 1, 2, none⟩ = some (.int .i64 (b : Nat)) := (HX2.out.cell 2).trans rfl
     have z0 : w2.cell? ⟨w.heap.size, 0, none⟩ = some (.int .i64 p.parts) := (HZ2.out.cell 0).trans rfl
     have z1 : w2.cell? ⟨w.heap.size, 1, none⟩ = some (.slice (some ad) p.ops.length c) := (HZ2.out.cell 1).trans rfl
     have hxl := HX2.out.lt; have hzl := HZ2.out.lt
     have HG2 := Lib.hid (good_come (f := f) HP.out HPre.out.good haf han hq)
     obtain ⟨l2, hl2⟩ : ∃ l2, l2 = comeL p.ops p.parts.toNat f a q out := ⟨_, rfl⟩
     rw [← hl2] at HI2 HG2 HR ⊢; have HL2 := Lib.hid hl2; clear hl2; clear hI2 hK2 hpost))
 go_ret
 rw [HR.out]
 exact HI3.out.post
end Go.Proofs.YtapjhliglmohgaaGreatDoor
/- The way down: all parts of one dataset. -/
namespace Go.Proofs.YtapjhliglmohgaaGreatDoor
open Go.RowKit Go.Sort
set_option maxRecDepth 100000 in
set_option maxHeartbeats 4000000 in
theorem rdown_wide : DownStep (fun k => decide (k = 6) || decide (k = 8)) := by
 intro f hc B base p A K c kc s q out v w o hp hpre hsf hsn hq ho hk
 have hk2 : o.k = 6 ∨ o.k = 8 := by simpa using hk
 have e1 : (o.k == 1) = false := by rcases hk2 with h | h <;> rw [h] <;> rfl
 have e7 : (o.k == 7) = false := by rcases hk2 with h | h <;> rw [h] <;> rfl
 have hnw : narrow o.k = false := by rcases hk2 with h | h <;> rw [h] <;> rfl
 have hw : wide o.k = true := by rcases hk2 with h | h <;> rw [h] <;> rfl
 have h2 : two o.k = false := by rcases hk2 with h | h <;> rw [h] <;> rfl
 have hin := inputsD_a (hp.op s o ho).2 (by omega)
 obtain ⟨a, ha⟩ : ∃ a : Nat, o.a = (a : Nat) := ⟨o.a.toNat, by omega⟩
 have haf : a < f := by omega
 have han : a < p.ops.length := by omega
 obtain ⟨ad, rfl, d0, d1, d2, d3, d4⟩ := hpre.ops.ops ho hsn
 have hdl := World.block_lt_of_cell? w _ d0
 have HR := Lib.hid (down_wide (parts := p.parts.toNat) (f := f) (q := q) (out := out) ho ha hw h2)
 rw [ha] at d1
 obtain ⟨A4, c4, rfl, hc4⟩ := own_shape hpre.own
 have HPre := Lib.hid hpre
 have HP := Lib.hid hp
 have HC := Lib.hid hc
 have HX := Lib.hid (Bk.newAt (w := w.alloc (.cells #[.int .i64 p.parts, .slice (some ad) p.ops.length c] 24)) (t := 48) (cs := #[.int .i64 o.k, .int .i64 (a : Nat), .int .i64 o.b, .int .i64 o.f, .int .i64 o.c]) (g := w.heap.size + 1) (by simp))
 have HZ := Lib.hid ((Bk.new w 24 #[.int .i64 p.parts, .slice (some ad) p.ops.length c]).alloc (.cells #[.int .i64 o.k, .int .i64 (a : Nat), .int .i64 o.b, .int .i64 o.f, .int .i64 o.c] 48))
 have HI := Lib.hid (DInv.start hpre.own (ext_alloc (ext_alloc (Below.refl _ _) (.cells #[.int .i64 p.parts, .slice (some ad) p.ops.length c] 24)) (.cells #[.int .i64 o.k, .int .i64 (a : Nat), .int .i64 o.b, .int .i64 o.f, .int .i64 o.c] 48)))
 have HN := Lib.hid (hnw)
 have hp1 := hp.p1
 have hp4 := hp.p4
 clear hp hpre hc ho hk hk2 hw h2 hnw ha hin
 go_enter Tryz.func125, Tryz.ntmps125
 go_wp2_with (first
  | (go_at_call 162; refine (rnarrow_c o.k _).mono ?_; rw [HN.out]; rintro e w' ⟨rfl, rfl⟩))
 go_loopg [4, 12] p.parts.toNat (fun gk v4 v12 wr => ∃ (m : Nat) (l : List Pt) (A1 : Option Addr) (c1 : Nat), m + gk = p.parts.toNat ∧ v12 = .int .i64 (m : Nat) ∧ v4 = .slice A1 l.length c1 ∧ Hid (l = goN p.ops p.parts.toNat f a m out) ∧ DInv w base (.slice A4 out.length c4) l A1 c1 wr ∧ Bk wr (w.heap.size + 1) 48 #[.int .i64 o.k, .int .i64 (a : Nat), .int .i64 o.b, .int .i64 o.f, .int .i64 o.c] ∧ Bk wr w.heap.size 24 #[.int .i64 p.parts, .slice (some ad) p.ops.length c])
 case atStart => exact ⟨0, out, A4, c4, by omega, rfl, rfl, Lib.hid rfl, HI.out, HX.out, HZ.out⟩
 case round =>
  obtain ⟨m, l, A1, c1, hik, rfl, rfl, hl, hI, hx, hz⟩ := hrel
  have HIw := Lib.hid hI
  have HXw := Lib.hid hx
  have HZw := Lib.hid hz
  clear hI hx hz
  have x0 : wr.cell? ⟨w.heap.size + 1, 0, none⟩ = some (.int .i64 o.k) := (HXw.out.cell 0).trans rfl
  have x1 : wr.cell? ⟨w.heap.size + 1, 1, none⟩ = some (.int .i64 (a : Nat)) := (HXw.out.cell 1).trans rfl
  have x2 : wr.cell? ⟨w.heap.size + 1, 2, none⟩ = some (.int .i64 o.b) := (HXw.out.cell 2).trans rfl
  have z0 : wr.cell? ⟨w.heap.size, 0, none⟩ = some (.int .i64 p.parts) := (HZw.out.cell 0).trans rfl
  have z1 : wr.cell? ⟨w.heap.size, 1, none⟩ = some (.slice (some ad) p.ops.length c) := (HZw.out.cell 1).trans rfl
  have hxl := HXw.out.lt
  have hzl := HZw.out.lt
  by_cases hm : m < p.parts.toNat
  · have hmi : (m : Int) < p.parts := by omega
    have um : decide ((m : Int) < p.parts) = true := decide_eq_true hmi
    have HG := Lib.hid (show Good l from (by rw [hl.out]; exact good_goN HP.out haf han m (by omega) HPre.out.good))
    go_wp2_with (first
     | (go_at_call 163; refine (HC.out B base p (some ad) K c kc a m l (.slice A1 l.length c1) _ HP.out (HIw.out.pre HPre.out HG.out) haf han hm).mono ?_; rintro e w2 hpost; obtain ⟨A2, c2, rfl, hI2, hK2⟩ := HIw.out.next HPre.out.bB hpost; have HI2 := Lib.hid hI2; have HX2 := Lib.hid (hK2.bk HXw.out (by decide)); have HZ2 := Lib.hid (hK2.bk HZw.out (by decide))
        have x0 : w2.cell? ⟨w.heap.size + 1, 0, none⟩ = some (.int .i64 o.k) := (HX2.out.cell 0).trans rfl; have hxl2 := HX2.out.lt; clear hI2 hK2 hpost))
    go_roundg (gk - 1)
    case measure => omega
    case rel => exact ⟨m + 1, _, A2, c2, by omega, by go_num, rfl, Lib.hid (by rw [goN_succ, ← hl.out]), HI2.out, HX2.out, HZ2.out⟩
  · have hme : m = p.parts.toNat := by omega
    subst hme
    have hmi : ¬ ((p.parts.toNat : Nat) : Int) < p.parts := by omega
    have um : decide (((p.parts.toNat : Nat) : Int) < p.parts) = false := decide_eq_false hmi
    go_wp2_with fail
    go_ret
    rw [HR.out, ← hl.out]
    exact HIw.out.post
end Go.Proofs.YtapjhliglmohgaaGreatDoor
/- The way down: all parts of two datasets. -/
namespace Go.Proofs.YtapjhliglmohgaaGreatDoor
open Go.RowKit Go.Sort
set_option maxRecDepth 100000 in
set_option maxHeartbeats 4000000 in
theorem rdown_join : DownStep (fun k => decide (k = 7)) := by
 intro f hc B base p A K c kc s q out v w o hp hpre hsf hsn hq ho hk
 have hk' : o.k = 7 := of_decide_eq_true hk
 have e1 : wide 7 = true := rfl
 have hin := inputsD_a (hp.op s o ho).2 (by omega)
 obtain ⟨a, ha⟩ : ∃ a : Nat, o.a = (a : Nat) := ⟨o.a.toNat, by omega⟩
 have haf : a < f := by omega
 have han : a < p.ops.length := by omega
 have hib := inputsD_b (hp.op s o ho).2 (by rw [hk']; rfl)
 obtain ⟨b, hb⟩ : ∃ b : Nat, o.b = (b : Nat) := ⟨o.b.toNat, by omega⟩
 have hbf : b < f := by omega
 have hbn : b < p.ops.length := by omega
 obtain ⟨ad, rfl, d0, d1, d2, d3, d4⟩ := hpre.ops.ops ho hsn
 have hdl := World.block_lt_of_cell? w _ d0
 have HR := Lib.hid (down_join (parts := p.parts.toNat) (f := f) (q := q) (out := out) ho ha hb (by rw [hk']; rfl) (by rw [hk']; rfl))
 rw [ha] at d1
 rw [hb] at d2
 rw [hk'] at d0
 obtain ⟨A4, c4, rfl, hc4⟩ := own_shape hpre.own
 have HPre := Lib.hid hpre
 have HP := Lib.hid hp
 have HC := Lib.hid hc
 have HX := Lib.hid (Bk.newAt (w := w.alloc (.cells #[.int .i64 p.parts, .slice (some ad) p.ops.length c] 24)) (t := 48) (cs := #[.int .i64 7, .int .i64 (a : Nat), .int .i64 (b : Nat), .int .i64 o.f, .int .i64 o.c]) (g := w.heap.size + 1) (by simp))
 have HZ := Lib.hid ((Bk.new w 24 #[.int .i64 p.parts, .slice (some ad) p.ops.length c]).alloc (.cells #[.int .i64 7, .int .i64 (a : Nat), .int .i64 (b : Nat), .int .i64 o.f, .int .i64 o.c] 48))
 have HI := Lib.hid (DInv.start hpre.own (ext_alloc (ext_alloc (Below.refl _ _) (.cells #[.int .i64 p.parts, .slice (some ad) p.ops.length c] 24)) (.cells #[.int .i64 7, .int .i64 (a : Nat), .int .i64 (b : Nat), .int .i64 o.f, .int .i64 o.c] 48)))
 have HN := Lib.hid (show narrow 7 = false from rfl)
 have hp1 := hp.p1
 have hp4 := hp.p4
 clear hp hpre hc ho hk hk' hb hib ha hin
 go_enter Tryz.func125, Tryz.ntmps125
 go_wp2_with (first
  | (go_at_call 162; refine (rnarrow_c 7 _).mono ?_; rw [HN.out]; rintro e w' ⟨rfl, rfl⟩))
 go_loopg [4, 12] p.parts.toNat (fun gk v4 v12 wr => ∃ (m : Nat) (l : List Pt) (A1 : Option Addr) (c1 : Nat), m + gk = p.parts.toNat ∧ v12 = .int .i64 (m : Nat) ∧ v4 = .slice A1 l.length c1 ∧ Hid (l = goN p.ops p.parts.toNat f a m out) ∧ DInv w base (.slice A4 out.length c4) l A1 c1 wr ∧ Bk wr (w.heap.size + 1) 48 #[.int .i64 7, .int .i64 (a : Nat), .int .i64 (b : Nat), .int .i64 o.f, .int .i64 o.c] ∧ Bk wr w.heap.size 24 #[.int .i64 p.parts, .slice (some ad) p.ops.length c])
 case atStart => exact ⟨0, out, A4, c4, by omega, rfl, rfl, Lib.hid rfl, HI.out, HX.out, HZ.out⟩
 case round =>
  obtain ⟨m, l, A1, c1, hik, rfl, rfl, hl, hI, hx, hz⟩ := hrel
  have HIw := Lib.hid hI
  have HXw := Lib.hid hx
  have HZw := Lib.hid hz
  clear hI hx hz
  have x0 : wr.cell? ⟨w.heap.size + 1, 0, none⟩ = some (.int .i64 7) := (HXw.out.cell 0).trans rfl
  have x1 : wr.cell? ⟨w.heap.size + 1, 1, none⟩ = some (.int .i64 (a : Nat)) := (HXw.out.cell 1).trans rfl
  have x2 : wr.cell? ⟨w.heap.size + 1, 2, none⟩ = some (.int .i64 (b : Nat)) := (HXw.out.cell 2).trans rfl
  have z0 : wr.cell? ⟨w.heap.size, 0, none⟩ = some (.int .i64 p.parts) := (HZw.out.cell 0).trans rfl
  have z1 : wr.cell? ⟨w.heap.size, 1, none⟩ = some (.slice (some ad) p.ops.length c) := (HZw.out.cell 1).trans rfl
  have hxl := HXw.out.lt
  have hzl := HZw.out.lt
  by_cases hm : m < p.parts.toNat
  · have hmi : (m : Int) < p.parts := by omega
    have um : decide ((m : Int) < p.parts) = true := decide_eq_true hmi
    have HG := Lib.hid (show Good l from (by rw [hl.out]; exact good_goN HP.out haf han m (by omega) HPre.out.good))
    go_wp2_with (first
     | (go_at_call 163; refine (HC.out B base p (some ad) K c kc a m l (.slice A1 l.length c1) _ HP.out (HIw.out.pre HPre.out HG.out) haf han hm).mono ?_; rintro e w2 hpost; obtain ⟨A2, c2, rfl, hI2, hK2⟩ := HIw.out.next HPre.out.bB hpost; have HI2 := Lib.hid hI2; have HX2 := Lib.hid (hK2.bk HXw.out (by decide)); have HZ2 := Lib.hid (hK2.bk HZw.out (by decide))
        have x0 : w2.cell? ⟨w.heap.size + 1, 0, none⟩ = some (.int .i64 7) := (HX2.out.cell 0).trans rfl; have hxl2 := HX2.out.lt; clear hI2 hK2 hpost))
    go_roundg (gk - 1)
    case measure => omega
    case rel => exact ⟨m + 1, _, A2, c2, by omega, by go_num, rfl, Lib.hid (by rw [goN_succ, ← hl.out]), HI2.out, HX2.out, HZ2.out⟩
  · have hme : m = p.parts.toNat := by omega
    subst hme
    have hmi : ¬ ((p.parts.toNat : Nat) : Int) < p.parts := by omega
    have um : decide (((p.parts.toNat : Nat) : Int) < p.parts) = false := decide_eq_false hmi
    have HG := Lib.hid (show Good l from (by rw [hl.out]; exact good_goN HP.out haf han _ (Nat.le_refl _) HPre.out.good))
    obtain ⟨l1, hl1⟩ : ∃ l1, l1 = l := ⟨_, rfl⟩
    obtain ⟨A5, hA5⟩ : ∃ A5, A5 = A1 := ⟨_, rfl⟩
    obtain ⟨c5, hc5⟩ : ∃ c5, c5 = c1 := ⟨_, rfl⟩
    obtain ⟨wo, hwo⟩ : ∃ wo, wo = wr := ⟨_, rfl⟩
    obtain ⟨go, hgo⟩ : ∃ go, go = gk := ⟨_, rfl⟩
    rw [← hl1, ← hA5, ← hc5, ← hwo] at HIw
    rw [← hl1] at HG hl
    rw [← hwo] at HXw HZw x0 x1 x2 z0 z1 hxl hzl
    rw [← hl1, ← hA5, ← hc5, ← hwo]
    clear hl1 hA5 hc5 hwo
    go_wp2_with fail
    go_loopg [4, 13] p.parts.toNat (fun gk v4 v13 wr => ∃ (m : Nat) (l : List Pt) (A1 : Option Addr) (c1 : Nat), m + gk = p.parts.toNat ∧ v13 = .int .i64 (m : Nat) ∧ v4 = .slice A1 l.length c1 ∧ Hid (l = goN p.ops p.parts.toNat f b m l1) ∧ DInv w base (.slice A4 out.length c4) l A1 c1 wr ∧ Bk wr (w.heap.size + 1) 48 #[.int .i64 7, .int .i64 (a : Nat), .int .i64 (b : Nat), .int .i64 o.f, .int .i64 o.c] ∧ Bk wr w.heap.size 24 #[.int .i64 p.parts, .slice (some ad) p.ops.length c])
    case atStart => exact ⟨0, l1, A5, c5, by omega, rfl, rfl, Lib.hid rfl, HIw.out, HXw.out, HZw.out⟩
    case round =>
     have HG1 := HG
     clear HG x0 x1 x2 z0 z1 hxl hzl
     obtain ⟨m, l, A1, c1, hik, rfl, rfl, hl', hI, hx, hz⟩ := hrel
     have HIv := Lib.hid hI
     have HXv := Lib.hid hx
     have HZv := Lib.hid hz
     clear hI hx hz
     have x0 : wr.cell? ⟨w.heap.size + 1, 0, none⟩ = some (.int .i64 7) := (HXv.out.cell 0).trans rfl
     have x1 : wr.cell? ⟨w.heap.size + 1, 1, none⟩ = some (.int .i64 (a : Nat)) := (HXv.out.cell 1).trans rfl
     have x2 : wr.cell? ⟨w.heap.size + 1, 2, none⟩ = some (.int .i64 (b : Nat)) := (HXv.out.cell 2).trans rfl
     have z0 : wr.cell? ⟨w.heap.size, 0, none⟩ = some (.int .i64 p.parts) := (HZv.out.cell 0).trans rfl
     have z1 : wr.cell? ⟨w.heap.size, 1, none⟩ = some (.slice (some ad) p.ops.length c) := (HZv.out.cell 1).trans rfl
     have hxl := HXv.out.lt
     have hzl := HZv.out.lt
     by_cases hm : m < p.parts.toNat
     · have hmi : (m : Int) < p.parts := by omega
       have um : decide ((m : Int) < p.parts) = true := decide_eq_true hmi
       have HG := Lib.hid (show Good l from (by rw [hl'.out]; exact good_goN HP.out hbf hbn m (by omega) HG1.out))
       go_wp2_with (first
        | (go_at_call 163; refine (HC.out B base p (some ad) K c kc b m l (.slice A1 l.length c1) _ HP.out (HIv.out.pre HPre.out HG.out) hbf hbn hm).mono ?_; rintro e w2 hpost; obtain ⟨A2, c2, rfl, hI2, hK2⟩ := HIv.out.next HPre.out.bB hpost; have HI2 := Lib.hid hI2; have HX2 := Lib.hid (hK2.bk HXv.out (by decide)); have HZ2 := Lib.hid (hK2.bk HZv.out (by decide))
           have x0 : w2.cell? ⟨w.heap.size + 1, 0, none⟩ = some (.int .i64 7) := (HX2.out.cell 0).trans rfl; have hxl2 := HX2.out.lt; clear hI2 hK2 hpost))
       go_roundg (gk - 1)
       case measure => omega
       case rel => exact ⟨m + 1, _, A2, c2, by omega, by go_num, rfl, Lib.hid (by rw [goN_succ, ← hl'.out]), HI2.out, HX2.out, HZ2.out⟩
     · have hme : m = p.parts.toNat := by omega
       subst hme
       have hmi : ¬ ((p.parts.toNat : Nat) : Int) < p.parts := by omega
       have um : decide (((p.parts.toNat : Nat) : Int) < p.parts) = false := decide_eq_false hmi
       go_wp2_with fail
       go_ret
       rw [HR.out, ← hl.out, ← hl'.out]
       exact HIv.out.post
end Go.Proofs.YtapjhliglmohgaaGreatDoor
/- The way down, by the document's text: all together. -/
namespace Go.Proofs.YtapjhliglmohgaaGreatDoor
open Go.RowKit Go.Sort
theorem rdown_all : ∀ f, RDown f
 | 0 => fun _ _ _ _ _ _ _ _ _ _ _ _ _ _ h _ _ => absurd h (Nat.not_lt_zero _)
 | f + 1 => by
   have hc := rcome_c f (rdown_all f)
   intro B base p A K c kc s q out v w hp hpre hsf hsn hq
   have ho : p.ops[s]? = some (p.ops[s]) := List.getElem?_eq_getElem hsn
   rcases kind_in (hp.op s _ ho).1 with h | h | h
   · exact rdown_src f hc B base p A K c kc s q out v w _ hp hpre hsf hsn hq ho (decide_eq_true h)
   · by_cases h5 : p.ops[s].k = 5
     · exact rdown_two f hc B base p A K c kc s q out v w _ hp hpre hsf hsn hq ho (decide_eq_true h5)
     · refine rdown_one f hc B base p A K c kc s q out v w _ hp hpre hsf hsn hq ho ?_
       have h7 : p.ops[s].k ≠ 7 := by intro e; rw [e] at h; cases h
       show (narrow _ && !two _) = true
       rw [h]
       simp [two, h5, h7]
   · by_cases h7 : p.ops[s].k = 7
     · exact rdown_join f hc B base p A K c kc s q out v w _ hp hpre hsf hsn hq ho (decide_eq_true h7)
     · refine rdown_wide f hc B base p A K c kc s q out v w _ hp hpre hsf hsn hq ho ?_
       unfold wide at h
       simpa [h7] using h
/-- The parts that a part is made of, by the document: in order, each once. -/
theorem rown_c (B : Nat) (p : PlanD) (A K : Option Addr) (c kc s q : Nat) (w : World) (hp : Shaped p) (hO : Rd w B 48 5 A p.ops.length (opsC p.ops)) (hK : Rd w B 4 1 K p.ops.length (boolsC (keptL p.ops))) (hB : B ≤ w.heap.size) (hs : s < p.ops.length) (hq : q < p.parts.toNat) :
 Calls Tryz.prog 125 #[planV p A c, .slice K p.ops.length kc, .int .i64 (s : Nat), .int .i64 (q : Nat), .slice none 0 0] w (DownPost w w.heap.size (.slice none 0 0) (ownL p.ops p.parts.toNat s q)) :=
 rdown_all (s + 1) B w.heap.size p A K c kc s q [] (.slice none 0 0) w hp ⟨hO, hK, World.ownsRow_nil _ _ _ _, ⟨List.nodup_nil, fun _ h => by cases h⟩, hB, Nat.le_refl _⟩ (Nat.lt_succ_self _) hs hq
end Go.Proofs.YtapjhliglmohgaaGreatDoor
/- Rows of numbers that are set one by one; the rows of the trees. -/
namespace Go.Proofs.YtapjhliglmohgaaGreatDoor
open Go.RowKit Go.Sort
def intsC (l : List Nat) : List Value := l.map fun n => .int .i64 (n : Nat)
theorem intsC_set (l : List Nat) (i n : Nat) : (intsC l).set i (.int .i64 (n : Nat)) = intsC (l.set i n) := by simp [intsC, List.map_set]
theorem made_ints (n : Nat) : (madeCells #[.int .i64 0] n).toList = intsC (List.replicate n 0) := by
 apply List.ext_getElem?
 intro x
 by_cases h : x < n
 · simp [madeCells, intsC, h, Nat.mod_one]
 · simp [madeCells, intsC, h]
theorem int_info : (Tryz.prog.info? 3).map (fun i => (i.zero, i.size, i.bytes)) = some (some (.int .i64 0), 1, 8) := by kernel_rfl
/-- A row of numbers of one's own, that begins at ad. -/
structure IRow (w : World) (ad : Addr) (g : Nat) (l : List Nat) : Prop where
 at_ : ad = ⟨g, 0, none⟩
 own : w.ownsRow g 3 1 (.slice (some ad) l.length l.length) l.length (intsC l)
section
variable {w w' : World} {ad : Addr} {g n : Nat} {l : List Nat}
theorem IRow.own' (h : IRow w ad g l) : w.ownsRow g 3 1 (.slice (some ⟨g, 0, none⟩) l.length l.length) l.length (intsC l) := h.at_ ▸ h.own
theorem IRow.cell (h : IRow w ad g l) {i y : Nat} (hy : l[i]? = some y) : w.cell? (ad.add i) = some (.int .i64 (y : Nat)) := by
 have hi : i < l.length := (List.getElem?_eq_some_iff.1 hy).1
 rw [adr1 h.at_, h.own'.cellAt i (by omega)]
 unfold intsC
 rw [List.getElem?_map, hy]
 rfl
theorem IRow.free (h : IRow w ad g l) (i : Nat) : w.frozen? (ad.add i) = false := by
 rw [adr1 h.at_]
 exact own_frozen h.own' i
theorem IRow.blk (h : IRow w ad g l) (i : Nat) : (ad.add i).block = g := by rw [adr1 h.at_]
theorem IRow.set_ (h : IRow w ad g l) (i m : Nat) : IRow (w.setCell (ad.add i) (.int .i64 (m : Nat))) ad g (l.set i m) := by
 refine ⟨h.at_, ?_⟩
 have h1 := own_set h.own' i (.int .i64 (m : Nat))
 rw [intsC_set] at h1
 rw [List.length_set, adr1 h.at_, h.at_]
 exact h1
theorem IRow.ext (h : IRow w ad g l) (hb : Below w.heap.size w w') : IRow w' ad g l := ⟨h.at_, own_ext h.own hb⟩
theorem IRow.drewN (h : IRow w ad g l) (k : Nat) : IRow (w.drewN k) ad g l := h.ext (below_drewN (Below.refl _ _) k)
theorem IRow.alloc (h : IRow w ad g l) (o : Obj) : IRow (w.alloc o) ad g l := h.ext (ext_alloc (Below.refl _ _) o)
theorem IRow.but {B : Nat} (h : IRow w ad g l) (hk : KeepBut B 35 w w') : IRow w' ad g l := ⟨h.at_, hk.own h.own (by decide)⟩
theorem IRow.lt (h : IRow w ad g l) : g < w.heap.size := (h.own'.lt _ rfl).2
theorem IRow.bk (h : IRow w ad g l) : ∃ cs, Bk w g 3 cs := own_blk h.own'
theorem IRow.new (w : World) (n : Nat) (hn : n ≤ 1000000) : IRow (w.alloc (.cells (madeCells #[.int .i64 0] n) 3)) ⟨w.heap.size, 0, none⟩ w.heap.size (List.replicate n 0) := by
 refine ⟨rfl, ?_⟩
 have h1 := World.ownsRow_lit w (base := w.heap.size) (e := 3) (size := 1) (madeCells #[.int .i64 0] n) n (by simp) (by unfold maxLen; omega) (by simp [madeCells])
 rw [← made_ints, List.length_replicate]
 exact h1
end
theorem IRow.far {w : World} {ad ad' : Addr} {g g' : Nat} {l l' : List Nat} (h : IRow w ad g l) (h' : IRow w ad' g' l') (hne : g ≠ g') (i : Nat) (u : Value) : IRow (w.setCell (ad'.add i) u) ad g l := by
 refine ⟨h.at_, ?_⟩
 rw [adr1 h'.at_, h.at_]
 refine ⟨h.own'.1, ?_⟩
 rcases h.own'.2 with h0 | ⟨b, c, cur, hv, h1, h2, r⟩
 · exact .inl h0
 · refine .inr ⟨b, c, cur, hv, h1, ?_, r⟩
   rw [Below.heap_setCell _ _ _ _ (fun he => ?_)]
   · exact h2
   · simp only [Value.slice.injEq, Option.some.injEq, Addr.mk.injEq] at hv
     exact hne (hv.1.1.trans he)
/-! ### plain -/
section
variable {ops : List OpD} {parts : Nat} {prev : Option (List Nat)}
/-- A row of trees under way. -/
def rowP (ops : List OpD) (parts : Nat) (prev : Option (List Nat)) (i : Nat) : List Nat := rowT ops parts prev i ++ List.replicate (ops.length - i) 0
theorem rowP_zero : rowP ops parts prev 0 = List.replicate ops.length 0 := by unfold rowP rowT; simp
theorem rowP_full : rowP ops parts prev ops.length = rowT ops parts prev ops.length := by unfold rowP; simp
theorem rowP_len {i : Nat} (h : i ≤ ops.length) : (rowP ops parts prev i).length = ops.length := by
 unfold rowP
 rw [List.length_append, rowT_len, List.length_replicate]
 omega
/-- The tree of the next dataset. -/
def nextT (ops : List OpD) (parts : Nat) (prev : Option (List Nat)) (s : Nat) : Nat := (rowT ops parts prev (s + 1)).getD s 0
theorem rowT_succ {s : Nat} : rowT ops parts prev (s + 1) = rowT ops parts prev s ++ [nextT ops parts prev s] := by
 unfold nextT
 have hl := rowT_len (ops := ops) (parts := parts) prev s
 conv => lhs; rw [rowT]
 conv => rhs; rw [rowT]
 simp only [List.getD_eq_getElem?_getD]
 rw [List.getElem?_append_right (by omega), hl, Nat.sub_self]
 rfl
theorem rowP_set {i : Nat} (h : i < ops.length) : (rowP ops parts prev i).set i (nextT ops parts prev i) = rowP ops parts prev (i + 1) := by
 unfold rowP
 rw [rowT_succ, List.set_append_right _ _ (by rw [rowT_len]; exact Nat.le_refl _), rowT_len, Nat.sub_self, List.append_assoc, show ops.length - i = (ops.length - (i + 1)) + 1 by omega, List.replicate_succ]
 rfl
theorem rowP_at {i y : Nat} (h : y < i) : (rowP ops parts prev i)[y]? = some ((rowT ops parts prev i).getD y 0) := by
 unfold rowP
 have hl := rowT_len (ops := ops) (parts := parts) prev i
 rw [List.getElem?_append_left (by omega), List.getD_eq_getElem?_getD, List.getElem?_eq_getElem (by omega)]
 rfl
theorem nextT_not {s : Nat} (h : keptAt ops s = false) : nextT ops parts prev s = 0 := by
 unfold nextT
 rw [rowT_at _ (Nat.lt_succ_self s), if_neg (by rw [h]; simp)]
theorem rowP_skip {i : Nat} (h : i < ops.length) (hk : keptAt ops i = false) : rowP ops parts prev (i + 1) = rowP ops parts prev i := by
 unfold rowP
 rw [rowT_succ, nextT_not hk, List.append_assoc, show ops.length - i = (ops.length - (i + 1)) + 1 by omega, List.replicate_succ]
 rfl
theorem maxL_snoc (l : List Nat) (x : Nat) : maxL (l ++ [x]) = max (maxL l) x := by unfold maxL; rw [List.foldl_append]; rfl
/-- The pieces' trees one behind the other. -/
def sumT (r : List Nat) (l : List Pt) : Nat := capS 1 (l.map fun y => r.getD y.1 0)
theorem capS_snoc (n x : Nat) (l : List Nat) : capS n (l ++ [x]) = capA (capS n l) x := by unfold capS; rw [List.foldl_append]; rfl
theorem nextT_is {s : Nat} (h : keptAt ops s = true) : nextT ops parts prev s = (match prev with
 | none => sumT (rowT ops parts prev s) (ownL ops parts s 0)
 | some pr => if ((ops[s]?).map fun o => decide (o.k = 8)).getD false then capA (sumT (rowT ops parts prev s) (ownL ops parts s 0)) (pr.getD s 0) else sumT (rowT ops parts prev s) (ownL ops parts s 0)) := by
 unfold nextT
 rw [rowT_at _ (Nat.lt_succ_self s), if_pos h]
 rfl
theorem nextT_le (s : Nat) : nextT ops parts prev s ≤ 4097 := by
 cases hk : keptAt ops s with
 | false => rw [nextT_not hk]; omega
 | true =>
   rw [nextT_is hk]
   cases prev with
   | none => exact capS_le _ (by omega)
   | some pr =>
     simp only
     split
     · exact capA_le
     · exact capS_le _ (by omega)
theorem rowT_le (i y : Nat) : (rowT ops parts prev i).getD y 0 ≤ 4097 := by
 rcases Nat.lt_or_ge y i with h | h
 · rw [rowT_pre prev (Nat.lt_succ_self y) h]
   exact nextT_le y
 · rw [List.getD_eq_getElem?_getD, List.getElem?_eq_none (by rw [rowT_len]; exact h)]
   exact Nat.zero_le _
theorem sumT_le (r : List Nat) (l : List Pt) : sumT r l ≤ 4097 := capS_le _ (by omega)
theorem sumT_snoc (r : List Nat) {l : List Pt} {j : Nat} {y : Pt} (h : l[j]? = some y) : sumT r (l.take (j + 1)) = capA (sumT r (l.take j)) (r.getD y.1 0) := by
 unfold sumT
 rw [take_succ_of h, List.map_append]
 exact capS_snoc _ _ _
end
end Go.Proofs.YtapjhliglmohgaaGreatDoor
/- How great a tree is, by the document's text. -/
namespace Go.Proofs.YtapjhliglmohgaaGreatDoor
open Go.RowKit Go.Sort
/-- The row of the batch ahead, if there is one. -/
def PrevIs (w : World) (v : Value) (g : Nat) (prev : Option (List Nat)) : Prop := match prev with
 | none => v = .slice none 0 0
 | some pr => ∃ ad, v = .slice (some ad) pr.length pr.length ∧ IRow w ad g pr
structure TInv (B : Nat) (p : PlanD) (A K : Option Addr) (c : Nat) (w0 : World) (w : World) (v : Value) (g : Nat) (prev : Option (List Nat)) : Prop where
 prv : PrevIs w v g prev
 bx : Bk w w0.heap.size 24 #[.int .i64 p.parts, .slice A p.ops.length c]
 ops : Rd w B 48 5 A p.ops.length (opsC p.ops)
 kept : Rd w B 4 1 K p.ops.length (boolsC (keptL p.ops))
 bel : Below w0.heap.size w0 w
 lt : g < w.heap.size
section
variable {B : Nat} {p : PlanD} {A K : Option Addr} {c : Nat} {w0 w w' : World} {v : Value} {g : Nat} {prev : Option (List Nat)}
theorem PrevIs.ext (h : PrevIs w v g prev) (hb : Below w.heap.size w w') : PrevIs w' v g prev := by
 cases prev with
 | none => exact h
 | some pr =>
   obtain ⟨ad, hv, hr⟩ := h
   exact ⟨ad, hv, hr.ext hb⟩
theorem TInv.ext (h : TInv B p A K c w0 w v g prev) (hb : Below w.heap.size w w') : TInv B p A K c w0 w' v g prev :=
 ⟨h.prv.ext hb, h.bx.ext hb, h.ops.ext hb, h.kept.ext hb, ext_trans h.bel hb, Nat.lt_of_lt_of_le h.lt hb.size⟩
theorem TInv.set_ (h : TInv B p A K c w0 w v g prev) (hB : B ≤ w0.heap.size) {ad : Addr} {g' : Nat} {l : List Nat} (hr : IRow w ad g' l) (hg : w0.heap.size < g') (hne : g ≠ g') (i : Nat) (u : Value) : TInv B p A K c w0 (w.setCell (ad.add i) u) v g prev := by
 obtain ⟨cs, hbk⟩ := hr.bk
 have hbk' : Bk w (ad.add i).block 3 cs := by rw [hr.blk]; exact hbk
 refine ⟨?_, h.bx.far (by rw [hr.blk]; omega) _, h.ops.farBk (by rw [hr.blk]; omega) hbk' (by decide) _, h.kept.farBk (by rw [hr.blk]; omega) hbk' (by decide) _, h.bel.setCell (by rw [hr.blk]; omega) _, by simpa using h.lt⟩
 cases prev with
 | none => exact h.prv
 | some pr =>
   obtain ⟨ad', hv, hr'⟩ := h.prv
   exact ⟨ad', hv, hr'.far hr hne i u⟩
end
set_option maxRecDepth 100000 in
set_option maxHeartbeats 4000000 in
theorem rtree_c (p : PlanD) (hp : Shaped p) (B : Nat) (A : Option Addr) (c N : Nat) (hN : N ≤ 16) (w : World) (h : Rd w B 48 5 A p.ops.length (opsC p.ops)) (hB : B ≤ w.heap.size) : Calls Tryz.prog 66 #[planV p A c, .int .i64 (N : Nat)] w (IntPost w (treeD p.ops p.parts.toNat N : Nat)) := by
 have hn0 := hp.n0
 have hn12 := hp.n12
 have HP := Lib.hid hp
 have HO := Lib.hid h
 have hkl : (keptL p.ops).length = p.ops.length := by simp [keptL]
 have hmk := run_make_row' (P := Tryz.prog) 50 3 (.int .i64 0) 8 Tryz.underlying50 int_info rfl .i64 .i64 p.ops.length (by omega) (by omega)
 have HL := Lib.hid hkl
 clear h hp hkl
 go_enter Tryz.func66, Tryz.ntmps66
 go_wp2_with (first
  | (go_at_call 124; refine (rkept_c p HP.out B A c _ (HO.out.alloc _)).mono ?_; rintro e w1 ⟨gK, rfl, hown, hb⟩; have HK := Lib.hid (Rd.of_own (B := B) hown); have HB1 := Lib.hid hb; clear hown hb))
 rw [HL.out] at HK ⊢
 have HT := Lib.hid (show TInv B p A (some ⟨gK, 0, none⟩) c w w1 (.slice none 0 0) w.heap.size none from ⟨rfl, (Bk.new _ _ _).ext HB1.out, (HO.out.alloc _).ext HB1.out, HK.out, ext_trans (ext_alloc (Below.refl _ _) _) HB1.out, Nat.lt_of_lt_of_le (by simp) HB1.out.size⟩)
 generalize (⟨gK, 0, none⟩ : Addr) = adK at HT HK ⊢
 clear HK HB1
 go_loopg [6, 7, 8] N (fun gk v6 v7 v8 wr => ∃ (b g : Nat) (prev : Option (List Nat)) (pv : Value), pv = v6 ∧ b + gk = N ∧ v8 = .int .i64 ((b + 1 : Nat)) ∧ v7 = .int .i64 (maxL (prev.getD []) : Nat) ∧ Hid (prev = batT p.ops p.parts.toNat b) ∧ TInv B p A (some adK) c w wr pv g prev)
 case atStart => exact ⟨0, w.heap.size, none, _, rfl, by omega, rfl, rfl, Lib.hid rfl, HT.out⟩
 case round =>
  obtain ⟨b, g, prev, pv, rfl, hbk, rfl, rfl, hprev, hT⟩ := hrel
  have HTw := Lib.hid hT
  have z0 : wr.cell? ⟨w.heap.size, 0, none⟩ = some (.int .i64 p.parts) := (hT.bx.cell 0).trans rfl
  have z1 : wr.cell? ⟨w.heap.size, 1, none⟩ = some (.slice A p.ops.length c) := (hT.bx.cell 1).trans rfl
  have hzl := hT.bx.lt
  clear hT
  by_cases hb : b < N
  · have hbl : ((b + 1 : Nat) : Int) ≤ (N : Nat) := by omega
    have hbd : decide (((b + 1 : Nat) : Int) ≤ (N : Nat)) = true := decide_eq_true hbl
    go_wp2_with fail
    have hbd2 : decide (((b : Nat) : Int) + 1 ≤ ((N : Nat) : Int)) = true := decide_eq_true (by omega)
    simp only [hbd2]
    clear hbd2
    have HR0 := Lib.hid (IRow.new wr p.ops.length (by omega))
    have HT1 := Lib.hid (HTw.out.ext (ext_alloc (Below.refl _ _) (.cells (madeCells #[.int .i64 0] p.ops.length) 3)))
    obtain ⟨gn, hgn⟩ : ∃ gn, gn = wr.heap.size := ⟨_, rfl⟩
    have hgl := HTw.out.lt
    have hgw := HTw.out.bx.lt
    rw [← hgn] at HR0 hgl hgw ⊢
    obtain ⟨adn, hadn⟩ : ∃ adn : Addr, adn = ⟨gn, 0, none⟩ := ⟨_, rfl⟩
    rw [← hadn] at HR0 ⊢
    obtain ⟨wo, hwo⟩ : ∃ wo, wo = wr.alloc (.cells (madeCells #[.int .i64 0] p.ops.length) 3) := ⟨_, rfl⟩
    rw [← hwo] at HR0 HT1 ⊢
    obtain ⟨go, rfl⟩ : ∃ go : Nat, go = gk := ⟨_, rfl⟩
    clear hadn hwo hgn HTw z0 z1 hzl hmk hbl hbd
    go_loopg [7, 10] p.ops.length (fun gk v7 v10 wr => ∃ i : Nat, i + gk = p.ops.length ∧ v10 = .int .i64 (i : Nat) ∧ v7 = .int .i64 (maxL (rowT p.ops p.parts.toNat prev i) : Nat) ∧ IRow wr adn gn (rowP p.ops p.parts.toNat prev i) ∧ TInv B p A (some adK) c w wr pv g prev)
    case atStart => exact ⟨0, by omega, rfl, rfl, by rw [rowP_zero]; exact HR0.out, HT1.out⟩
    case round =>
     obtain ⟨i, hik, rfl, rfl, hR, hT⟩ := hrel
     have HRw := Lib.hid hR
     have HTw := Lib.hid hT
     have z0 : wr.cell? ⟨w.heap.size, 0, none⟩ = some (.int .i64 p.parts) := (hT.bx.cell 0).trans rfl
     have z1 : wr.cell? ⟨w.heap.size, 1, none⟩ = some (.slice A p.ops.length c) := (hT.bx.cell 1).trans rfl
     have hzl := hT.bx.lt
     clear hT hR
     by_cases hi : i < p.ops.length
     · obtain ⟨adk, hadk, k0⟩ := kept_cell HTw.out.kept hi hi
       cases hadk
       cases hk : keptAt p.ops i with
       | false =>
         rw [hk] at k0
         have HK := Lib.hid hk
         clear hk
         go_wp2_with fail
         go_roundg (gk - 1)
         case measure => omega
         case rel =>
          refine ⟨i + 1, by omega, by go_num, ?_, by rw [rowP_skip hi HK.out]; exact HRw.out, HTw.out⟩
          rw [rowT_succ, maxL_snoc, nextT_not HK.out, Nat.max_eq_left (Nat.zero_le _)]
       | true =>
         rw [hk] at k0
         have HK := Lib.hid hk
         clear hk
         have hq0 : 0 < p.parts.toNat := by have := HP.out.p1; omega
         have hBw : B ≤ wr.heap.size := Nat.le_trans hB HTw.out.bel.size
         go_wp2_with (first
          | (go_at_call 125; refine (rown_c B p A (some adK) c p.ops.length i 0 _ HP.out HTw.out.ops HTw.out.kept hBw hi hq0).mono ?_; rintro e w2 ⟨A2, c2, rfl, hown, hg, _⟩; have HO2 := Lib.hid (Rd.of_own (B := w2.heap.size) hown); have HB2 := Lib.hid (show Below wr.heap.size wr w2 from (Below.refl _ _).grown hg (Nat.le_refl _) (fun k hk => by cases hk)); clear hown hg))
         have HT2 := Lib.hid (HTw.out.ext HB2.out)
         have HR2 := Lib.hid (HRw.out.ext HB2.out)
         obtain ⟨l, hl⟩ : ∃ l, l = ownL p.ops p.parts.toNat i 0 := ⟨_, rfl⟩
         rw [← hl] at HO2 ⊢
         have HLl := Lib.hid hl
         have hok : OpsOk p.ops := fun i o h => (HP.out.op i o h).2
         have hlt : ∀ y ∈ l, y.1 < i := fun y hy => (((own_mem hok i 0 y).1 (hl ▸ hy)).lt hok).1
         have hll : l.length ≤ 48 := by
          have hg : Good l := ⟨hl ▸ own_nodup i 0, fun y hy => by
           have h1 := ((own_mem hok i 0 y).1 (hl ▸ hy)).lt hok
           have := HP.out.p4
           exact ⟨by omega, by omega⟩⟩
          exact hg.len
         have HLT := Lib.hid hlt
         clear hl hlt hok k0 z0 z1
         obtain ⟨gi, rfl⟩ : ∃ gi : Nat, gi = gk := ⟨_, rfl⟩
         obtain ⟨wq, rfl⟩ : ∃ wq : World, wq = wr := ⟨_, rfl⟩
         go_loopg [11, 13] l.length (fun gk v11 v13 wr => ∃ j : Nat, j + gk = l.length ∧ v13 = .int .i64 (j : Nat) ∧ v11 = .int .i64 (sumT (rowT p.ops p.parts.toNat prev i) (l.take j) : Nat) ∧ w2 = wr)
         case atStart => exact ⟨0, by omega, rfl, rfl, rfl⟩
         case round =>
          obtain ⟨j, hjk, rfl, rfl, rfl⟩ := hrel
          have hs := sumT_le (rowT p.ops p.parts.toNat prev i) (l.take j)
          by_cases hj : j < l.length
          · have hy : l[j]? = some (l[j]) := List.getElem?_eq_getElem hj
            generalize l[j] = y at hy
            obtain ⟨ad, rfl, d0, d1, d2⟩ := HO2.out.ids (l := l.map pid) (i := j) (y := pid y) (by rw [List.getElem?_map, hy]; rfl) hj
            simp only [pid] at d0 d1 d2
            have hyi := HLT.out y (List.mem_of_getElem? hy)
            have hyn : y.1 < p.ops.length := by omega
            have r0 := HR2.out.cell (rowP_at (ops := p.ops) (parts := p.parts.toNat) (prev := prev) hyi)
            have ht := rowT_le (ops := p.ops) (parts := p.parts.toNat) (prev := prev) i y.1
            have HS := Lib.hid (sumT_snoc (rowT p.ops p.parts.toNat prev i) hy)
            generalize (rowT p.ops p.parts.toNat prev i).getD y.1 0 = t at r0 ht HS
            have hSE := sumT_le (rowT p.ops p.parts.toNat prev i) (l.take (j + 1))
            generalize sumT (rowT p.ops p.parts.toNat prev i) (l.take j) = n at hs HS
            have hrl : (rowP p.ops p.parts.toNat prev i).length = p.ops.length := rowP_len (by omega)
            go_wp2_with fail
            case inl =>
             have e : sumT (rowT p.ops p.parts.toNat prev i) (l.take (j + 1)) = 4097 := by rw [HS.out]; unfold capA; omega
             go_roundg (gk - 1)
             case measure => omega
             case rel => exact ⟨j + 1, by omega, by go_num, by rw [e]; rfl, rfl⟩
            case inr =>
             have e : sumT (rowT p.ops p.parts.toNat prev i) (l.take (j + 1)) = n + t := by rw [HS.out]; unfold capA; omega
             go_roundg (gk - 1)
             case measure => omega
             case rel => exact ⟨j + 1, by omega, by go_num, by rw [e]; go_num, rfl⟩
          · have hjl : j = l.length := by omega
            subst hjl
            rw [List.take_length] at hs
            have hTl : l.take l.length = l := List.take_length
            rw [hTl]
            clear hTl
            have hy : p.ops[i]? = some (p.ops[i]) := List.getElem?_eq_getElem hi
            generalize p.ops[i] = o at hy
            obtain ⟨ado, rfl, d0, d1, d2, d3, d4⟩ := HT2.out.ops.ops hy hi
            have HY := Lib.hid hy
            have hgb : w.heap.size < gn := by omega
            have r0 := HR2.out.cell (i := i) (y := 0) (by unfold rowP; rw [List.getElem?_append_right (by rw [rowT_len]; exact Nat.le_refl _), rowT_len, Nat.sub_self, List.getElem?_replicate, if_pos (by omega)])
            have f0 := HR2.out.free i
            have z1 : w2.cell? ⟨w.heap.size, 1, none⟩ = some (.slice (some ado) p.ops.length c) := (HT2.out.bx.cell 1).trans rfl
            have hzl := HT2.out.bx.lt
            obtain ⟨n, hn⟩ : ∃ n, n = sumT (rowT p.ops p.parts.toNat prev i) l := ⟨_, rfl⟩
            rw [← hn] at hs ⊢
            have HN := Lib.hid hn
            have hrl : (rowP p.ops p.parts.toNat prev i).length = p.ops.length := rowP_len (by omega)
            obtain ⟨M, hM⟩ : ∃ M, M = maxL (rowT p.ops p.parts.toNat prev i) := ⟨_, rfl⟩
            rw [← hM] at ⊢
            have HMx := Lib.hid hM
            clear hn hM hy
            by_cases h8 : 0 < b ∧ o.k = 8
            · have hbp : prev = some (rowT p.ops p.parts.toNat (batT p.ops p.parts.toNat (b - 1)) p.ops.length) := by
                rw [hprev.out]
                obtain ⟨b', rfl⟩ : ∃ b', b = b' + 1 := ⟨b - 1, by omega⟩
                rfl
              obtain ⟨pr, hpr⟩ : ∃ pr, pr = rowT p.ops p.parts.toNat (batT p.ops p.parts.toNat (b - 1)) p.ops.length := ⟨_, rfl⟩
              have hprl : pr.length = p.ops.length := by rw [hpr, rowT_len]
              have ht : pr.getD i 0 ≤ 4097 := by rw [hpr]; exact rowT_le _ _
              rw [← hpr] at hbp
              clear hpr
              obtain ⟨adp, hadp, hrp⟩ : ∃ adp, pv = .slice (some adp) pr.length pr.length ∧ IRow w2 adp g pr := by
               have h := HT2.out.prv
               rw [hbp] at h
               exact h
              rw [hprl] at hadp
              have p0 := hrp.cell (i := i) (y := pr.getD i 0) (by rw [List.getD_eq_getElem?_getD, List.getElem?_eq_getElem (by omega)]; rfl)
              obtain ⟨m, hm⟩ : ∃ m, m = capA n (pr.getD i 0) := ⟨_, rfl⟩
              have HM := Lib.hid (show m = nextT p.ops p.parts.toNat prev i from (by
               rw [nextT_is HK.out, ← HLl.out, ← HN.out, hm, hbp]
               simp only
               rw [if_pos]
               rw [HY.out]
               simp [h8.2]))
              generalize pr.getD i 0 = t at hm p0 ht
              have hb1 : (1 : Int) < ((b : Nat) : Int) + 1 := by omega
              have h8' := h8.2
              have e8 : (o.k == 8) = true := by simp [h8']
              rw [h8'] at d0
              have HP2 := Lib.hid hbp
              have HRP := Lib.hid hrp
              subst hadp
              clear hbp hrp h8 h8' e8
              unfold capA at hm
              by_cases h4 : 4097 < n + t
              · have hme : m = 4097 := by omega
                have h4' : (4097 : Int) < ((n : Nat) : Int) + ((t : Nat) : Int) := by omega
                subst hme
                clear hm
                go_wp2_with fail
                case inl =>
                 have e : maxL (rowT p.ops p.parts.toNat prev (i + 1)) = 4097 := by rw [rowT_succ, maxL_snoc, ← HM.out, ← HMx.out]; omega
                 go_roundg (gi - 1)
                 case measure => omega
                 case rel => exact ⟨i + 1, by omega, by go_num, by rw [e]; rfl, by rw [← rowP_set hi, ← HM.out]; exact HR2.out.set_ i (4097), HT2.out.set_ hB HR2.out hgb (Nat.ne_of_lt hgl) i _⟩
                case inr =>
                 have e : maxL (rowT p.ops p.parts.toNat prev (i + 1)) = M := by rw [rowT_succ, maxL_snoc, ← HM.out, ← HMx.out]; omega
                 go_roundg (gi - 1)
                 case measure => omega
                 case rel => exact ⟨i + 1, by omega, by go_num, by rw [e], by rw [← rowP_set hi, ← HM.out]; exact HR2.out.set_ i (4097), HT2.out.set_ hB HR2.out hgb (Nat.ne_of_lt hgl) i _⟩
              · have hme : m = n + t := by omega
                have h4' : ¬ (4097 : Int) < ((n : Nat) : Int) + ((t : Nat) : Int) := by omega
                subst hme
                clear hm
                go_wp2_with fail
                case inl =>
                 have e : maxL (rowT p.ops p.parts.toNat prev (i + 1)) = n + t := by rw [rowT_succ, maxL_snoc, ← HM.out, ← HMx.out]; omega
                 go_roundg (gi - 1)
                 case measure => omega
                 case rel => exact ⟨i + 1, by omega, by go_num, by rw [e]; go_num, by rw [← rowP_set hi, ← HM.out]; exact HR2.out.set_ i (n + t), HT2.out.set_ hB HR2.out hgb (Nat.ne_of_lt hgl) i _⟩
                case inr =>
                 have e : maxL (rowT p.ops p.parts.toNat prev (i + 1)) = M := by rw [rowT_succ, maxL_snoc, ← HM.out, ← HMx.out]; omega
                 go_roundg (gi - 1)
                 case measure => omega
                 case rel => exact ⟨i + 1, by omega, by go_num, by rw [e], by rw [← rowP_set hi, ← HM.out]; exact HR2.out.set_ i (n + t), HT2.out.set_ hB HR2.out hgb (Nat.ne_of_lt hgl) i _⟩
            · obtain ⟨m, hm⟩ : ∃ m, m = n := ⟨_, rfl⟩
              have HM := Lib.hid (show m = nextT p.ops p.parts.toNat prev i from (by
               rw [nextT_is HK.out, ← HLl.out, ← HN.out, hm]
               cases prev with
               | none => rfl
               | some pr =>
                 simp only
                 rw [if_neg]
                 intro h
                 rw [HY.out] at h
                 simp only [Option.map_some, Option.getD_some, decide_eq_true_eq] at h
                 refine h8 ⟨?_, h⟩
                 have := hprev.out
                 cases b with
                 | zero => cases this
                 | succ b => omega))
              rw [← hm] at hs ⊢
              clear hm
              by_cases hb0 : 0 < b
              · have h8' : o.k ≠ 8 := fun e => h8 ⟨hb0, e⟩
                have e8 : (o.k == 8) = false := by simp [h8']
                have hb1 : (1 : Int) < ((b : Nat) : Int) + 1 := by omega
                go_wp2_with fail
                case inl =>
                 have e : maxL (rowT p.ops p.parts.toNat prev (i + 1)) = m := by rw [rowT_succ, maxL_snoc, ← HM.out, ← HMx.out]; omega
                 go_roundg (gi - 1)
                 case measure => omega
                 case rel => exact ⟨i + 1, by omega, by go_num, by rw [e], by rw [← rowP_set hi, ← HM.out]; exact HR2.out.set_ i m, HT2.out.set_ hB HR2.out hgb (Nat.ne_of_lt hgl) i _⟩
                case inr =>
                 have e : maxL (rowT p.ops p.parts.toNat prev (i + 1)) = M := by rw [rowT_succ, maxL_snoc, ← HM.out, ← HMx.out]; omega
                 go_roundg (gi - 1)
                 case measure => omega
                 case rel => exact ⟨i + 1, by omega, by go_num, by rw [e], by rw [← rowP_set hi, ← HM.out]; exact HR2.out.set_ i m, HT2.out.set_ hB HR2.out hgb (Nat.ne_of_lt hgl) i _⟩
              · have hb1 : ¬ (1 : Int) < ((b : Nat) : Int) + 1 := by omega
                go_wp2_with fail
                case inl =>
                 have e : maxL (rowT p.ops p.parts.toNat prev (i + 1)) = m := by rw [rowT_succ, maxL_snoc, ← HM.out, ← HMx.out]; omega
                 go_roundg (gi - 1)
                 case measure => omega
                 case rel => exact ⟨i + 1, by omega, by go_num, by rw [e], by rw [← rowP_set hi, ← HM.out]; exact HR2.out.set_ i m, HT2.out.set_ hB HR2.out hgb (Nat.ne_of_lt hgl) i _⟩
                case inr =>
                 have e : maxL (rowT p.ops p.parts.toNat prev (i + 1)) = M := by rw [rowT_succ, maxL_snoc, ← HM.out, ← HMx.out]; omega
                 go_roundg (gi - 1)
                 case measure => omega
                 case rel => exact ⟨i + 1, by omega, by go_num, by rw [e], by rw [← rowP_set hi, ← HM.out]; exact HR2.out.set_ i m, HT2.out.set_ hB HR2.out hgb (Nat.ne_of_lt hgl) i _⟩
     · have hin : i = p.ops.length := by omega
       subst hin
       go_wp2_with fail
       have hRf := HRw.out
       rw [rowP_full] at hRf
       go_roundg (go - 1)
       case measure => omega
       case rel => exact ⟨b + 1, gn, some (rowT p.ops p.parts.toNat prev p.ops.length), .slice (some adn) p.ops.length p.ops.length, rfl, by omega, by go_num, rfl, Lib.hid (by rw [hprev.out]; rfl), ⟨⟨adn, by rw [rowT_len], hRf⟩, HTw.out.bx, HTw.out.ops, HTw.out.kept, HTw.out.bel, HRw.out.lt⟩⟩
  · have hbN : b = N := by omega
    subst hbN
    go_wp2_with fail
    go_ret
    refine ⟨?_, HTw.out.bel⟩
    rw [hprev.out]
    rfl
end Go.Proofs.YtapjhliglmohgaaGreatDoor
/- plan's Check by the document's text. -/
namespace Go.Proofs.YtapjhliglmohgaaGreatDoor
open Go.RowKit Go.Sort
theorem opsErr_ne : ∀ (l : List OpD) (i : Nat) (x : Nat × Int), opsErr i l = some x → x.2 = 50 ∨ x.2 = 51
 | [], _, _, h => by cases h
 | o :: l, i, x, h => by
   unfold opsErr at h
   split at h
   · cases h; exact .inl rfl
   · split at h
     · exact opsErr_ne l (i + 1) x h
     · cases h; exact .inr rfl
theorem shapeD_ne {p : PlanD} {x : Nat × Int} (h : shapeD p = some x) : x.2 = 1 ∨ x.2 = 2 ∨ x.2 = 50 ∨ x.2 = 51 := by
 unfold shapeD at h
 split at h
 · cases h; exact .inr (.inl rfl)
 · split at h
   · cases h; exact .inl rfl
   · exact .inr (.inr (opsErr_ne _ _ _ h))
set_option maxRecDepth 100000 in
set_option maxHeartbeats 4000000 in
theorem rcheck_c (B : Nat) (p : PlanD) (A : Option Addr) (c : Nat) (w : World) (h : Rd w B 48 5 A p.ops.length (opsC p.ops)) (hB : B ≤ w.heap.size) : Calls Tryz.prog 25 #[planV p A c] w (PairPost w (checkD p)) := by
 have HO := Lib.hid h
 clear h
 cases hs : shapeD p with
 | some x =>
   obtain ⟨at_, e⟩ := x
   have HC := Lib.hid (show checkD p = some (at_, e) from (by unfold checkD; rw [hs]))
   have he : e ≠ 0 := by
    have := shapeD_ne hs
    simp only at this
    omega
   have he' : (e == 0) = false := by simp [he]
   have HS := Lib.hid hs
   clear hs
   go_enter Tryz.func25, Tryz.ntmps25
   go_wp2_with (first
    | (go_at_call 65; refine (rshape_c B p A c _ (HO.out.alloc _)).mono ?_; rw [HS.out]; rintro e w1 ⟨rfl, hb⟩; have HB := Lib.hid hb; clear hb; simp only [pairV]))
   go_ret2
   rw [HC.out]
   exact ⟨rfl, ext_trans (ext_alloc (Below.refl _ _) _) HB.out⟩
 | none =>
   have HS := Lib.hid hs
   have HP := Lib.hid (shaped_of hs)
   have HC := Lib.hid (show checkD p = (if 4096 < treeD p.ops p.parts.toNat 16 then some (p.ops.length, 2) else none) from (by unfold checkD; rw [hs]))
   clear hs
   obtain ⟨t, ht⟩ : ∃ t, t = treeD p.ops p.parts.toNat 16 := ⟨_, rfl⟩
   rw [← ht] at HC
   have HT := Lib.hid ht
   clear ht
   by_cases h4 : 4096 < t
   · have h4' : (4096 : Int) < (t : Nat) := by omega
     go_enter Tryz.func25, Tryz.ntmps25
     go_wp2_with (first
      | (go_at_call 65; refine (rshape_c B p A c _ (HO.out.alloc _)).mono ?_; rw [HS.out]; rintro e w1 ⟨rfl, hb⟩; have HB := Lib.hid hb; have HZ := Lib.hid ((Bk.new w 24 #[.int .i64 p.parts, .slice A p.ops.length c]).ext hb); have z0 : w1.cell? ⟨w.heap.size, 0, none⟩ = some (.int .i64 p.parts) := (HZ.out.cell 0).trans rfl; have z1 : w1.cell? ⟨w.heap.size, 1, none⟩ = some (.slice A p.ops.length c) := (HZ.out.cell 1).trans rfl; have hzl := HZ.out.lt; clear hb; simp only [pairV])
      | (go_at_call 66; refine (rtree_c p HP.out B A c 16 (by omega) _ ((HO.out.alloc _).ext HB.out) (by have := HB.out.size; simp only [World.size_alloc] at this; omega)).mono ?_; rw [← HT.out]; rintro e w2 ⟨rfl, hb⟩; have HB2 := Lib.hid hb; have HZ2 := Lib.hid (HZ.out.ext hb); have y1 : w2.cell? ⟨w.heap.size, 1, none⟩ = some (.slice A p.ops.length c) := (HZ2.out.cell 1).trans rfl; have hzl2 := HZ2.out.lt; clear hb))
     go_ret2
     rw [HC.out, if_pos h4]
     exact ⟨rfl, ext_trans (ext_trans (ext_alloc (Below.refl _ _) _) HB.out) HB2.out⟩
   · have h4' : ¬ (4096 : Int) < (t : Nat) := by omega
     go_enter Tryz.func25, Tryz.ntmps25
     go_wp2_with (first
      | (go_at_call 65; refine (rshape_c B p A c _ (HO.out.alloc _)).mono ?_; rw [HS.out]; rintro e w1 ⟨rfl, hb⟩; have HB := Lib.hid hb; have HZ := Lib.hid ((Bk.new w 24 #[.int .i64 p.parts, .slice A p.ops.length c]).ext hb); have z0 : w1.cell? ⟨w.heap.size, 0, none⟩ = some (.int .i64 p.parts) := (HZ.out.cell 0).trans rfl; have z1 : w1.cell? ⟨w.heap.size, 1, none⟩ = some (.slice A p.ops.length c) := (HZ.out.cell 1).trans rfl; have hzl := HZ.out.lt; clear hb; simp only [pairV])
      | (go_at_call 66; refine (rtree_c p HP.out B A c 16 (by omega) _ ((HO.out.alloc _).ext HB.out) (by have := HB.out.size; simp only [World.size_alloc] at this; omega)).mono ?_; rw [← HT.out]; rintro e w2 ⟨rfl, hb⟩; have HB2 := Lib.hid hb; have HZ2 := Lib.hid (HZ.out.ext hb); have y1 : w2.cell? ⟨w.heap.size, 1, none⟩ = some (.slice A p.ops.length c) := (HZ2.out.cell 1).trans rfl; have hzl2 := HZ2.out.lt; clear hb))
     go_ret2
     rw [HC.out, if_neg h4]
     exact ⟨rfl, ext_trans (ext_trans (ext_alloc (Below.refl _ _) _) HB.out) HB2.out⟩
end Go.Proofs.YtapjhliglmohgaaGreatDoor
/- plan's Right by the document's text. -/
namespace Go.Proofs.YtapjhliglmohgaaGreatDoor
open Go.RowKit Go.Sort
theorem checkD_ne {p : PlanD} {x : Nat × Int} (h : checkD p = some x) : x.2 = 1 ∨ x.2 = 2 ∨ x.2 = 50 ∨ x.2 = 51 := by
 unfold checkD at h
 split at h
 · next e he => cases h; exact shapeD_ne he
 · split at h
   · cases h; exact .inr (.inl rfl)
   · cases h
set_option maxHeartbeats 1000000 in
theorem rRight_c (B : Nat) (p : PlanD) (A : Option Addr) (c : Nat) (w : World) (h : Rd w B 48 5 A p.ops.length (opsC p.ops)) (hB : B ≤ w.heap.size) : Calls Tryz.prog 10 #[planV p A c] w (BoolPost w (checkD p).isNone) := by
 have HO := Lib.hid h
 clear h
 cases hs : checkD p with
 | some x =>
   obtain ⟨at_, e⟩ := x
   have he : e ≠ 0 := by
    have := checkD_ne hs
    simp only at this
    omega
   have he' : (e == 0) = false := by simp [he]
   have HS := Lib.hid hs
   clear hs
   go_enter Tryz.func10, Tryz.ntmps10
   go_wp2_with (first
    | (go_at_call 25; refine (rcheck_c B p A c _ (HO.out.alloc _) (Nat.le_trans hB (by simp))).mono ?_; rw [HS.out]; rintro e w1 ⟨rfl, hb⟩; have HB := Lib.hid hb; clear hb; simp only [pairV]))
   go_ret
   exact ⟨rfl, ext_trans (ext_alloc (Below.refl _ _) _) HB.out⟩
 | none =>
   have HS := Lib.hid hs
   clear hs
   go_enter Tryz.func10, Tryz.ntmps10
   go_wp2_with (first
    | (go_at_call 25; refine (rcheck_c B p A c _ (HO.out.alloc _) (Nat.le_trans hB (by simp))).mono ?_; rw [HS.out]; rintro e w1 ⟨rfl, hb⟩; have HB := Lib.hid hb; clear hb; simp only [pairV]))
   go_ret
   exact ⟨rfl, ext_trans (ext_alloc (Below.refl _ _) _) HB.out⟩
end Go.Proofs.YtapjhliglmohgaaGreatDoor
/- slices.Index and slices.Contains of ids. -/
namespace Go.Proofs.YtapjhliglmohgaaGreatDoor
open Go.RowKit Go.Sort
attribute [local go_sem high] id_eqI
set_option maxRecDepth 100000 in
set_option maxHeartbeats 2000000 in
theorem index_c (B : Nat) (l : List Id3) (A : Option Addr) (c : Nat) (x : Id3) (w : World) (h : Rd w B 35 3 A l.length (idsC l)) (hl : l.length ≤ 1000000) :
 Calls Tryz.prog 121 #[.slice A l.length c, idV x] w (fun e w' => (∃ n : Int, e = .returned (.int .i64 n) ∧ ((0 ≤ n) ↔ x ∈ l)) ∧ Below w.heap.size w w') := by
 have HL := Lib.hid h
 clear h
 go_enter Tryz.func121, Tryz.ntmps121
 go_wp2_with fail
 go_loopg [8] l.length (fun gk v8 wr => ∃ i : Nat, i + gk = l.length ∧ v8 = .int .i64 (i : Nat) ∧ Hid (x ∉ l.take i) ∧ Bk wr w.heap.size 35 #[.int .i64 x.b, .int .i64 x.s, .int .i64 x.p] ∧ Below w.heap.size w wr)
 case atStart => exact ⟨0, by simp, rfl, Lib.hid (by simp), Bk.new _ _ _, ext_alloc (Below.refl _ _) _⟩
 case round =>
  obtain ⟨i, hik, rfl, hnot, hx, hb⟩ := hrel
  have HX := Lib.hid hx
  have HB := Lib.hid hb
  have x0 : wr.cell? ⟨w.heap.size, 0, none⟩ = some (.int .i64 x.b) := (hx.cell 0).trans rfl
  have x1 : wr.cell? ⟨w.heap.size, 1, none⟩ = some (.int .i64 x.s) := (hx.cell 1).trans rfl
  have x2 : wr.cell? ⟨w.heap.size, 2, none⟩ = some (.int .i64 x.p) := (hx.cell 2).trans rfl
  have hsz := hx.lt
  clear hx hb
  by_cases hi : i < l.length
  · have hy : l[i]? = some (l[i]) := List.getElem?_eq_getElem hi
    generalize l[i] = y at hy
    obtain ⟨ad, rfl, d0, d1, d2⟩ := (HL.out.ext HB.out).ids hy hi
    have HY := Lib.hid hy
    clear hy
    by_cases hyx : x = y
    · have HE := Lib.hid (show x ∈ l from (hyx ▸ List.mem_of_getElem? HY.out))
      have hT : decide (x.b = y.b ∧ x.s = y.s ∧ x.p = y.p) = true := by rw [hyx]; simp
      have hT2 : x.b = y.b ∧ x.s = y.s ∧ x.p = y.p := by rw [hyx]; simp
      clear hyx
      go_wp2_with fail
      go_quiet (fail)
      go_wp2_with fail
      go_ret
      exact ⟨⟨_, rfl, by simp [HE.out]⟩, below_drewN HB.out _⟩
    · have HE := Lib.hid hyx
      have hT2 : ¬ (x.b = y.b ∧ x.s = y.s ∧ x.p = y.p) := fun h => hyx (by cases x; cases y; simp only at h; obtain ⟨rfl, rfl, rfl⟩ := h; rfl)
      have hT : decide (x.b = y.b ∧ x.s = y.s ∧ x.p = y.p) = false := decide_eq_false hT2
      clear hyx
      go_wp2_with fail
      go_quiet (fail)
      go_wp2_with fail
      go_roundg (gk - 1)
      case measure => omega
      case rel => exact ⟨i + 1, by omega, by go_num, Lib.hid (by rw [take_succ_of HY.out, List.mem_append, not_or]; exact ⟨hnot.out, by simpa using HE.out⟩), HX.out.drewN _, below_drewN HB.out _⟩
  · have hil : i = l.length := by omega
    subst hil
    have hn := hnot.out
    rw [List.take_length] at hn
    have HN := Lib.hid hn
    clear hn
    go_wp2_with fail
    go_ret
    exact ⟨⟨_, rfl, by simp [HN.out]⟩, HB.out⟩
set_option maxHeartbeats 2000000 in
theorem contains_c (B : Nat) (l : List Id3) (A : Option Addr) (c : Nat) (x : Id3) (w : World) (h : Rd w B 35 3 A l.length (idsC l)) (hl : l.length ≤ 1000000) :
 Calls Tryz.prog 64 #[.slice A l.length c, idV x] w (BoolPost w (decide (x ∈ l))) := by
 have HL := Lib.hid h
 clear h
 by_cases hx : x ∈ l
 · have HX := Lib.hid hx
   clear hx
   go_enter Tryz.func64, Tryz.ntmps64
   go_wp2_with (first
    | (go_at_call 121; refine (index_c B l A c x _ (HL.out.alloc _) hl).mono ?_; rintro e w1 ⟨⟨n, rfl, hn⟩, hb⟩; have HB := Lib.hid hb; have hn0 := hn.2 HX.out; have hn1 : decide (0 ≤ n) = true := decide_eq_true hn0; clear hb hn))
   go_ret
   exact ⟨by rw [decide_eq_true HX.out]; rfl, ext_trans (ext_alloc (Below.refl _ _) _) HB.out⟩
 · have HX := Lib.hid hx
   clear hx
   go_enter Tryz.func64, Tryz.ntmps64
   go_wp2_with (first
    | (go_at_call 121; refine (index_c B l A c x _ (HL.out.alloc _) hl).mono ?_; rintro e w1 ⟨⟨n, rfl, hn⟩, hb⟩; have HB := Lib.hid hb; have hn0 : ¬ 0 ≤ n := fun h => HX.out (hn.1 h); have hn1 : decide (0 ≤ n) = false := decide_eq_false hn0; clear hb hn))
   go_ret
   exact ⟨by rw [decide_eq_false HX.out]; rfl, ext_trans (ext_alloc (Below.refl _ _) _) HB.out⟩
end Go.Proofs.YtapjhliglmohgaaGreatDoor
/- A way down under way, in the program: what is kept. -/
namespace Go.Proofs.YtapjhliglmohgaaGreatDoor
open Go.RowKit Go.Sort
/-- Every old block but kb is kept that lies below base, or is no cells of ids. -/
structure WKeep (base kb : Nat) (w w' : World) : Prop where
 os : w'.os = w.os
 tape : w'.tape = w.tape
 output : w'.output = w.output
 size : w.heap.size ≤ w'.heap.size
 block : ∀ k o, w.heap[k]? = some o → k ≠ kb → (k < base ∨ ∀ c f, o ≠ .cells c 35 f) → w'.heap[k]? = some o
section
variable {base kb : Nat} {w w' w'' : World}
theorem WKeep.refl : WKeep base kb w w := ⟨rfl, rfl, rfl, Nat.le_refl _, fun _ _ h _ _ => h⟩
theorem WKeep.trans (h : WKeep base kb w w') (k : WKeep base kb w' w'') : WKeep base kb w w'' :=
 ⟨k.os.trans h.os, k.tape.trans h.tape, k.output.trans h.output, Nat.le_trans h.size k.size, fun i o ho hn hc => k.block i o (h.block i o ho hn hc) hn hc⟩
theorem WKeep.of_below (h : Below w.heap.size w w') : WKeep base kb w w' :=
 ⟨h.os, h.tape, h.output, h.size, fun _ _ ho _ _ => (h.block _ (lt_of_some ho)).trans ho⟩
theorem WKeep.of_grown {z m : Nat} {ys : List Value} {v : Value} (hown : w.ownsRow base 35 z v m ys) (hg : w.grownBy w' v.ownBlock) : WKeep base kb w w' :=
 ⟨hg.os, hg.tape, hg.output, hg.size, fun k o ho _ hc => keepBut_own hown (Nat.le_refl _) hg k o ho hc⟩
theorem WKeep.bk {g : Nat} {t : TypeId} {cs : Array Value} (h : WKeep base kb w w') (hb : Bk w g t cs) (hn : g ≠ kb) (hc : g < base ∨ t ≠ 35) : Bk w' g t cs :=
 h.block g _ hb hn (hc.imp id fun hne _ _ he => by injection he with _ he; exact hne he)
end
end Go.Proofs.YtapjhliglmohgaaGreatDoor
/- The way down, in the program: what come and down are told. -/
namespace Go.Proofs.YtapjhliglmohgaaGreatDoor
open Go.RowKit Go.Sort
/-- What is asked ahead of a call: the ways, the walk, what it has come to. -/
structure WPre (B base kb wb : Nat) (p : PlanD) (A K : Option Addr) (c kc : Nat) (m : Value) (w : World) (v : Value) (out : List Pt) : Prop where
 ways : Bk w wb 174 #[.slice K p.ops.length kc, .int .i64 p.parts, .slice A p.ops.length c, m]
 walk : Bk w kb 238 #[.pointer (some ⟨wb, 0, none⟩), v]
 ops : Rd w B 48 5 A p.ops.length (opsC p.ops)
 kept : Rd w B 4 1 K p.ops.length (boolsC (keptL p.ops))
 own : w.ownsRow base 35 3 v out.length (ptsC out)
 good : Good out
 bB : B ≤ kb
 kb : kb < base
 wb : wb < base
 bs : base ≤ w.heap.size
def WPost (base kb wb : Nat) (w : World) (r : List Pt) (e : Ending) (w' : World) : Prop :=
 ∃ A c, e = .returned (.tuple #[]) ∧ w'.ownsRow base 35 3 (.slice A r.length c) r.length (ptsC r) ∧ Bk w' kb 238 #[.pointer (some ⟨wb, 0, none⟩), .slice A r.length c] ∧ WKeep base kb w w'
theorem WKeep.rd {base kb B n size : Nat} {w w' : World} {e : TypeId} {A : Option Addr} {xs : List Value} {cs : Array Value} (h : WKeep base kb w w') (hr : Rd w B e size A n xs) (hw : Bk w kb 238 cs) (hB : B ≤ kb) (hk : kb < base) (h1 : e ≠ 35) (h2 : e ≠ 238) : Rd w' B e size A n xs :=
 hr.keep fun k o ho hc => by
  rcases hc with h3 | ⟨c, f, rfl⟩
  · exact h.block k o ho (by omega) (.inl (by omega))
  · refine h.block k _ ho (fun e => ?_) (.inr fun _ _ he => ?_)
    · subst e
      unfold Bk at hw
      rw [hw] at ho
      cases ho
      exact h2 rfl
    · injection he with _ he
      exact h1 he
section
variable {B base kb wb : Nat} {p : PlanD} {A K : Option Addr} {c kc : Nat} {m : Value} {w w' : World} {v v' : Value} {out out' : List Pt}
theorem WPre.ext (h : WPre B base kb wb p A K c kc m w v out) (hb : Below w.heap.size w w') : WPre B base kb wb p A K c kc m w' v out :=
 ⟨h.ways.ext hb, h.walk.ext hb, h.ops.ext hb, h.kept.ext hb, own_ext h.own hb, h.good, h.bB, h.kb, h.wb, Nat.le_trans h.bs hb.size⟩
theorem WPre.next (h : WPre B base kb wb p A K c kc m w v out) (hk : WKeep base kb w w') (hw : Bk w' kb 238 #[.pointer (some ⟨wb, 0, none⟩), v']) (ho : w'.ownsRow base 35 3 v' out'.length (ptsC out')) (hg : Good out') : WPre B base kb wb p A K c kc m w' v' out' :=
 ⟨hk.bk h.ways (h.ways.ne_ h.walk (by decide)) (.inl h.wb), hw, hk.rd h.ops h.walk h.bB h.kb (by decide) (by decide), hk.rd h.kept h.walk h.bB h.kb (by decide) (by decide), ho, hg, h.bB, h.kb, h.wb, Nat.le_trans h.bs hk.size⟩
end
end Go.Proofs.YtapjhliglmohgaaGreatDoor
