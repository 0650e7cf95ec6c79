/- Drop, Clear, Max. -/
import Derived.Test.YtgigdhfdpabmoaaDoorMemD
import Derived.RegionTactic
namespace Go.Proofs.YtgigdhfdpabmoaaDoor
open Go.RowKit
attribute [local go_sem high] id_eqI

def dropPs (ps : List Pc) (x : Id3) : List Pc := ps.filter fun p => decide (p.id ≠ x)
theorem mdel_ps (ps : List Pc) (x : Id3) : mdel (ps.map fun p => (pcK p, pcV p)) x = (dropPs ps x).map fun p => (pcK p, pcV p) := by
  unfold mdel dropPs
  rw [List.filter_map]
  rfl

/-- A held piece stays what it is where only maps have turned. -/
theorem PcAt.grownMap {B : Nat} {w w' : World} {p : Pc} {b : Nat} {es : Array MapEntry} {clock : Nat} (h : PcAt B w p) (hb : w.heap[b]? = some (.map es clock)) (hB : B ≤ b) (hg : w.grownBy w' (some b)) : PcAt B w' p := by
  have hne : some p.hb ≠ some b := by
    intro e
    injection e with e
    have := h.blk
    unfold Bk at this
    rw [e, hb] at this
    cases this
  refine ⟨h.base, h.blk.grown hg hne, h.cap, h.rows.keep fun k o hk hc => (hg.block k (lt_of_some hk) ?_).trans hk⟩
  intro e
  injection e with e
  subst e
  rcases hc with hc | ⟨c, f, hc⟩
  · omega
  · rw [hb] at hk; cases hk; cases hc

section
variable (B : Nat) (w : World) (mb pb : Nat) (A : Option Addr) (cap : Nat) (max : Int) (ages : List Id3) (ps : List Pc) (x : Id3)

theorem MemAt.turnMap {B : Nat} {w w' : World} {mb pb : Nat} {A : Option Addr} {cap : Nat} {max : Int} {ages : List Id3} {ps ps' : List Pc} (h : MemAt B w mb pb A cap max ages ps)
    (hm : MapIs idV w' pb (ps'.map fun p => (pcK p, pcV p))) (hg : w.grownBy w' (some pb)) (hp : ∀ p ∈ ps', PcAt B w' p) (hn : (ps'.map (·.hb)).Nodup) : MemAt B w' mb pb A cap max ages ps' := by
  obtain ⟨es, clock, hb⟩ := h.map.obj
  have hne : some mb ≠ some pb := by
    intro e
    injection e with e
    have := h.blk
    unfold Bk at this
    rw [e, hb] at this
    cases this
  refine ⟨h.bm, h.bp, h.blk.grown hg hne, h.cap, h.ages.keep fun k o hk hc => (hg.block k (lt_of_some hk) ?_).trans hk, hm, hp, hn⟩
  intro e
  injection e with e
  subst e
  have hB := h.bp
  rcases hc with hc | ⟨c, f, hc⟩
  · omega
  · rw [hb] at hk; cases hk; cases hc

theorem MemAt.dropped {B : Nat} {w w' : World} {mb pb : Nat} {A : Option Addr} {cap : Nat} {max : Int} {ages : List Id3} {ps : List Pc} {x : Id3} (h : MemAt B w mb pb A cap max ages ps)
    (hm : MapIs idV w' pb (mdel (ps.map fun p => (pcK p, pcV p)) x)) (hg : w.grownBy w' (some pb)) : MemAt B w' mb pb A cap max ages (dropPs ps x) := by
  obtain ⟨es, clock, hb⟩ := h.map.obj
  refine h.turnMap (by rw [← mdel_ps]; exact hm) hg (fun p hp => (h.pcs p (List.mem_filter.1 hp).1).grownMap hb h.bp hg) ?_
  exact List.Nodup.sublist (List.Sublist.map _ List.filter_sublist) h.nd

theorem Chg.map {mu : Obj → Bool} {B : Nat} {a w w' : World} {b : Nat} (h : Chg mu B a w) (hg : w.grownBy w' (some b)) (hB : B ≤ b) (hm : ∀ o, w.heap[b]? = some o → mu o = true) : Chg mu B a w' :=
  h.grown hg fun k hk => by cases hk; exact ⟨hB, hm⟩

set_option maxHeartbeats 1000000 in
theorem drop_miss (h : MemAt B w mb pb A cap max ages ps) (hp : pget ps x = none) :
    Calls Tryd.prog 29 #[.pointer (some ⟨mb, 0, none⟩), idV x] w (MissPost w (.bool false)) := by
  have hlt := h.blk.lt
  have hk : (pget ps x).isSome = false := by rw [hp]; rfl
  go_enter Tryd.func29, Tryd.ntmps29
  go_wp2_with (first
    | (go_at_call 11; refine (has_c B _ mb pb A cap max ages ps x (h.alloc _)).mono ?_; rw [hk]; rintro e w1 ⟨rfl, hb⟩))
  go_ret
  exact ⟨rfl, ext_trans (ext_alloc (Below.refl _ _) _) hb⟩

set_option maxHeartbeats 2000000 in
theorem drop_hit (h : MemAt B w mb pb A cap max ages ps) (hs : ages.length ≤ 1000000) (p : Pc) (hp : pget ps x = some p) :
    Calls Tryd.prog 29 #[.pointer (some ⟨mb, 0, none⟩), idV x] w (MPost B w mb pb max (wo ages x) (dropPs ps x) (.bool true)) := by
  have hlt := h.blk.lt
  have hk : (pget ps x).isSome = true := by rw [hp]; rfl
  have HK := Lib.hid hk
  have HM := Lib.hid h
  clear h hk hp
  go_enter Tryd.func29, Tryd.ntmps29
  go_wp2_with (first
    | (go_at_call 11; refine (has_c B _ mb pb A cap max ages ps x (HM.out.alloc _)).mono ?_; rw [HK.out]; rintro e w1 ⟨rfl, hb⟩; have hM1 := (HM.out.alloc (.cells #[.int .i64 x.b, .int .i64 x.s, .int .i64 x.p] 24)).ext hb; have hx1 := (Bk.new w 24 #[.int .i64 x.b, .int .i64 x.s, .int .i64 x.p]).ext hb; have HB1 := Lib.hid hb; clear hb))
  have m1 := hM1.c1
  have q0 : w1.cell? ⟨w.heap.size, 0, none⟩ = some (.int .i64 x.b) := by rw [hx1.cell]; rfl
  have q1 : w1.cell? ⟨w.heap.size, 1, none⟩ = some (.int .i64 x.s) := by rw [hx1.cell]; rfl
  have q2 : w1.cell? ⟨w.heap.size, 2, none⟩ = some (.int .i64 x.p) := by rw [hx1.cell]; rfl
  obtain ⟨w2, hrun, hm2, hg2, hs2⟩ := hM1.drew.map.drop idKey Tryd.underlying62 0 x
  simp only [idV] at hrun
  go_region
  have hD := hM1.drew.dropped hm2 hg2
  have hx2 : Bk w2 w.heap.size 24 #[.int .i64 x.b, .int .i64 x.s, .int .i64 x.p] := hx1.drew.grown hg2 (fun e => by
    injection e with e
    obtain ⟨es, cl, ho⟩ := hM1.map.obj
    unfold Bk at hx1
    rw [e, ho] at hx1
    cases hx1)
  have r0 : w2.cell? ⟨w.heap.size, 0, none⟩ = some (.int .i64 x.b) := by rw [hx2.cell]; rfl
  have r1 : w2.cell? ⟨w.heap.size, 1, none⟩ = some (.int .i64 x.s) := by rw [hx2.cell]; rfl
  have r2 : w2.cell? ⟨w.heap.size, 2, none⟩ = some (.int .i64 x.p) := by rw [hx2.cell]; rfl
  have HD := Lib.hid hD
  have HG := Lib.hid hg2
  have HO := Lib.hid hM1.map.obj
  have HP := Lib.hid hM1.bp
  clear q0 q1 q2 m1 hrun hm2 hg2 hs2 hM1 hx1 hx2 hD
  go_wp2_with (first
    | (go_at_call 48; refine (without_c B _ mb pb A cap max ages (dropPs ps x) x HD.out hs).mono ?_; rintro e w3 ⟨A3, c3, rfl, hown, hc3, hb3⟩; have hM3 := HD.out.ext hb3; have s2 := hM3.c2; have f2 := hM3.blk.frozen 2))
  go_ret
  have hC1 : Chg muM B w w1 := Chg.of_below (ext_trans (ext_alloc (Below.refl _ _) _) HB1.out)
  have hC2 : Chg muM B w w2 := hC1.drew.map HG.out HP.out (fun o ho => by
    obtain ⟨es, cl, ho'⟩ := HO.out
    have : w1.heap[pb]? = some o := ho
    rw [ho'] at this
    cases this
    rfl)
  exact ⟨rfl, ⟨_, _, hM3.setAges hc3 (Rd.of_own hown)⟩, (hC2.trans (Chg.of_below hb3)).set_ (p := ⟨mb, 2, none⟩) hM3.blk rfl hM3.bm _⟩

set_option maxHeartbeats 1000000 in
theorem clear_c (h : MemAt B w mb pb A cap max ages ps) :
    Calls Tryd.prog 31 #[.pointer (some ⟨mb, 0, none⟩)] w (MPost B w mb pb max [] [] (.tuple #[])) := by
  have hlt := h.blk.lt
  have h1 := h.c1
  obtain ⟨w2, hrun, hm2, hg2, hs2⟩ := h.map.clear Tryd.underlying62 0
  have hD := h.turnMap (ps' := []) hm2 hg2 (by simp) (by simp)
  have s2 := hD.c2
  have f2 := hD.blk.frozen 2
  have HD := Lib.hid hD
  have HG := Lib.hid hg2
  have HO := Lib.hid h.map.obj
  have HP := Lib.hid h.bp
  clear h hm2 hg2 hs2 hD
  go_enter Tryd.func31, Tryd.ntmps31
  go_wp2
  go_end0
  have hC2 : Chg muM B w w2 := (Chg.refl _ _ _).map HG.out HP.out (fun o ho => by
    obtain ⟨es, cl, ho'⟩ := HO.out
    rw [ho'] at ho
    cases ho
    rfl)
  have hS := HD.out.setAges (l := []) (A2 := none) (c2 := 0) (Nat.le_refl 0) Rd.none_
  exact ⟨rfl, ⟨_, _, hS⟩, hC2.set_ (p := ⟨mb, 2, none⟩) HD.out.blk rfl HD.out.bm _⟩

set_option maxHeartbeats 400000 in
theorem max_c (h : MemAt B w mb pb A cap max ages ps) :
    Calls Tryd.prog 33 #[.pointer (some ⟨mb, 0, none⟩)] w (MissPost w (.int .i64 max)) := by
  have h0 := h.c0
  clear h
  go_enter Tryd.func33, Tryd.ntmps33
  go_wp2
  go_ret
  exact ⟨rfl, Below.refl _ _⟩
end
end Go.Proofs.YtgigdhfdpabmoaaDoor
