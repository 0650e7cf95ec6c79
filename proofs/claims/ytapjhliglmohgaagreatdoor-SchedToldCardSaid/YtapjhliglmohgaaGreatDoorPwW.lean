/- GoneW, Lit, SchT, SchU, ActS, ToldP, SameH, LoadA: laid together. -/
import Derived.Test.YtapjhliglmohgaaGreatDoorPwO
import Derived.Test.YtapjhliglmohgaaGreatDoorPwF
import Derived.Test.YtapjhliglmohgaaGreatDoorPwV
import Derived.Test.YtapjhliglmohgaaGreatDoorPwK
import Derived.Test.YtapjhliglmohgaaGreatDoorPwN
import Derived.Test.YtapjhliglmohgaaGreatDoorPwU
import Derived.Test.YtapjhliglmohgaaGreatDoorPwB
import Derived.Deep.WholeRow
/- Who holds what: Gone of the program. -/
namespace Go.Proofs.YtapjhliglmohgaaGreatDoor
open Go.RowKit Go.Sort
theorem hdC_at {l : List Hd} {i : Nat} {y : Hd} (hy : l[i]? = some y) {j : Nat} (hj : j < 4) : (l.flatMap hdC)[i * 4 + j]? = (hdC y)[j]? := flat_at hdC 4 (fun _ => rfl) l i y hy j hj
theorem Rd.hds {w : World} {B : Nat} {e : TypeId} {A : Option Addr} {n : Nat} {l : List Hd} (h : Rd w B e 4 A n (l.flatMap hdC)) {i : Nat} {y : Hd} (hy : l[i]? = some y) (hn : i < n) :
 ∃ ad, A = some ad ∧ w.cell? (ad.add (i * 4)) = some (.int .i64 y.id.b) ∧ w.cell? ⟨(ad.add (i * 4)).block, (ad.add (i * 4)).off + 1, none⟩ = some (.int .i64 y.id.s) ∧ w.cell? ⟨(ad.add (i * 4)).block, (ad.add (i * 4)).off + 2, none⟩ = some (.int .i64 y.id.p) ∧ w.cell? ⟨(ad.add (i * 4)).block, (ad.add (i * 4)).off + 3, none⟩ = some (.int .i64 y.w) := by
 obtain ⟨ad, hA, hc⟩ := h.cell (by omega)
 refine ⟨ad, hA, ?_, ?_, ?_, ?_⟩
 · exact hc (i * 4) _ (by have := hdC_at hy (j := 0) (by omega); simpa [hdC] using this)
 · rw [← add_succ ad (i * 4) 0]; exact hc (i * 4 + 1) _ (by rw [hdC_at hy (by omega)]; rfl)
 · rw [← add_succ ad (i * 4) 1]; exact hc (i * 4 + 2) _ (by rw [hdC_at hy (by omega)]; rfl)
 · rw [← add_succ ad (i * 4) 2]; exact hc (i * 4 + 3) _ (by rw [hdC_at hy (by omega)]; rfl)
def goneS (n : Int) (s : SchedD) (h : Hd) : SchedD := if h.w = n then s.lost h.id h.w else s
/-- Somebody holds nothing any more. -/
def SchedD.gone (s : SchedD) (n : Int) : SchedD := (holdsL s).foldl (goneS n) s
def GoInv (B sb : Nat) (R : Nat → Prop) (p : PlanD) (A : Option Addr) (c : Nat) (v : Value) (l : List Hd) (s' : SchedD) (w wr : World) : Prop :=
 ∃ R' : Nat → Prop, SchedIs B sb R' p A c s' wr ∧ Fr R w wr ∧ (∀ k, R' k → R k ∨ w.heap.size ≤ k) ∧ wr.ownsRow w.heap.size 57 4 v l.length (l.flatMap hdC) ∧ ∀ k, v.ownBlock = some k → ¬ R' k
section
variable {B sb : Nat} {R : Nat → Prop} {p : PlanD} {A : Option Addr} {c : Nat} {s : SchedD}
theorem GoInv.ext {v : Value} {l : List Hd} {s' : SchedD} {w wr w2 : World} (h : GoInv B sb R p A c v l s' w wr) (hb : Below wr.heap.size wr w2) : GoInv B sb R p A c v l s' w w2 := by
 obtain ⟨R', h1, h2, h3, h4, h5⟩ := h
 exact ⟨R', h1.ext hb, h2.ext hb, h3, own_ext h4 hb, h5⟩
theorem GoInv.turn {v : Value} {l : List Hd} {s' s'' : SchedD} {w wr w2 : World} {e : Ending} (h : GoInv B sb R p A c v l s' w wr) (ht : ∀ R', SchedIs B sb R' p A c s' wr → STurn B sb R' p A c s'' wr e w2) : e = .returned (.tuple #[]) ∧ GoInv B sb R p A c v l s'' w w2 := by
 obtain ⟨R', h1, h2, h3, h4, h5⟩ := h
 obtain ⟨he, R2, k1, k2, k3⟩ := ht R' h1
 have hs := h2.size
 exact ⟨he, R2, k1, h2.trans k2 h3, fun k hk => (k3 k hk).elim (h3 k) (fun h => .inr (by omega)), own_fr h4 k2 h5, fun k hk hr => (k3 k hr).elim (h5 k hk) (fun h => by have := (h4.lt k hk).2; omega)⟩
set_option maxRecDepth 100000 in
set_option maxHeartbeats 16000000 in
theorem sgone_c (hsort : SortH) (n : Int) (w : World) (h : SchedIs B sb R p A c s w) (hlen : s.holds.length ≤ 1000000) :
 Calls Tryz.prog 24 #[.pointer (some ⟨sb, 0, none⟩), .int .i64 n] w (STurn B sb R p A c (s.gone n) w) := by
 have HC := Lib.hid (holds_c hsort w h hlen)
 have hll := hsTo_len s.holds (heldL s)
 rw [heldL_len] at hll
 have H := Lib.hid h
 obtain ⟨X, hX⟩ := h
 have HBd := Lib.hid (fun k (hk : R k) => (hX.bd k hk).2)
 obtain ⟨l, hl⟩ : ∃ l, l = holdsL s := ⟨_, rfl⟩
 have HGo := Lib.hid (show s.gone n = l.foldl (goneS n) s from by rw [hl]; rfl)
 rw [show hsTo s.holds (heldL s) = l from hl.symm] at hll
 rw [← hl] at HC
 have hl6 : l.length ≤ 4000000 := by omega
 clear hX hlen hl hll
 go_enter Tryz.func24, Tryz.ntmps24
 go_wp2_with (first
  | (go_at_call 21; refine HC.out.mono ?_; rintro e w1 ⟨A1, c1, rfl, hown, hb⟩
     have HG1 := Lib.hid (show GoInv B sb R p A c (.slice A1 l.length c1) l s w w1 from ⟨R, H.out.ext hb, Fr.of_below hb, fun k hk => .inl hk, hown, fun k hk hr => by have h1 := HBd.out k hr; have h2 := (hown.lt k hk).1; omega⟩)
     clear hown hb))
 go_loopg [5, 9] l.length (fun gk v5 v9 wr => ∃ i : Nat, i + gk = l.length ∧ v9 = .int .i64 (i : Nat) ∧ Hid (GoInv B sb R p A c (.slice A1 l.length c1) l ((l.take i).foldl (goneS n) s) w wr))
 case atStart => exact ⟨0, by omega, rfl, HG1⟩
 case round =>
  obtain ⟨i, hik, rfl, HG⟩ := hrel
  by_cases hi : i < l.length
  · have hy : l[i]? = some (l[i]) := List.getElem?_eq_getElem hi
    generalize l[i] = y at hy
    obtain ⟨R', k1, k2, k3, k4, k5⟩ := HG.out
    obtain ⟨ad, rfl, d0, d1, d2, d3⟩ := (Rd.of_own (B := 0) k4).hds hy hi
    clear k1 k2 k3 k4 k5
    have HTk := Lib.hid (show (l.take (i + 1)).foldl (goneS n) s = goneS n ((l.take i).foldl (goneS n) s) y from by rw [take_succ_of hy, List.foldl_append]; rfl)
    obtain ⟨WY, hWY⟩ : ∃ WY, WY = wr.alloc (.cells #[.int .i64 y.id.b, .int .i64 y.id.s, .int .i64 y.id.p, .int .i64 y.w] 57 (0, 0)) := ⟨_, rfl⟩
    have HBY := Lib.hid (show Below wr.heap.size wr WY from by rw [hWY]; exact ext_alloc (Below.refl _ _) _)
    have HXY := Lib.hid (show Bk WY wr.heap.size 57 #[.int .i64 y.id.b, .int .i64 y.id.s, .int .i64 y.id.p, .int .i64 y.w] from by rw [hWY]; exact Bk.new _ _ _)
    have HWY := Lib.hid hWY
    have HGY := Lib.hid (HG.out.ext HBY.out)
    have x0 : WY.cell? ⟨wr.heap.size, 0, none⟩ = some (.int .i64 y.id.b) := (HXY.out.cell 0).trans rfl
    have x1 : WY.cell? ⟨wr.heap.size, 1, none⟩ = some (.int .i64 y.id.s) := (HXY.out.cell 1).trans rfl
    have x2 : WY.cell? ⟨wr.heap.size, 2, none⟩ = some (.int .i64 y.id.p) := (HXY.out.cell 2).trans rfl
    have x3 : WY.cell? ⟨wr.heap.size, 3, none⟩ = some (.int .i64 y.w) := (HXY.out.cell 3).trans rfl
    have xl := HXY.out.lt
    clear hWY hy
    by_cases hw : y.w = n
    · have HTk2 := Lib.hid (HTk.out.trans (if_pos hw))
      have hwb : (y.w == n) = true := by simp [hw]
      have HLo := Lib.hid (fun (R' : Nat → Prop) (h : SchedIs B sb R' p A c ((l.take i).foldl (goneS n) s) WY) => lost_c y.id y.w WY h)
      clear hw
      go_upto_region 3 with fail
      rw [← HWY.out]
      obtain ⟨R', k1, k2, k3, k4, k5⟩ := HGY.out
      have HL0 := Lib.hid (HLo.out R' k1)
      have HBk := Lib.hid (fun (e : Ending) (w8 : World) (h : STurn B sb R' p A c (SchedD.lost ((l.take i).foldl (goneS n) s) y.id y.w) WY e w8) => (by
       obtain ⟨he, R2, j1, j2, j3⟩ := h
       have hs := k2.size
       exact ⟨he, R2, j1, k2.trans j2 k3, fun k hk => (j3 k hk).elim (k3 k) (fun h => .inr (by omega)), own_fr k4 j2 k5, fun k hk hr => (j3 k hr).elim (k5 k hk) (fun h => by have := (k4.lt k hk).2; omega)⟩ : e = .returned (.tuple #[]) ∧ GoInv B sb R p A c (.slice (some ad) l.length c1) l (SchedD.lost ((l.take i).foldl (goneS n) s) y.id y.w) w w8))
      clear k1 k2 k3 k4 k5
      go_wp2_with (first
       | (go_at_call 22; refine HL0.out.mono ?_; rintro e w8 ht
          obtain ⟨rfl, hg⟩ := HBk.out _ _ ht
          have HG8 := Lib.hid hg
          clear ht hg x0 x1 x2 x3 xl))
      go_roundg (gk - 1)
      case measure => omega
      case rel => exact ⟨i + 1, by omega, by go_num, by rw [HTk2.out]; exact HG8⟩
    · have HTk2 := Lib.hid (HTk.out.trans (if_neg hw))
      have hwb : (y.w == n) = false := by simp [hw]
      clear hw
      go_upto_region 3 with fail
      rw [← HWY.out]
      go_wp2_with fail
      go_roundg (gk - 1)
      case measure => omega
      case rel => exact ⟨i + 1, by omega, by go_num, by rw [HTk2.out]; exact HGY⟩
  · have hil : i = l.length := by omega
    subst hil
    rw [List.take_length] at HG
    go_wp2_with fail
    go_returns
    rw [HGo.out]
    obtain ⟨R', k1, k2, k3, _, _⟩ := HG.out
    exact ⟨rfl, R', k1, k2, k3⟩
end
end Go.Proofs.YtapjhliglmohgaaGreatDoor
/- The little plan of the laws. -/
namespace Go.Proofs.YtapjhliglmohgaaGreatDoor
open Go.RowKit Go.Sort
def littleP : PlanD := ⟨2, [⟨1, 0, 0, 0, 0⟩, ⟨2, 0, 0, 4, 2⟩, ⟨8, 1, 0, 0, 0⟩, ⟨3, 2, 0, 1, 3⟩]⟩
theorem little_c (w : World) : Calls Tryz.prog 57 #[] w (fun e w' => ∃ A, e = .returned (planV littleP A 4) ∧ RdS w' (fun k => w.heap.size ≤ k ∧ k < w'.heap.size) 5 A 4 (opsC littleP.ops) ∧ Below w.heap.size w w') := by
 go_enter Tryz.func57, Tryz.ntmps57
 go_wp2_with fail
 obtain ⟨W, hW⟩ : ∃ W, W = w.alloc (.cells #[.int .i64 2, .slice (some ⟨w.heap.size + 1, 0, none⟩) 4 4] 24 (0, 0)) := ⟨_, rfl⟩
 have hsz : W.heap.size = w.heap.size + 1 := by rw [hW]; simp
 have hb1 : Below w.heap.size w W := by rw [hW]; exact ext_alloc (Below.refl _ _) _
 have hk1 : Bk W w.heap.size 24 #[.int .i64 2, .slice (some ⟨w.heap.size + 1, 0, none⟩) 4 4] := by rw [hW]; exact Bk.new _ _ _
 rw [← hW]
 have hk2 := Bk.new W 48 (opsC littleP.ops).toArray
 have hb2 := ext_alloc (Below.refl W.heap.size W) (.cells (opsC littleP.ops).toArray 48 (0, 0))
 rw [hsz] at hk2
 refine bodyPost_ret (results_cell_row (g := w.heap.size) (t := 24) (cs := #[.int .i64 2, .slice (some ⟨w.heap.size + 1, 0, none⟩) 4 4]) (fr := (0, 0)) rfl _ _ _ rfl (hk1.ext hb2) Tryz.underlying24 rfl (by kernel_rfl)) rfl ?_
 refine ⟨some ⟨w.heap.size + 1, 0, none⟩, rfl, ⟨rfl, fun _ => ⟨_, rfl, ⟨by show w.heap.size ≤ w.heap.size + 1; omega, by show w.heap.size + 1 < _; rw [World.size_alloc, hsz]; omega⟩, by show w.heap.size + 1 < _; rw [World.size_alloc, hsz]; omega, fun j u hu => ?_⟩⟩, ext_trans hb1 hb2⟩
 exact World.news_of_block hk2 j u hu
theorem little_check : checkD littleP = none := by decide
end Go.Proofs.YtapjhliglmohgaaGreatDoor
/- A sched that was made behind a world: what its calls leave; the law's told. -/
namespace Go.Proofs.YtapjhliglmohgaaGreatDoor
open Go.RowKit Go.Sort
/-- A sched, made behind the world w0, and none of the blocks of K. -/
def SIs (B sb : Nat) (p : PlanD) (A : Option Addr) (c : Nat) (s : SchedD) (K : Nat → Prop) (w0 w : World) : Prop :=
 ∃ R : Nat → Prop, SchedIs B sb R p A c s w ∧ (∀ k, R k → w0.heap.size ≤ k) ∧ Below w0.heap.size w0 w ∧ ∀ g, K g → ¬ R g ∧ g < w.heap.size
/-- The blocks of K are as they were. -/
def KeptS (K : Nat → Prop) (w w' : World) : Prop := ∀ g, K g → w'.heap[g]? = w.heap[g]?
theorem KeptS.bk {K : Nat → Prop} {w w' : World} {g : Nat} {t : TypeId} {cs : Array Value} (h : KeptS K w w') (hg : K g) (hb : Bk w g t cs) : Bk w' g t cs := (h g hg).trans hb
theorem KeptS.own {K : Nat → Prop} {w w' : World} {base n z : Nat} {e : TypeId} {v : Value} {xs : List Value} (h : KeptS K w w') (ho : w.ownsRow base e z v n xs) (hk : ∀ k, v.ownBlock = some k → K k) : w'.ownsRow base e z v n xs := by
 rcases ho with ⟨h1, ho⟩
 refine ⟨h1, ?_⟩
 rcases ho with ho | ⟨g, c, cur, hv, hb, hg, hr⟩
 · exact .inl ho
 · exact .inr ⟨g, c, cur, hv, hb, (h g (hk g (by rw [hv]; rfl))).trans hg, hr⟩
theorem KeptS.of_below {K : Nat → Prop} {w w' : World} (hb : Below w.heap.size w w') (hk : ∀ g, K g → g < w.heap.size) : KeptS K w w' := fun g hg => hb.block g (hk g hg)
section
variable {B sb : Nat} {p : PlanD} {A : Option Addr} {c : Nat} {s s' : SchedD} {K : Nat → Prop} {w0 w w' : World}
theorem SIs.ext (h : SIs B sb p A c s K w0 w) (hb : Below w.heap.size w w') : SIs B sb p A c s K w0 w' := by
 obtain ⟨R, h1, h2, h3, h4⟩ := h
 exact ⟨R, h1.ext hb, h2, ext_trans h3 hb, fun g hg => ⟨(h4 g hg).1, Nat.lt_of_lt_of_le (h4 g hg).2 hb.size⟩⟩
theorem SchedIs.lt {R : Nat → Prop} (h : SchedIs B sb R p A c s w) : ∀ k, R k → B ≤ k ∧ k < w.heap.size := by
 obtain ⟨X, h⟩ := h
 exact h.bd
theorem SIs.more {K' : Nat → Prop} (h : SIs B sb p A c s K w0 w) (hb : Below w.heap.size w w') (hk : ∀ g, K' g → (K g ∨ w.heap.size ≤ g) ∧ g < w'.heap.size) : SIs B sb p A c s K' w0 w' := by
 obtain ⟨R, h1, h2, h3, h4⟩ := h
 exact ⟨R, h1.ext hb, h2, ext_trans h3 hb, fun g hg => ⟨fun ha => (hk g hg).1.elim (fun h => (h4 g h).1 ha) (fun h => by have := (h1.lt g ha).2; omega), (hk g hg).2⟩⟩
theorem SIs.alloc (h : SIs B sb p A c s K w0 w) (o : Obj) : SIs B sb p A c s (fun g => K g ∨ g = w.heap.size) w0 (w.alloc o) := by
 have hk : ∀ g, K g → g < w.heap.size := by
  obtain ⟨R, h1, h2, h3, h4⟩ := h
  exact fun g hg => (h4 g hg).2
 refine h.more (ext_alloc (Below.refl _ _) _) (fun g hg => ?_)
 rw [World.size_alloc]
 rcases hg with hg | hg
 · exact ⟨.inl hg, Nat.lt_succ_of_lt (hk g hg)⟩
 · exact ⟨.inr (by omega), by omega⟩
theorem SIs.below (h : SIs B sb p A c s K w0 w) : Below w0.heap.size w0 w := by
 obtain ⟨R, h1, h2, h3, h4⟩ := h
 exact h3
theorem SIs.klt (h : SIs B sb p A c s K w0 w) : ∀ g, K g → g < w.heap.size := by
 obtain ⟨R, h1, h2, h3, h4⟩ := h
 exact fun g hg => (h4 g hg).2
theorem SIs.tv (h : SIs B sb p A c s K w0 w) (ht : TypeVar w0) : TypeVar w := TypeVar.fr (S := No) ht (Fr.of_below h.below) (fun h => h)
def STo (B sb : Nat) (p : PlanD) (A : Option Addr) (c : Nat) (s' : SchedD) (K : Nat → Prop) (w0 w : World) (e : Ending) (w' : World) : Prop := e = .returned (.tuple #[]) ∧ SIs B sb p A c s' K w0 w' ∧ KeptS K w w'
theorem STurn.to {R : Nat → Prop} {e : Ending} (h2 : ∀ k, R k → w0.heap.size ≤ k) (h3 : Below w0.heap.size w0 w) (h4 : ∀ g, K g → ¬ R g ∧ g < w.heap.size) (ht : STurn B sb R p A c s' w e w') : STo B sb p A c s' K w0 w e w' := by
 obtain ⟨he, R', k1, k2, k3⟩ := ht
 have hz := h3.size
 exact ⟨he, ⟨R', k1, fun k hk => (k3 k hk).elim (h2 k) (fun h => by omega), h3.trans (k2.below h2 hz), fun g hg => ⟨fun ha => (k3 g ha).elim (h4 g hg).1 (fun h => by have := (h4 g hg).2; omega), Nat.lt_of_lt_of_le (h4 g hg).2 k2.size⟩⟩, fun g hg => k2.block g (h4 g hg).2 (h4 g hg).1⟩
theorem told_i (x : Id3) (n : Int) (w : World) (h : SIs B sb p A c s K w0 w) : Calls Tryz.prog 11 #[.pointer (some ⟨sb, 0, none⟩), idV x, .int .i64 n] w (STo B sb p A c (s.told p x n) K w0 w) := by
 obtain ⟨R, h1, h2, h3, h4⟩ := h
 exact (told_c x n w h1).mono fun e w' ht => ht.to h2 h3 h4
theorem known_i (n : Int) (w : World) (h : SIs B sb p A c s K w0 w) (hn : n ≤ 9223372036854775807) : Calls Tryz.prog 12 #[.pointer (some ⟨sb, 0, none⟩), .int .i64 n] w (STo B sb p A c ⟨s.every, max s.known n, s.holds, s.saved⟩ K w0 w) := by
 obtain ⟨R, h1, h2, h3, h4⟩ := h
 exact (known_c n w h1 hn).mono fun e w' ht => ht.to h2 h3 h4
theorem jobs_i (hsort : SortH) (batches mark : Int) (w : World) (h : SIs B sb p A c s K w0 w) (hm : mark ≤ 9223372036854775807) (hlen : s.holds.length ≤ 1000000) : Calls Tryz.prog 15 #[.pointer (some ⟨sb, 0, none⟩), .int .i64 batches, .int .i64 mark] w (JsPost w (jobsL p s batches mark)) := by
 obtain ⟨R, h1, h2, h3, h4⟩ := h
 exact jobs_c hsort batches mark w h1 hm hlen
theorem goals_i (batches mark : Int) (w : World) (h : SIs B sb p A c s K w0 w) (hm : mark ≤ 9223372036854775807) : Calls Tryz.prog 14 #[.pointer (some ⟨sb, 0, none⟩), .int .i64 batches, .int .i64 mark] w (JsPost w (goalsL p s batches mark)) := by
 obtain ⟨R, h1, h2, h3, h4⟩ := h
 exact goals_c batches mark w h1 hm
theorem due_i (mark : Int) (w : World) (h : SIs B sb p A c s K w0 w) (hm : mark ≤ 9223372036854775807) : Calls Tryz.prog 17 #[.pointer (some ⟨sb, 0, none⟩), .int .i64 mark] w (fun e w' => e = .returned (.int .i64 (dueI s.every s.known mark : Nat)) ∧ ∃ q, w' = w.drewN q) := by
 obtain ⟨R, h1, h2, h3, h4⟩ := h
 exact dueI_c mark w h1 hm
def OTo (B sb : Nat) (p : PlanD) (A : Option Addr) (c : Nat) (s : SchedD) (K : Nat → Prop) (w0 : World) (j : Jb) (worker : Int) (deep : Bool) (mark : Int) (l : List Hd) (w : World) (e : Ending) (w' : World) : Prop :=
 ∃ (Ah : Option Addr) (ch : Nat), e = .returned (.agg (omC (if j.sv then 6 else 1) worker j.id deep (.slice Ah l.length ch) mark)) ∧ w'.ownsRow w.heap.size 57 4 (.slice Ah l.length ch) l.length (l.flatMap hdC) ∧
  SIs B sb p A c s (fun k => K k ∨ (Value.slice Ah l.length ch).ownBlock = some k) w0 w' ∧ KeptS K w w'
theorem order_i (hsort : SortH) (j : Jb) (worker mark : Int) (deep : Bool) (l : List Hd) (hl : ordL p s mark deep j.id = l) (w : World) (h : SIs B sb p A c s K w0 w) (hlen : s.holds.length ≤ 1000000) (htop : j.id.b ≤ 9223372036854775807) :
 Calls Tryz.prog 58 #[.pointer (some ⟨sb, 0, none⟩), .agg (jbC j).toArray, .int .i64 worker, .bool deep, .int .i64 mark] w (OTo B sb p A c s K w0 j worker deep mark l w) := by
 subst hl
 obtain ⟨R, h1, h2, h3, h4⟩ := h
 refine (order_c hsort j worker mark deep w h1 hlen htop).mono ?_
 rintro e w' ⟨Ah, ch, R', rfl, k1, k2, k3, k4, k5⟩
 have hz := h3.size
 refine ⟨Ah, ch, rfl, k1, ⟨R', k2, fun k hk => (k4 k hk).elim (h2 k) (fun h => by omega), h3.trans (k3.below h2 hz), fun g hg => ?_⟩, fun g hg => k3.block g (h4 g hg).2 (h4 g hg).1⟩
 rcases hg with hg | hg
 · exact ⟨fun ha => (k4 g ha).elim (h4 g hg).1 (fun h => by have := (h4 g hg).2; omega), Nat.lt_of_lt_of_le (h4 g hg).2 k3.size⟩
 · exact ⟨k5 g hg, (k1.lt g hg).2⟩
theorem new_i (every : Int) (w : World) (hb : Below w0.heap.size w0 w) (hr : RdS w (· < B) 5 A p.ops.length (opsC p.ops)) (hB : B ≤ w.heap.size) :
 Calls Tryz.prog 8 #[planV p A c, .int .i64 every] w (fun e w' =>
  (∀ a code, checkD p = some (a, code) → ∃ v at_, e = .returned (.tuple #[.pointer none, v]) ∧ ErrAt w' v at_ code ∧ Below w.heap.size w w') ∧
  (checkD p = none → every < 1 ∨ 8 < every → ∃ v at_, e = .returned (.tuple #[.pointer none, v]) ∧ ErrAt w' v at_ 1 ∧ Below w.heap.size w w') ∧
  (checkD p = none → 1 ≤ every → every ≤ 8 → ∃ sb, e = .returned (.tuple #[.pointer (some ⟨sb, 0, none⟩), .nilIface]) ∧ SIs B sb p A c ⟨every.toNat, 0, [], []⟩ No w0 w' ∧ Below w.heap.size w w')) := by
 have hz := hb.size
 refine (snew_c B p A c every w hr hB).mono ?_
 rintro e w' ⟨h1, h2, h3⟩
 refine ⟨h1, h2, fun hc k1 k8 => ?_⟩
 obtain ⟨sb, R, e1, e2, e3, e4⟩ := h3 hc k1 k8
 exact ⟨sb, e1, ⟨R, e2, fun k hk => by have := e4 k hk; omega, ext_trans hb e3, fun g hg => hg.elim⟩, e3⟩
end
theorem JsPost.n {l l' : List Jb} {n : Nat} {w w' : World} {e : Ending} (h : JsPost w l e w') (hl : l = l') (hn : l'.length = n) : ∃ A c, e = .returned (.slice A n c) ∧ w'.ownsRow w.heap.size 46 4 (.slice A n c) n (l'.flatMap jbC) ∧ Below w.heap.size w w' := by
 subst hl hn
 exact h
theorem OTo.n {B sb : Nat} {p : PlanD} {A : Option Addr} {c : Nat} {s : SchedD} {K : Nat → Prop} {w0 w w' : World} {j : Jb} {worker : Int} {deep : Bool} {mark : Int} {l : List Hd} {e : Ending} {n : Nat} (h : OTo B sb p A c s K w0 j worker deep mark l w e w') (hn : l.length = n) :
 ∃ (Ah : Option Addr) (ch : Nat), e = .returned (.agg (omC (if j.sv then 6 else 1) worker j.id deep (.slice Ah n ch) mark)) ∧ w'.ownsRow w.heap.size 57 4 (.slice Ah n ch) n (l.flatMap hdC) ∧ SIs B sb p A c s (fun k => K k ∨ (Value.slice Ah n ch).ownBlock = some k) w0 w' ∧ KeptS K w w' := by
 subst hn
 exact h
/-- The slice's array begins a block. -/
theorem own_addr {w : World} {base z n c : Nat} {e : TypeId} {A : Option Addr} {xs : List Value} (h : w.ownsRow base e z (.slice A n c) n xs) (hn : 0 < n) : ∃ g, A = some ⟨g, 0, none⟩ ∧ (Value.slice A n c).ownBlock = some g := by
 rcases h with ⟨h1, h | ⟨g, c', cur, hv, hb, hg, hr⟩⟩
 · obtain ⟨h2, h3⟩ := h
   cases h2
   omega
 · cases hv
   exact ⟨g, rfl, rfl⟩
end Go.Proofs.YtapjhliglmohgaaGreatDoor
/- The law's own functions: code, told. -/
namespace Go.Proofs.YtapjhliglmohgaaGreatDoor
open Go.RowKit Go.Sort
theorem s16code_c (n : Nat) (T : TypeId) (y : Value) (c : Int) (w : World) (h : ErrN w n (.iface T y) c) (hg : TypeVar w) : Calls Tryz.prog 26 #[.iface T y] w (IntPost w c) := by
 have HE := Lib.hid (Code_c n _ c w h hg)
 clear h hg
 go_enter Tryz.func26, Tryz.ntmps26
 go_wp2_with (first | (go_at_call 67; refine HE.out.mono ?_; rintro e w1 ⟨rfl, hb⟩; have HB := Lib.hid hb; clear hb))
 go_ret
 exact ⟨rfl, HB.out⟩
def tS0 : SchedD := ⟨2, 0, [], []⟩
def tS1 : SchedD := tS0.told littleP ⟨1, 1, 0⟩ 1
def tS2 : SchedD := tS1.told littleP ⟨1, 1, 1⟩ 2
def tS3 : SchedD := ⟨tS2.every, max tS2.known 2, tS2.holds, tS2.saved⟩
def tJa : List Jb := [⟨⟨1, 3, 0⟩, false⟩, ⟨⟨1, 3, 1⟩, false⟩, ⟨⟨1, 1, 0⟩, false⟩, ⟨⟨1, 1, 1⟩, false⟩]
def tJb : List Jb := [⟨⟨1, 3, 0⟩, false⟩, ⟨⟨1, 3, 1⟩, false⟩, ⟨⟨1, 2, 0⟩, false⟩, ⟨⟨1, 2, 1⟩, false⟩]
def tHs : List Hd := [⟨⟨1, 1, 0⟩, 1⟩, ⟨⟨1, 1, 1⟩, 2⟩]
theorem tJa_eq : jobsL littleP tS0 1 0 = tJa := by decide
theorem tJb_eq : jobsL littleP tS2 1 0 = tJb := by decide
theorem tHs_eq : ordL littleP tS2 0 false ⟨1, 2, 0⟩ = tHs := by decide
theorem tGs_len : (goalsL littleP tS3 3 0).length = 4 := by decide
theorem tDue : dueI tS3.every tS3.known 0 = 2 := by decide
/-- A row of four cells each, whose array begins a block. -/
theorem own_cells {w : World} {base n c z g : Nat} {e : TypeId} {xs : List Value} (h : w.ownsRow base e z (.slice (some ⟨g, 0, none⟩) n c) n xs) (hn : 0 < n) (j : Nat) (u : Value) (hu : xs[j]? = some u) : w.cell? ⟨g, j, none⟩ = some u := by
 obtain ⟨ad, hA, hc⟩ := (Rd.of_own (B := 0) h).cell hn
 cases hA
 have h := hc j u hu
 rw [show (⟨g, 0, none⟩ : Addr).add j = ⟨g, j, none⟩ from by unfold Addr.add; split <;> simp_all] at h
 exact h
set_option maxRecDepth 100000 in
set_option maxHeartbeats 16000000 in
theorem told16_c (hsort : SortH) (w : World) (htv : TypeVar w) : Calls Tryz.prog 9 #[] w (BoolPost w true) := by
 have HTv := Lib.hid htv
 have HSo := Lib.hid hsort
 have HCk := Lib.hid little_check
 have hla : tJa.length = 4 := rfl
 have hlb : tJb.length = 4 := rfl
 have hlh : tHs.length = 2 := rfl
 have HLA := Lib.hid hla
 have HLB := Lib.hid hlb
 have HLH := Lib.hid hlh
 clear htv hsort hla hlb hlh
 go_enter Tryz.func9, Tryz.ntmps9
 go_wp2_with (first
  | (go_at_call 14; refine (goals_i 3 0 _ HD.out (by omega)).mono ?_; rintro e w14 hp; obtain ⟨A14, c14, rfl, _, hb⟩ := hp.n rfl tGs_len; clear hp; have HB14 := Lib.hid (ext_trans HD.out.below hb); clear hb)
  | (go_at_call 17; refine (due_i 0 _ HK.out (by omega)).mono ?_; rw [tDue]; rintro e w13 ⟨rfl, q13, hq⟩; have HD := Lib.hid (show SIs _ _ _ _ _ _ _ _ w13 from hq ▸ HK.out.ext (below_drewN (Below.refl _ _) _)); clear hq)
  | (go_at_call 12; refine (known_i 2 _ HM.out (by omega)).mono ?_; rintro e w12 ⟨rfl, h, hk⟩
     have HK := Lib.hid (show SIs _ _ _ _ _ tS3 _ _ w12 from h)
     have a12 := hk.own (own_ext HA11.out HBm.out) (fun k h => .inl (.inl (.inl (HoA.out k h))))
     have b12 := hk.own (own_ext HB11.out HBm.out) (fun k h => .inl (.inl (.inr (HoB.out k h))))
     have h12 := hk.own (own_ext HH11.out HBm.out) (fun k h => .inl (.inr h))
     have m12 := hk.bk (.inr rfl) HMb.out
     have a0 := own_cells a12 (by omega) 8 _ rfl
     have a1 := own_cells a12 (by omega) 9 _ rfl
     have a2 := own_cells a12 (by omega) 10 _ rfl
     have b0 := own_cells b12 (by omega) 8 _ rfl
     have b1 := own_cells b12 (by omega) 9 _ rfl
     have b2 := own_cells b12 (by omega) 10 _ rfl
     have h7 := own_cells h12 (by omega) 7 _ rfl
     have m6 : w12.cell? ⟨w11.heap.size, 6, none⟩ = some (.slice (some ⟨gh, 0, none⟩) 2 ch) := (m12.cell 6).trans rfl
     have ml := m12.lt
     clear h hk a12 b12 h12 m12)
  | (refine wpList_store_row rfl 86 (.tmp 7) (.tmp 42) rfl w11.heap.size (omC 1 3 ⟨1, 2, 0⟩ false (.slice (some ⟨gh, 0, none⟩) 2 ch) 0) (by rfl) (by rfl) 86 _ (Bk.newAt (by simp)) (by kernel_rfl) rfl (by kernel_rfl) ?_; rw [World.setRow_alloc_new]; simp only [Act.put]
     have HMb := Lib.hid (Bk.new w11 86 (omC 1 3 ⟨1, 2, 0⟩ false (.slice (some ⟨gh, 0, none⟩) 2 ch) 0))
     have HBm := Lib.hid (ext_alloc (Below.refl w11.heap.size w11) (.cells (omC 1 3 ⟨1, 2, 0⟩ false (.slice (some ⟨gh, 0, none⟩) 2 ch) 0) 86 (0, 0)))
     have HM := Lib.hid (H11.out.alloc (.cells (omC 1 3 ⟨1, 2, 0⟩ false (.slice (some ⟨gh, 0, none⟩) 2 ch) 0) 86 (0, 0))))
  | (go_at_call 58; refine (order_i HSo.out ⟨⟨1, 2, 0⟩, false⟩ 3 0 false tHs tHs_eq _ H10.out (by decide) (by decide)).mono ?_
     rintro e w11 hp
     obtain ⟨Ah, ch, rfl, hown, h, hk⟩ := hp.n HLH.out
     obtain ⟨gh, rfl, _⟩ := own_addr hown (by omega)
     have H11 := Lib.hid h
     have HH11 := Lib.hid hown
     have HA11 := Lib.hid (hk.own HA10.out (fun k h => .inl (HoA.out k h)))
     have HB11 := Lib.hid (hk.own HB10.out (fun k h => .inr (HoB.out k h)))
     clear hp hown h hk)
  | (go_at_call 15; refine (jobs_i HSo.out 1 0 _ H9.out (by omega) (by decide)).mono ?_
     rintro e w10 hp
     obtain ⟨Ab, cb, rfl, hown, hb⟩ := hp.n tJb_eq HLB.out
     obtain ⟨gb, rfl, hgb⟩ := own_addr hown (by omega)
     have hlt := hown.lt gb hgb
     have HoB := Lib.hid (show ∀ k, (Value.slice (some ⟨gb, 0, none⟩) 4 cb).ownBlock = some k → k = gb from fun k hk => by cases hk; rfl)
     have H10 := Lib.hid (H9.out.more (K' := fun g => g = ga ∨ g = gb) hb (fun g hg => by
      rcases hg with hg | hg
      · exact ⟨.inl hg, Nat.lt_of_lt_of_le (H9.out.klt g hg) hb.size⟩
      · exact ⟨.inr (hg ▸ hlt.1), hg ▸ hlt.2⟩))
     have HA10 := Lib.hid (own_ext HA9.out hb)
     have HB10 := Lib.hid hown
     clear hp hown hb hgb hlt)
  | (go_at_call 11; refine (told_i ⟨1, 1, 1⟩ 2 _ H8.out).mono ?_; rintro e w9 ⟨rfl, h, hk⟩
     have H9 := Lib.hid (show SIs _ _ _ _ _ tS2 _ _ w9 from h)
     have HA9 := Lib.hid (hk.own HA8.out (fun k h => HoA.out k h))
     clear h hk)
  | (go_at_call 11; refine (told_i ⟨1, 1, 0⟩ 1 _ H7.out).mono ?_; rintro e w8 ⟨rfl, h, hk⟩
     have H8 := Lib.hid (show SIs _ _ _ _ _ tS1 _ _ w8 from h)
     have HA8 := Lib.hid (hk.own HA7.out (fun k h => HoA.out k h))
     clear h hk)
  | (go_at_call 15; refine (jobs_i HSo.out 1 0 _ H6.out (by omega) (by decide)).mono ?_
     rintro e w7 hp
     obtain ⟨Aa, ca, rfl, hown, hb⟩ := hp.n tJa_eq HLA.out
     obtain ⟨ga, rfl, hga⟩ := own_addr hown (by omega)
     have hlt := hown.lt ga hga
     have HoA := Lib.hid (show ∀ k, (Value.slice (some ⟨ga, 0, none⟩) 4 ca).ownBlock = some k → k = ga from fun k hk => by cases hk; rfl)
     have H7 := Lib.hid (H6.out.more (K' := fun g => g = ga) hb (fun g hg => ⟨.inr (hg ▸ hlt.1), hg ▸ hlt.2⟩))
     have HA7 := Lib.hid hown
     clear hp hown hb hga hlt)
  | (go_at_call 26; refine (s16code_c n5 _ _ 1 _ E5.out (H5.out.tv HT1.out)).mono ?_; rintro e w6 ⟨rfl, hb⟩; have H6 := Lib.hid (H5.out.ext hb); clear hb)
  | (go_at_call 8; refine (new_i (w0 := w4) (B := w4.heap.size) 9 _ (Below.refl _ _) (RdS.mono HR4.out (fun k hk => hk.2)) (Nat.le_refl _)).mono ?_; rintro e w5 ⟨_, k2, _⟩
     obtain ⟨v5, at5, rfl, hE, hb⟩ := k2 HCk.out (.inr (by omega))
     obtain ⟨n5, hn5⟩ := hE.errN; obtain ⟨T5, y5, rfl⟩ := hn5.iface
     have H5 := Lib.hid (H4.out.ext hb)
     have E5 := Lib.hid hn5
     clear k2 hE hb hn5)
  | (go_at_call 57; refine (little_c _).mono ?_; rintro e w4 ⟨A4, rfl, hr, hb⟩; have HR4 := Lib.hid hr; have H4 := Lib.hid (H3.out.ext hb); clear hr hb)
  | (go_at_call 8; refine (new_i (w0 := w1) (B := w1.heap.size) 2 _ (Below.refl _ _) (RdS.mono HR1.out (fun k hk => hk.2)) (Nat.le_refl _)).mono ?_; rintro e w3 ⟨_, _, k3⟩
     obtain ⟨sb, rfl, h, hb⟩ := k3 HCk.out (by omega) (by omega)
     have H3 := Lib.hid (show SIs _ _ _ _ _ tS0 _ _ w3 from h)
     clear k3 h hb)
  | (go_at_call 57; refine (little_c _).mono ?_; rintro e w1 ⟨A1, rfl, hr, hb⟩; have HR1 := Lib.hid hr; have HB1 := Lib.hid hb
     have HT1 := Lib.hid (TypeVar.fr (S := No) HTv.out (Fr.of_below hb) (fun h => h)); clear hr hb))
 go_ret
 exact ⟨rfl, ext_trans HB1.out HB14.out⟩
end Go.Proofs.YtapjhliglmohgaaGreatDoor
/- An act of the sched's laws, in cells; two scheds side by side. -/
namespace Go.Proofs.YtapjhliglmohgaaGreatDoor
open Go.RowKit Go.Sort
structure ActS where
 kind : Int
 n : Int
 mark : Int
 id : Id3
 deep : Bool
def actS (a : ActS) : List Value := [.int .i64 a.kind, .int .i64 a.n, .int .i64 a.mark, .int .i64 a.id.b, .int .i64 a.id.s, .int .i64 a.id.p, .bool a.deep]
structure ActSOk (a : ActS) : Prop where
 n : I64 a.n
 mark : I64 a.mark
 b : I64 a.id.b
theorem Rd.actsS {w : World} {B : Nat} {e : TypeId} {A : Option Addr} {n : Nat} {l : List ActS} (h : Rd w B e 7 A n (l.flatMap actS)) {i : Nat} {y : ActS} (hy : l[i]? = some y) (hn : i < n) :
 ∃ ad, A = some ad ∧ ∀ (j : Nat) u, (#[.int .i64 y.kind, .int .i64 y.n, .int .i64 y.mark, .int .i64 y.id.b, .int .i64 y.id.s, .int .i64 y.id.p, .bool y.deep] : Array Value)[j]? = some u → w.cell? ((ad.add (i * 7)).add j) = some u := by
 obtain ⟨ad, hA, hc⟩ := h.cell (by omega)
 refine ⟨ad, hA, fun j u hu => ?_⟩
 have hj : j < 7 := by
  obtain ⟨h1, _⟩ := Array.getElem?_eq_some_iff.1 hu
  exact h1
 rw [show (ad.add (i * 7)).add j = ad.add (i * 7 + j) from by rw [Addr.add_add]]
 refine hc _ _ ?_
 rw [flat_at actS 7 (fun _ => rfl) l i y hy j hj]
 rw [← hu, ← Array.getElem?_toList]
 rfl
/-- Two scheds of one plan, made behind the world w0, and none of the blocks of K. -/
def SPair (B a b : Nat) (p : PlanD) (A : Option Addr) (c : Nat) (s t : SchedD) (K : Nat → Prop) (w0 w : World) : Prop :=
 ∃ R Q : Nat → Prop, SchedIs B a R p A c s w ∧ SchedIs B b Q p A c t w ∧ (∀ k, R k → w0.heap.size ≤ k ∧ ¬ Q k) ∧ (∀ k, Q k → w0.heap.size ≤ k) ∧ Below w0.heap.size w0 w ∧ ∀ g, K g → ¬ R g ∧ ¬ Q g ∧ g < w.heap.size
section
variable {B a b : Nat} {p : PlanD} {A : Option Addr} {c : Nat} {s s' t : SchedD} {K : Nat → Prop} {w0 w w' : World}
theorem SPair.swap (h : SPair B a b p A c s t K w0 w) : SPair B b a p A c t s K w0 w := by
 obtain ⟨R, Q, h1, h2, h3, h4, h5, h6⟩ := h
 exact ⟨Q, R, h2, h1, fun k hk => ⟨h4 k hk, fun hr => (h3 k hr).2 hk⟩, fun k hk => (h3 k hk).1, h5, fun g hg => ⟨(h6 g hg).2.1, (h6 g hg).1, (h6 g hg).2.2⟩⟩
theorem SPair.ext (h : SPair B a b p A c s t K w0 w) (hb : Below w.heap.size w w') : SPair B a b p A c s t K w0 w' := by
 obtain ⟨R, Q, h1, h2, h3, h4, h5, h6⟩ := h
 exact ⟨R, Q, h1.ext hb, h2.ext hb, h3, h4, ext_trans h5 hb, fun g hg => ⟨(h6 g hg).1, (h6 g hg).2.1, Nat.lt_of_lt_of_le (h6 g hg).2.2 hb.size⟩⟩
theorem SPair.more {K' : Nat → Prop} (h : SPair B a b p A c s t K w0 w) (hb : Below w.heap.size w w') (hk : ∀ g, K' g → (K g ∨ w.heap.size ≤ g) ∧ g < w'.heap.size) : SPair B a b p A c s t K' w0 w' := by
 obtain ⟨R, Q, h1, h2, h3, h4, h5, h6⟩ := h
 exact ⟨R, Q, h1.ext hb, h2.ext hb, h3, h4, ext_trans h5 hb, fun g hg => ⟨fun ha => (hk g hg).1.elim (fun h => (h6 g h).1 ha) (fun h => by have := (h1.lt g ha).2; omega), fun ha => (hk g hg).1.elim (fun h => (h6 g h).2.1 ha) (fun h => by have := (h2.lt g ha).2; omega), (hk g hg).2⟩⟩
theorem SPair.below (h : SPair B a b p A c s t K w0 w) : Below w0.heap.size w0 w := by
 obtain ⟨R, Q, h1, h2, h3, h4, h5, h6⟩ := h
 exact h5
theorem SPair.klt (h : SPair B a b p A c s t K w0 w) : ∀ g, K g → g < w.heap.size := by
 obtain ⟨R, Q, h1, h2, h3, h4, h5, h6⟩ := h
 exact fun g hg => (h6 g hg).2.2
theorem SPair.tv (h : SPair B a b p A c s t K w0 w) (ht : TypeVar w0) : TypeVar w := TypeVar.fr (S := No) ht (Fr.of_below h.below) (fun h => h)
theorem SPair.new {w3 w4 : World} (h1 : SIs B a p A c s No w0 w3) (h2 : SIs B b p A c t No w3 w4) : SPair B a b p A c s t No w0 w4 := by
 obtain ⟨R, k1, k2, k3, k4⟩ := h1
 obtain ⟨Q, j1, j2, j3, j4⟩ := h2
 have hz := k3.size
 exact ⟨R, Q, k1.ext j3, j1, fun k hk => ⟨k2 k hk, fun hq => by have h1 := (k1.lt k hk).2; have h2 := j2 k hq; omega⟩, fun k hk => by have h2 := j2 k hk; omega, ext_trans k3 j3, fun g hg => hg.elim⟩
def PTo (B a b : Nat) (p : PlanD) (A : Option Addr) (c : Nat) (s' t : SchedD) (K : Nat → Prop) (w0 w : World) (e : Ending) (w' : World) : Prop := e = .returned (.tuple #[]) ∧ SPair B a b p A c s' t K w0 w' ∧ KeptS K w w'
theorem STurn.pto {R Q : Nat → Prop} {e : Ending} (k1 : SchedIs B a R p A c s w) (k2 : SchedIs B b Q p A c t w) (h3 : ∀ k, R k → w0.heap.size ≤ k ∧ ¬ Q k) (h4 : ∀ k, Q k → w0.heap.size ≤ k) (h5 : Below w0.heap.size w0 w) (h6 : ∀ g, K g → ¬ R g ∧ ¬ Q g ∧ g < w.heap.size) (ht : STurn B a R p A c s' w e w') : PTo B a b p A c s' t K w0 w e w' := by
 obtain ⟨he, R', j1, j2, j3⟩ := ht
 have hz := h5.size
 refine ⟨he, ⟨R', Q, j1, k2.fr j2 (fun k hk hr => (h3 k hr).2 hk) (fun k hk hr => by have := (k1.lt k hr).1; omega), fun k hk => ?_, h4, h5.trans (j2.below (fun k hk => (h3 k hk).1) hz), fun g hg => ⟨fun ha => ?_, (h6 g hg).2.1, Nat.lt_of_lt_of_le (h6 g hg).2.2 j2.size⟩⟩, fun g hg => j2.block g (h6 g hg).2.2 (h6 g hg).1⟩
 · rcases j3 k hk with h | h
   · exact h3 k h
   · exact ⟨by omega, fun hq => by have := (k2.lt k hq).2; omega⟩
 · rcases j3 g ha with h | h
   · exact (h6 g hg).1 h
   · have := (h6 g hg).2.2; omega
theorem PTo.swap {e : Ending} (h : PTo B a b p A c s' t K w0 w e w') : e = .returned (.tuple #[]) ∧ SPair B b a p A c t s' K w0 w' ∧ KeptS K w w' := ⟨h.1, h.2.1.swap, h.2.2⟩
theorem told_p (x : Id3) (n : Int) (w : World) (h : SPair B a b p A c s t K w0 w) : Calls Tryz.prog 11 #[.pointer (some ⟨a, 0, none⟩), idV x, .int .i64 n] w (PTo B a b p A c (s.told p x n) t K w0 w) := by
 obtain ⟨R, Q, h1, h2, h3, h4, h5, h6⟩ := h
 exact (told_c x n w h1).mono fun e w' ht => ht.pto h1 h2 h3 h4 h5 h6
theorem lost_p (x : Id3) (n : Int) (w : World) (h : SPair B a b p A c s t K w0 w) : Calls Tryz.prog 22 #[.pointer (some ⟨a, 0, none⟩), .agg #[.int .i64 x.b, .int .i64 x.s, .int .i64 x.p, .int .i64 n]] w (PTo B a b p A c (s.lost x n) t K w0 w) := by
 obtain ⟨R, Q, h1, h2, h3, h4, h5, h6⟩ := h
 exact (lost_c x n w h1).mono fun e w' ht => ht.pto h1 h2 h3 h4 h5 h6
theorem gone_p (hsort : SortH) (n : Int) (w : World) (h : SPair B a b p A c s t K w0 w) (hlen : s.holds.length ≤ 1000000) : Calls Tryz.prog 24 #[.pointer (some ⟨a, 0, none⟩), .int .i64 n] w (PTo B a b p A c (s.gone n) t K w0 w) := by
 obtain ⟨R, Q, h1, h2, h3, h4, h5, h6⟩ := h
 exact (sgone_c hsort n w h1 hlen).mono fun e w' ht => ht.pto h1 h2 h3 h4 h5 h6
theorem holds_p (hsort : SortH) (w : World) (h : SPair B a b p A c s t K w0 w) (hlen : s.holds.length ≤ 1000000) : Calls Tryz.prog 21 #[.pointer (some ⟨a, 0, none⟩)] w (HsPost w (holdsL s)) := by
 obtain ⟨R, Q, h1, h2, h3, h4, h5, h6⟩ := h
 exact holds_c hsort w h1 hlen
end
theorem HsPost.n {l l' : List Hd} {n : Nat} {w w' : World} {e : Ending} (h : HsPost w l e w') (hl : l = l') (hn : l'.length = n) : ∃ A c, e = .returned (.slice A n c) ∧ w'.ownsRow w.heap.size 57 4 (.slice A n c) n (l'.flatMap hdC) ∧ Below w.heap.size w w' := by
 subst hl hn
 exact h
end Go.Proofs.YtapjhliglmohgaaGreatDoor
/- Who holds what, told and lost: the plain law of tributarylaw16.SchedTold. -/
namespace Go.Proofs.YtapjhliglmohgaaGreatDoor
open Go.RowKit Go.Sort
def keysOf (l : List (Id3 × List Int)) : List Id3 := l.map (·.1)
theorem find_upd (f : List Int → List Int) (x y : Id3) : ∀ l : List (Id3 × List Int), holdOf (holdUpd f x l) y = if y = x ∧ y ∈ keysOf l then f (holdOf l y) else holdOf l y
 | [] => by simp [holdOf, holdUpd, keysOf]
 | z :: l => by
   have ih := find_upd f x y l
   unfold holdOf holdUpd at ih ⊢
   unfold keysOf at ih ⊢
   simp only [List.map_cons, List.find?_cons]
   by_cases hz : z.1 = y
   · simp only [hz, decide_true, Option.map_some, Option.getD_some, List.mem_cons, true_or, and_true]
   · simp only [hz, decide_false]
     rw [ih]
     have hz' : ¬ y = z.1 := fun e => hz e.symm
     simp only [List.mem_cons, hz', false_or]
theorem holdOf_none {l : List (Id3 × List Int)} {y : Id3} (h : y ∉ keysOf l) : holdOf l y = [] := by
 unfold holdOf
 rw [List.find?_eq_none.2 (fun z hz => by
  intro e
  exact h (by rw [← of_decide_eq_true e]; exact List.mem_map_of_mem hz))]
 rfl
theorem holdOf_add (l : List (Id3 × List Int)) (x y : Id3) : holdOf (holdAdd l x) y = holdOf l y := by
 unfold holdAdd
 split
 · rfl
 · next h =>
   unfold holdOf
   rw [List.find?_append]
   cases hf : l.find? (fun z => decide (z.1 = y)) with
   | some z => rfl
   | none =>
     by_cases hx : x = y
     · simp [hx]
     · simp [hx]
theorem keys_add (l : List (Id3 × List Int)) (x : Id3) : keysOf (holdAdd l x) = if x ∈ keysOf l then keysOf l else keysOf l ++ [x] := by
 unfold holdAdd keysOf
 split
 · rfl
 · rw [List.map_append]; rfl
theorem keys_upd (f : List Int → List Int) (x : Id3) (l : List (Id3 × List Int)) : keysOf (holdUpd f x l) = keysOf l := by
 unfold holdUpd keysOf
 rw [List.map_map]
 rfl
theorem keys_put (l : List (Id3 × List Int)) (x : Id3) (n : Int) : keysOf (holdPut l x n) = if x ∈ keysOf l then keysOf l else keysOf l ++ [x] := by
 unfold holdPut
 rw [keys_upd, keys_add]
theorem holdOf_put (l : List (Id3 × List Int)) (x y : Id3) (n : Int) : holdOf (holdPut l x n) y = if y = x then insI (holdOf l x) n else holdOf l y := by
 unfold holdPut
 rw [find_upd, holdOf_add]
 by_cases h : y = x
 · subst h
   rw [if_pos ⟨rfl, by rw [keys_add]; split <;> simp_all⟩, if_pos rfl]
 · rw [if_neg (fun e => h e.1), if_neg h]
theorem holdOf_drop (l : List (Id3 × List Int)) (x y : Id3) : holdOf (holdDrop l x) y = if y = x then [] else holdOf l y := by
 by_cases h : y = x
 · subst h
   rw [if_pos rfl]
   refine holdOf_none (fun hm => ?_)
   unfold keysOf holdDrop at hm
   obtain ⟨z, hz, rfl⟩ := List.mem_map.1 hm
   have := (List.mem_filter.1 hz).2
   simp at this
 · rw [if_neg h]
   unfold holdOf holdDrop
   rw [List.find?_filter]
   congr 2
   refine congrArg (fun f => List.find? f l) (funext fun z => ?_)
   by_cases hz : z.1 = y
   · simp [hz, h]
   · simp [hz]
theorem holdOf_cut (l : List (Id3 × List Int)) (x y : Id3) (n : Int) : holdOf (holdCut l x n) y = if y = x then delI (holdOf l x) n else holdOf l y := by
 unfold holdCut
 split
 · next h =>
   rw [holdOf_drop]
   split
   · exact h.symm
   · rfl
 · next h =>
   rw [find_upd]
   by_cases hy : y = x
   · subst hy
     rw [if_pos rfl]
     by_cases hk : y ∈ keysOf l
     · rw [if_pos ⟨rfl, hk⟩]
     · rw [if_neg (fun e => hk e.2), holdOf_none hk]
       rfl
   · rw [if_neg (fun e => hy e.1), if_neg hy]
theorem mem_insI {l : List Int} {n m : Int} : m ∈ insI l n ↔ m ∈ l ∨ m = n := by
 unfold insI
 split
 · next h => exact ⟨.inl, fun e => e.elim id (fun e => e ▸ h)⟩
 · simp
theorem mem_delI {l : List Int} {n m : Int} : m ∈ delI l n ↔ m ∈ l ∧ m ≠ n := by
 unfold delI
 simp
/-- What is known of them. -/
structure HoldOk (s : SchedD) : Prop where
 keys : (keysOf s.holds).Nodup
 inn : ∀ x n, n ∈ holdOf s.holds x → 1 ≤ n ∧ n ≤ 4
theorem nodup_snocT {l : List Id3} {x : Id3} (h : l.Nodup) (hx : x ∉ l) : (l ++ [x]).Nodup := by
 rw [List.nodup_append]
 exact ⟨h, List.pairwise_singleton _ _, fun a ha b hb e => by rw [List.mem_singleton] at hb; exact hx (hb ▸ e ▸ ha)⟩
theorem HoldOk.told {s : SchedD} (h : HoldOk s) (p : PlanD) (x : Id3) (n : Int) : HoldOk (s.told p x n) := by
 unfold SchedD.told
 split
 · next hc =>
   refine ⟨?_, fun y m hm => ?_⟩
   · show (keysOf (holdPut s.holds x n)).Nodup
     rw [keys_put]
     split
     · exact h.keys
     · next hx => exact nodup_snocT h.keys hx
   · have hm' : m ∈ holdOf (holdPut s.holds x n) y := hm
     rw [holdOf_put] at hm'
     split at hm'
     · rcases mem_insI.1 hm' with hm' | rfl
       · exact h.inn _ _ hm'
       · exact hc.2
     · exact h.inn _ _ hm'
 · exact h
theorem HoldOk.lost {s : SchedD} (h : HoldOk s) (x : Id3) (n : Int) : HoldOk (s.lost x n) := by
 refine ⟨?_, fun y m hm => ?_⟩
 · show (keysOf (holdCut s.holds x n)).Nodup
   unfold holdCut
   split
   · unfold keysOf holdDrop
     exact (h.keys.sublist ((List.filter_sublist).map _))
   · rw [keys_upd]
     exact h.keys
 · have hm' : m ∈ holdOf (holdCut s.holds x n) y := hm
   rw [holdOf_cut] at hm'
   split at hm'
   · exact h.inn _ _ (mem_delI.1 hm').1
   · exact h.inn _ _ hm'
theorem told_len (s : SchedD) (p : PlanD) (x : Id3) (n : Int) : (s.told p x n).holds.length ≤ s.holds.length + 1 := by
 unfold SchedD.told
 split
 · show (holdPut s.holds x n).length ≤ _
   have h := congrArg List.length (keys_put s.holds x n)
   unfold keysOf at h
   rw [List.length_map] at h
   rw [h]
   split
   · rw [List.length_map]; omega
   · rw [List.length_append, List.length_map]; simp
 · omega
theorem lost_len (s : SchedD) (x : Id3) (n : Int) : (s.lost x n).holds.length ≤ s.holds.length := by
 show (holdCut s.holds x n).length ≤ _
 unfold holdCut
 split
 · exact List.length_filter_le _ _
 · unfold holdUpd; rw [List.length_map]; exact Nat.le_refl _
/-- Of two holds, which is ahead. -/
def ltH (a b : Hd) : Prop := bef a.id b.id = true ∨ (a.id = b.id ∧ a.w < b.w)
theorem bef_irrefl (x : Id3) : bef x x = false := by
 rw [bef_false]
 omega
theorem bef_trans {x y z : Id3} (h1 : bef x y = true) (h2 : bef y z = true) : bef x z = true := by
 rw [bef_iff] at h1 h2 ⊢
 omega
theorem ltH_irrefl (a : Hd) : ¬ ltH a a := by
 rintro (h | ⟨_, h⟩)
 · rw [bef_irrefl] at h; cases h
 · omega
theorem ltH_asymm {a b : Hd} (h : ltH a b) (h' : ltH b a) : False := by
 rcases h with h | ⟨e, h⟩ <;> rcases h' with h' | ⟨e', h'⟩
 · have := bef_trans h h'
   rw [bef_irrefl] at this; cases this
 · rw [e', bef_irrefl] at h; cases h
 · rw [e, bef_irrefl] at h'; cases h'
 · omega
theorem mem_onesL {ws : List Int} {k : Nat} {n : Int} : n ∈ onesL ws k ↔ n ∈ ws ∧ 1 ≤ n ∧ n ≤ (k : Int) := by
 unfold onesL
 rw [List.mem_filter, List.mem_map]
 constructor
 · rintro ⟨⟨i, hi, rfl⟩, h⟩
   rw [List.mem_range] at hi
   exact ⟨of_decide_eq_true h, by omega, by omega⟩
 · rintro ⟨h, h1, h2⟩
   exact ⟨⟨(n - 1).toNat, by rw [List.mem_range]; omega, by omega⟩, decide_eq_true h⟩
theorem onesL_sorted (ws : List Int) (k : Nat) : (onesL ws k).Pairwise (· < ·) := by
 unfold onesL
 refine List.Pairwise.filter _ ?_
 rw [List.pairwise_map]
 exact (List.pairwise_lt_range).imp (fun h => by omega)
theorem mem_hsOf {l : List (Id3 × List Int)} {x : Id3} {k : Nat} {h : Hd} : h ∈ hsOf l x k ↔ h.id = x ∧ h.w ∈ holdOf l x ∧ 1 ≤ h.w ∧ h.w ≤ (k : Int) := by
 unfold hsOf
 rw [List.mem_map]
 constructor
 · rintro ⟨n, hn, rfl⟩
   exact ⟨rfl, mem_onesL.1 hn⟩
 · rintro ⟨rfl, hn⟩
   exact ⟨h.w, mem_onesL.2 hn, rfl⟩
theorem mem_holdsL {s : SchedD} {h : Hd} : h ∈ holdsL s ↔ h.w ∈ holdOf s.holds h.id ∧ 1 ≤ h.w ∧ h.w ≤ 4 := by
 unfold holdsL hsTo
 rw [List.mem_flatMap]
 constructor
 · rintro ⟨x, _, hx⟩
   obtain ⟨rfl, h2⟩ := mem_hsOf.1 hx
   exact h2
 · intro hw
   refine ⟨h.id, heldL_mem.2 ?_, mem_hsOf.2 ⟨rfl, hw⟩⟩
   by_cases hk : h.id ∈ keysOf s.holds
   · exact hk
   · rw [holdOf_none hk] at hw
     cases hw.1
theorem heldL_strict {s : SchedD} (h : HoldOk s) : (heldL s).Pairwise (fun x y => bef x y = true) := by
 have h1 : (heldL s).Nodup := ((sortB_perm _).nodup_iff).2 h.keys
 have h2 := sortB_sorted (s.holds.map (·.1))
 refine (List.pairwise_and_iff.2 ⟨h1, h2⟩).imp ?_
 rintro x y ⟨hne, hb⟩
 cases hb' : bef x y with
 | true => rfl
 | false => exact absurd (bef_eq hb' hb) hne
theorem holdsL_sorted {s : SchedD} (h : HoldOk s) : (holdsL s).Pairwise ltH := by
 unfold holdsL hsTo
 refine List.pairwise_flatMap.2 ⟨fun x _ => ?_, (heldL_strict h).imp fun {x y} hb a ha b hb' => ?_⟩
 · unfold hsOf
   rw [List.pairwise_map]
   exact (onesL_sorted _ _).imp fun hlt => .inr ⟨rfl, hlt⟩
 · obtain ⟨rfl, _⟩ := mem_hsOf.1 ha
   obtain ⟨rfl, _⟩ := mem_hsOf.1 hb'
   exact .inl hb
theorem sorted_nodup {l : List Hd} (h : l.Pairwise ltH) : l.Nodup := h.imp (fun hlt e => by subst e; exact ltH_irrefl _ hlt)
theorem sorted_eq {l l' : List Hd} (h : l.Pairwise ltH) (h' : l'.Pairwise ltH) (hm : ∀ a, a ∈ l ↔ a ∈ l') : l = l' := by
 refine List.Perm.eq_of_pairwise (le := ltH) (fun a b _ _ h1 h2 => (ltH_asymm h1 h2).elim) h h' ?_
 exact (List.perm_ext_iff_of_nodup (sorted_nodup h) (sorted_nodup h')).2 hm
/-- The same is held by the same. -/
def SameHd (s t : SchedD) : Prop := ∀ x n, n ∈ holdOf s.holds x ↔ n ∈ holdOf t.holds x
theorem SameHd.holds {s t : SchedD} (h : SameHd s t) (hs : HoldOk s) (ht : HoldOk t) : holdsL s = holdsL t :=
 sorted_eq (holdsL_sorted hs) (holdsL_sorted ht) fun a => by rw [mem_holdsL, mem_holdsL, h]
theorem SameHd.lost {s t : SchedD} (h : SameHd s t) (x : Id3) (n : Int) : SameHd (s.lost x n) (t.lost x n) := by
 intro y m
 show m ∈ holdOf (holdCut s.holds x n) y ↔ m ∈ holdOf (holdCut t.holds x n) y
 rw [holdOf_cut, holdOf_cut]
 split
 · rw [mem_delI, mem_delI, h]
 · exact h _ _
theorem SameHd.gone {n : Int} : ∀ (l : List Hd) {s t : SchedD}, SameHd s t → SameHd (l.foldl (goneS n) s) (l.foldl (goneS n) t)
 | [], _, _, h => h
 | a :: l, s, t, h => by
   rw [List.foldl_cons, List.foldl_cons]
   refine SameHd.gone l ?_
   unfold goneS
   split
   · exact h.lost _ _
   · exact h
theorem HoldOk.goneL {n : Int} : ∀ (l : List Hd) {s : SchedD}, HoldOk s → HoldOk (l.foldl (goneS n) s)
 | [], _, h => h
 | a :: l, s, h => by
   rw [List.foldl_cons]
   refine HoldOk.goneL l ?_
   unfold goneS
   split
   · exact h.lost _ _
   · exact h
theorem goneL_len {n : Int} : ∀ (l : List Hd) (s : SchedD), (l.foldl (goneS n) s).holds.length ≤ s.holds.length
 | [], _ => Nat.le_refl _
 | a :: l, s => by
   rw [List.foldl_cons]
   refine Nat.le_trans (goneL_len l _) ?_
   unfold goneS
   split
   · exact lost_len _ _ _
   · exact Nat.le_refl _
/-- What was told of one who held it not, and is lost again, leaves all. -/
theorem told_lost {s : SchedD} (hs : HoldOk s) (p : PlanD) (x : Id3) (n : Int) (hn : (⟨x, n⟩ : Hd) ∉ holdsL s) : SameHd ((s.told p x n).lost x n) s := by
 have hno : n ∉ holdOf s.holds x := fun h => hn (mem_holdsL.2 ⟨h, hs.inn _ _ h⟩)
 have hh : ∀ y, holdOf (s.told p x n).holds y = holdOf s.holds y ∨ y = x ∧ holdOf (s.told p x n).holds y = insI (holdOf s.holds x) n := by
  intro y
  unfold SchedD.told
  split
  · show holdOf (holdPut s.holds x n) y = _ ∨ y = x ∧ holdOf (holdPut s.holds x n) y = _
    rw [holdOf_put]
    split
    · next e => exact .inr ⟨e, rfl⟩
    · exact .inl rfl
  · exact .inl rfl
 intro y m
 show m ∈ holdOf (holdCut (s.told p x n).holds x n) y ↔ _
 rw [holdOf_cut]
 split
 · next e =>
   subst e
   rw [mem_delI]
   rcases hh y with h | ⟨_, h⟩
   · rw [h]
     exact ⟨fun h => h.1, fun h => ⟨h, fun e => hno (e ▸ h)⟩⟩
   · rw [h, mem_insI]
     exact ⟨fun h => h.1.elim id (fun e => absurd e h.2), fun h => ⟨.inl h, fun e => hno (e ▸ h)⟩⟩
 · next e =>
   rcases hh y with h | ⟨e', _⟩
   · rw [h]
   · exact absurd e' e
theorem holdOk_new (e : Nat) (k : Int) (sv : List Id3) : HoldOk ⟨e, k, [], sv⟩ := ⟨List.Pairwise.nil, fun x n h => by simp [holdOf] at h⟩
end Go.Proofs.YtapjhliglmohgaaGreatDoor
/- The document's SameHolds and SameJobs. -/
namespace Go.Proofs.YtapjhliglmohgaaGreatDoor
open Go.RowKit Go.Sort
theorem hd_equalIn (d : Nat) (x y : Hd) (w : World) : (Op.equalIn (d + 3) 57 (.agg #[.int .i64 x.id.b, .int .i64 x.id.s, .int .i64 x.id.p, .int .i64 x.w]) (.agg #[.int .i64 y.id.b, .int .i64 y.id.s, .int .i64 y.id.p, .int .i64 y.w])).run Tryz.prog w = .ok (decide (x = y)) w := by
 have hf : (Tryz.prog.fieldsOf 57).toList = [⟨"ID", 35, 0, false, "", "", 0⟩, ⟨"Worker", 3, 3, false, "", "", 24⟩] := by kernel_rfl
 rw [run_equalIn_agg w (d + 2) 57 _ _ (by kernel_rfl) (by kernel_rfl), hf]
 have hi : Tryz.prog.underlying 3 = some (.int .i64) := by kernel_rfl
 have e0 : ∀ fs, (Op.eqFields (d + 2) #[.int .i64 x.id.b, .int .i64 x.id.s, .int .i64 x.id.p, .int .i64 x.w] #[.int .i64 y.id.b, .int .i64 y.id.s, .int .i64 y.id.p, .int .i64 y.w] (⟨"ID", 35, 0, false, "", "", 0⟩ :: fs)).run Tryz.prog w = if decide (x.id = y.id) then (Op.eqFields (d + 2) #[.int .i64 x.id.b, .int .i64 x.id.s, .int .i64 x.id.p, .int .i64 x.w] #[.int .i64 y.id.b, .int .i64 y.id.s, .int .i64 y.id.p, .int .i64 y.w] fs).run Tryz.prog w else .ok false w := fun fs => eqF_cons (a := .agg #[.int .i64 x.id.b, .int .i64 x.id.s, .int .i64 x.id.p]) (b := .agg #[.int .i64 y.id.b, .int .i64 y.id.s, .int .i64 y.id.p]) (by decide) (by kernel_rfl) (by kernel_rfl) (id_equalIn d x.id y.id w)
 have e1 : ∀ fs, (Op.eqFields (d + 2) #[.int .i64 x.id.b, .int .i64 x.id.s, .int .i64 x.id.p, .int .i64 x.w] #[.int .i64 y.id.b, .int .i64 y.id.s, .int .i64 y.id.p, .int .i64 y.w] (⟨"Worker", 3, 3, false, "", "", 24⟩ :: fs)).run Tryz.prog w = if (x.w == y.w) then (Op.eqFields (d + 2) #[.int .i64 x.id.b, .int .i64 x.id.s, .int .i64 x.id.p, .int .i64 x.w] #[.int .i64 y.id.b, .int .i64 y.id.s, .int .i64 y.id.p, .int .i64 y.w] fs).run Tryz.prog w else .ok false w := fun fs => eqF_cons (a := .int .i64 x.w) (b := .int .i64 y.w) (by decide) (by kernel_rfl) (by kernel_rfl) (run_equalIn_int w (d + 1) _ _ _ _ _ hi)
 rw [e0, e1]
 simp only [Op.eqFields, Sem.run_pure]
 have hxy : x = y ↔ x.id = y.id ∧ x.w = y.w := by cases x; cases y; simp
 by_cases h1 : x.id = y.id <;> by_cases h2 : x.w = y.w <;> simp [h1, h2, hxy]
theorem hd_eqI (d : Nat) (a b c a' b' c' : Int) (u u' : Int) (w : World) : (Op.equalIn (d + 3) 57 (.agg #[.int .i64 a, .int .i64 b, .int .i64 c, .int .i64 u]) (.agg #[.int .i64 a', .int .i64 b', .int .i64 c', .int .i64 u'])).run Tryz.prog w = .ok (decide ((⟨⟨a, b, c⟩, u⟩ : Hd) = ⟨⟨a', b', c'⟩, u'⟩)) w := hd_equalIn d ⟨⟨a, b, c⟩, u⟩ ⟨⟨a', b', c'⟩, u'⟩ w
attribute [local go_sem high] hd_eqI in
set_option maxHeartbeats 2000000 in
theorem hdSame_c (B B' : Nat) (w : World) (A A' : Option Addr) (c c' n n' : Nat) (l l' : List Hd) (hn : l.length = n) (hn' : l'.length = n') (h : Rd w B 57 4 A n (l.flatMap hdC)) (h' : Rd w B' 57 4 A' n' (l'.flatMap hdC)) (hl : l.length ≤ 2147483648) :
 Calls Tryz.prog 23 #[.slice A n c, .slice A' n' c'] w (BoolPost w (decide (l = l'))) := by
 subst hn hn'
 have hlb := hl
 by_cases hlen : l.length = l'.length
 · have hT : ((l.length : Int) != (l'.length : Int)) = false := by simp [hlen]
   have hT2 : (l.length == l'.length) = true := by simp [hlen]
   have HL := Lib.hid hlen
   have H := Lib.hid h
   have H' := Lib.hid h'
   clear h h' hlen
   go_enter Tryz.func23, Tryz.ntmps23
   go_wp2
   go_loopg [5] l.length (fun k v5 wr => ∃ i n, i + k = l.length ∧ v5 = .int .i64 (i : Nat) ∧ Hid (l.take i = l'.take i) ∧ wr = w.drewN n)
   case atStart => exact ⟨0, 0, by simp, rfl, Lib.hid (by simp), rfl⟩
   case round =>
    obtain ⟨i, n, hk, rfl, HP, rfl⟩ := hrel
    by_cases hi : i < l.length
    · have hi' : i < l'.length := by have := HL.out; omega
      have hy : l[i]? = some (l[i]) := List.getElem?_eq_getElem hi
      have hy' : l'[i]? = some (l'[i]) := List.getElem?_eq_getElem hi'
      generalize l[i] = y at hy
      generalize l'[i] = y' at hy'
      obtain ⟨ad, rfl, d0, d1, d2, d3⟩ := H.out.hds hy hi
      obtain ⟨ad', rfl, e0, e1, e2, e3⟩ := H'.out.hds hy' hi'
      have HY := Lib.hid hy
      have HY' := Lib.hid hy'
      obtain ⟨⟨yb, ys, yp⟩, yw⟩ := y
      obtain ⟨⟨zb, zs, zp⟩, zw⟩ := y'
      clear hy hy'
      obtain ⟨g, hg⟩ : ∃ g, g = (!decide (yb = zb) || (!decide (ys = zs) || !decide (yp = zp)) || !decide (yw = zw)) := ⟨_, rfl⟩
      have HG := Lib.hid (show (!g) = decide ((⟨⟨yb, ys, yp⟩, yw⟩ : Hd) = ⟨⟨zb, zs, zp⟩, zw⟩) from by
       rw [hg]
       by_cases h1 : yb = zb <;> by_cases h2 : ys = zs <;> by_cases h3 : yp = zp <;> by_cases h4 : yw = zw <;> simp [h1, h2, h3, h4])
      go_wp2
      go_quiet (fail)
      rw [← hg]
      clear hg
      cases g with
      | false =>
        go_wp2
        go_roundg (gk - 1)
        case measure => omega
        case rel => exact ⟨i + 1, n + nq, by omega, by go_num, Lib.hid (by rw [take_succ_of HY.out, take_succ_of HY'.out, HP.out, of_decide_eq_true HG.out.symm]), rfl⟩
      | true =>
        go_wp2
        go_ret
        have hne : l ≠ l' := by
         intro e
         have h1 := HY.out
         have h2 := HY'.out
         rw [e, h2] at h1
         exact of_decide_eq_false HG.out.symm (Option.some.inj h1).symm
        exact ⟨by simp [hne], below_drewN (below_drewN (Below.refl _ _) _) _⟩
    · have hil : i = l.length := by omega
      subst hil
      have heq : l = l' := by
       have h1 := HP.out
       rw [List.take_length, HL.out, List.take_length] at h1
       exact h1
      have HQ := Lib.hid heq
      clear heq
      go_wp2
      go_ret
      exact ⟨by simp [HQ.out], below_drewN (Below.refl _ _) _⟩
 · have hT : ((l.length : Int) != (l'.length : Int)) = true := by simp; omega
   have hT2 : (l.length == l'.length) = false := by simp [hlen]
   have hne : l ≠ l' := fun e => hlen (by rw [e])
   have HN := Lib.hid hne
   clear hlen hne h h'
   go_enter Tryz.func23, Tryz.ntmps23
   go_wp2
   go_ret
   exact ⟨by simp [HN.out], Below.refl _ _⟩
end Go.Proofs.YtapjhliglmohgaaGreatDoor
/- A struct read from wherever its cells lie. -/
namespace Go.Proofs.YtapjhliglmohgaaGreatDoor
open Go.RowKit Go.Sort
theorem run_loadVar_any {P : Program} (w : World) (a : Addr) (ty : TypeId) (cs : Array Value) (fs : Array Field) (hc : ∀ j v, cs[j]? = some v → w.cell? (a.add j) = some v)
 (hu : P.underlying ty = some (.struct fs)) (hi : (P.info? ty).map (·.size) = some cs.size) : (loadVar ty a).run P w = .ok (.agg cs) w := by
 have hl : (loadCells a cs.size).run P w = .ok cs w := by
  have := run_loadCells_list (P := P) w a cs.toList (fun j v hv => hc j v (by simpa using hv))
  simpa using this
 cases hq : P.info? ty with
 | none => simp [hq] at hi
 | some i =>
   have hs : i.size = cs.size := by simpa [hq] using hi
   have hagg : (isAgg ty).run P w = .ok true w := by
    unfold isAgg
    rw [Sem.run_bind, run_underlying hu w]
    simp
   simp [loadVar, Sem.run_bind, hagg, sizeOf, typeInfo, hq, hs, hl]
theorem wpList_load_any {P : Program} {ops : Array Oper} {rest : List Oper} {op : Oper} {a : Act} {w : World} {Q : Exit → Act → World → Prop} (hgd : op.guard = none) (ty : TypeId) (x : Operand) (ho : op.op = .load ty x)
 (ad : Addr) (hx : a.eval x = .pointer (some ad)) (cs : Array Value) (fs : Array Field) (hc : ∀ j v, cs[j]? = some v → w.cell? (ad.add j) = some v)
 (hu : P.underlying ty = some (.struct fs)) (hi : (P.info? ty).map (·.size) = some cs.size)
 (h : wpList P ops Q rest (a.put op.dst (.agg cs)) w) : wpList P ops Q (op :: rest) a w :=
 wpList_plain hgd fun _ hK => by
  unfold Oper.wp execOp
  simp only [ho, hx, Instr.loadAt, Instr.sureAddr, Sem.run_bind, Sem.run_pure, Result.andThen_ok, run_loadVar_any w ad ty cs fs hc hu hi]
  exact hK _ _ h
end Go.Proofs.YtapjhliglmohgaaGreatDoor
