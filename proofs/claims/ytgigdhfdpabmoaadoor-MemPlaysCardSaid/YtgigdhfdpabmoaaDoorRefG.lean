/- SamePieces; the document's memory: Put. -/
import Derived.Test.YtgigdhfdpabmoaaDoorRefF
namespace Go.Proofs.YtgigdhfdpabmoaaDoor
open Go.RowKit Go.Sort
attribute [local go_sem high] id_eqI

set_option maxRecDepth 100000 in
set_option maxHeartbeats 2000000 in
theorem samePieces_c (B : Nat) (w : World) (A A' : Option Addr) (c c' : Nat) (L L' : List Pz) (h : Rd w B 47 4 A L.length (pzsC L)) (h' : Rd w B 47 4 A' L'.length (pzsC L')) (hr : ∀ z ∈ L, Rd w B 58 2 z.A z.rows.length (rwsC z.rows)) (hr' : ∀ z ∈ L', Rd w B 58 2 z.A z.rows.length (rwsC z.rows)) (hl : L.length ≤ 2147483648) (hz : ∀ z ∈ L, z.rows.length ≤ 2147483648) :
    Calls Tryd.prog 36 #[.slice A L.length c, .slice A' L'.length c'] w (BoolPost w (decide (L.map pzT = L'.map pzT))) := by
  by_cases hlen : L.length = L'.length
  · have hT : ((L.length : Int) != (L'.length : Int)) = false := by simp [hlen]
    have hT2 : (L.length == L'.length) = true := by simp [hlen]
    have HL := Lib.hid hlen
    have H := Lib.hid h
    have H' := Lib.hid h'
    have HR := Lib.hid hr
    have HR' := Lib.hid hr'
    have HZ := Lib.hid hz
    clear h h' hlen hr hr' hz
    go_enter Tryd.func36, Tryd.ntmps36
    go_wp2
    go_loopg [5] L.length (fun k v5 wr => ∃ i, i + k = L.length ∧ v5 = .int .i64 (i : Nat) ∧ Hid ((L.take i).map pzT = (L'.take i).map pzT) ∧ Below w.heap.size w wr)
    case atStart => exact ⟨0, by simp, rfl, Lib.hid (by simp), Below.refl _ _⟩
    case round =>
      obtain ⟨i, hk, rfl, hpre, hb⟩ := hrel
      have HB := Lib.hid hb
      clear hb
      by_cases hi : i < L.length
      · have hi' : i < L'.length := by have := HL.out; omega
        have hy : L[i]? = some (L[i]) := List.getElem?_eq_getElem hi
        have hy' : L'[i]? = some (L'[i]) := List.getElem?_eq_getElem hi'
        generalize L[i] = y at hy
        generalize L'[i] = y' at hy'
        obtain ⟨ad, rfl, d0, d1, d2, d3⟩ := (H.out.ext HB.out).pzsF hy hi
        obtain ⟨ad', rfl, e0, e1, e2, e3⟩ := (H'.out.ext HB.out).pzsF hy' hi'
        have HY := Lib.hid hy
        have HY' := Lib.hid hy'
        have HRy := Lib.hid ((HR.out y (List.mem_of_getElem? hy)).ext HB.out)
        have HRy' := Lib.hid ((HR'.out y' (List.mem_of_getElem? hy')).ext HB.out)
        have hyz := HZ.out y (List.mem_of_getElem? hy)
        clear hy hy'
        by_cases hyy : y.id = y'.id
        · have hN : (!decide (y.id.b = y'.id.b) || (!decide (y.id.s = y'.id.s) || !decide (y.id.p = y'.id.p))) = false := by rw [hyy]; simp
          have HE := Lib.hid hyy
          clear hyy
          by_cases hrr : y.rows = y'.rows
          · have hS : decide (y.rows = y'.rows) = true := by simp [hrr]
            have HS := Lib.hid hS
            have HQ := Lib.hid hrr
            clear hS hrr
            go_wp2_with fail
            go_region_held3 (fun w' => w'.cell? (ad.add (i * 4)) = some (.int .i64 y.id.b) ∧ w'.cell? ⟨(ad.add (i * 4)).block, (ad.add (i * 4)).off + 1, none⟩ = some (.int .i64 y.id.s) ∧ w'.cell? ⟨(ad.add (i * 4)).block, (ad.add (i * 4)).off + 2, none⟩ = some (.int .i64 y.id.p) ∧ w'.cell? ⟨(ad.add (i * 4)).block, (ad.add (i * 4)).off + 3, none⟩ = some (.slice y.A y.rows.length y.cap) ∧
                w'.cell? (ad'.add (i * 4)) = some (.int .i64 y'.id.b) ∧ w'.cell? ⟨(ad'.add (i * 4)).block, (ad'.add (i * 4)).off + 1, none⟩ = some (.int .i64 y'.id.s) ∧ w'.cell? ⟨(ad'.add (i * 4)).block, (ad'.add (i * 4)).off + 2, none⟩ = some (.int .i64 y'.id.p) ∧ w'.cell? ⟨(ad'.add (i * 4)).block, (ad'.add (i * 4)).off + 3, none⟩ = some (.slice y'.A y'.rows.length y'.cap)) (first | go_keep)
              (first | (go_at_call 20; refine (same_c B _ y.A y'.A y.cap y'.cap y.rows y'.rows HRy.out.drew HRy'.out.drew hyz).mono ?_; rw [HS.out]; rintro e w3 ⟨rfl, hb3⟩; have HB3 := Lib.hid (show Below wr.heap.size wr w3 from ext_trans (Below.refl _ _).drew hb3); clear hb3; have gz := fun (a : Addr) (u : Value) (hu : wr.cell? a = some u) => (HB3.out.cell (World.block_lt_of_cell? wr _ hu)).trans hu; have z0 := gz _ _ e0; have z1 := gz _ _ e1; have z2 := gz _ _ e2; have z3 := gz _ _ e3; have y0 := gz _ _ d0; have y1 := gz _ _ d1; have y2 := gz _ _ d2; have y3 := gz _ _ d3; clear gz))
            go_wp2_with fail
            go_roundg (gk - 1)
            case measure => omega
            case rel => exact ⟨i + 1, by omega, by go_num, Lib.hid (by rw [take_succ_of HY.out, take_succ_of HY'.out, List.map_append, List.map_append, hpre.out]; simp [pzT, HE.out, HQ.out]), ext_trans HB.out HB3.out⟩
          · have hS : decide (y.rows = y'.rows) = false := by simp [hrr]
            have HS := Lib.hid hS
            have HQ := Lib.hid hrr
            clear hS hrr
            go_wp2_with fail
            go_region_held3 (fun w' => w'.cell? (ad.add (i * 4)) = some (.int .i64 y.id.b) ∧ w'.cell? ⟨(ad.add (i * 4)).block, (ad.add (i * 4)).off + 1, none⟩ = some (.int .i64 y.id.s) ∧ w'.cell? ⟨(ad.add (i * 4)).block, (ad.add (i * 4)).off + 2, none⟩ = some (.int .i64 y.id.p) ∧ w'.cell? ⟨(ad.add (i * 4)).block, (ad.add (i * 4)).off + 3, none⟩ = some (.slice y.A y.rows.length y.cap) ∧
                w'.cell? (ad'.add (i * 4)) = some (.int .i64 y'.id.b) ∧ w'.cell? ⟨(ad'.add (i * 4)).block, (ad'.add (i * 4)).off + 1, none⟩ = some (.int .i64 y'.id.s) ∧ w'.cell? ⟨(ad'.add (i * 4)).block, (ad'.add (i * 4)).off + 2, none⟩ = some (.int .i64 y'.id.p) ∧ w'.cell? ⟨(ad'.add (i * 4)).block, (ad'.add (i * 4)).off + 3, none⟩ = some (.slice y'.A y'.rows.length y'.cap)) (first | go_keep)
              (first | (go_at_call 20; refine (same_c B _ y.A y'.A y.cap y'.cap y.rows y'.rows HRy.out.drew HRy'.out.drew hyz).mono ?_; rw [HS.out]; rintro e w3 ⟨rfl, hb3⟩; have HB3 := Lib.hid (show Below wr.heap.size wr w3 from ext_trans (Below.refl _ _).drew hb3); clear hb3; have gz := fun (a : Addr) (u : Value) (hu : wr.cell? a = some u) => (HB3.out.cell (World.block_lt_of_cell? wr _ hu)).trans hu; have z0 := gz _ _ e0; have z1 := gz _ _ e1; have z2 := gz _ _ e2; have z3 := gz _ _ e3; have y0 := gz _ _ d0; have y1 := gz _ _ d1; have y2 := gz _ _ d2; have y3 := gz _ _ d3; clear gz))
            go_wp2_with fail
            go_ret
            have hne : ¬ L.map pzT = L'.map pzT := by
              intro e
              have h1 : (L.map pzT)[i]? = some (pzT y) := by rw [List.getElem?_map, HY.out]; rfl
              have h2 : (L'.map pzT)[i]? = some (pzT y') := by rw [List.getElem?_map, HY'.out]; rfl
              rw [e, h2] at h1
              have h3 := Option.some.inj h1
              exact HQ.out (congrArg Prod.snd h3).symm
            exact ⟨by simp [hne], ext_trans HB.out HB3.out⟩
        · have hN : (!decide (y.id.b = y'.id.b) || (!decide (y.id.s = y'.id.s) || !decide (y.id.p = y'.id.p))) = true := by
            have h1 := ne_bool hyy
            exact h1
          have HE := Lib.hid hyy
          clear hyy
          go_wp2_with fail
          go_quiet (fail)
          go_wp2_with fail
          go_ret
          have hne : ¬ L.map pzT = L'.map pzT := by
            intro e
            have h1 : (L.map pzT)[i]? = some (pzT y) := by rw [List.getElem?_map, HY.out]; rfl
            have h2 : (L'.map pzT)[i]? = some (pzT y') := by rw [List.getElem?_map, HY'.out]; rfl
            rw [e, h2] at h1
            have h3 := Option.some.inj h1
            exact HE.out (congrArg Prod.fst h3).symm
          exact ⟨by simp [hne], below_drewN HB.out _⟩
      · have hil : i = L.length := by omega
        subst hil
        have heq : L.map pzT = L'.map pzT := by
          have h1 := hpre.out
          rw [List.take_length, HL.out, List.take_length] at h1
          exact h1
        have HQ := Lib.hid heq
        clear heq
        go_wp2
        go_ret
        exact ⟨by simp [HQ.out], HB.out⟩
  · have hT : ((L.length : Int) != (L'.length : Int)) = true := by simp; omega
    have hT2 : (L.length == L'.length) = false := by simp [hlen]
    have hne : ¬ L.map pzT = L'.map pzT := fun e => hlen (by have := congrArg List.length e; simpa using this)
    have HN := Lib.hid hne
    clear hlen hne h h' hr hr'
    go_enter Tryd.func36, Tryd.ntmps36
    go_wp2
    go_ret
    exact ⟨by simp [HN.out], Below.refl _ _⟩

/-! ### Put -/
set_option maxHeartbeats 1000000 in
theorem rput_held (B : Nat) (w : World) (rb : Nat) (A : Option Addr) (cap : Nat) (max : Int) (l : List Rc) (x : Id3) (i : Nat) (y : Rc) (h : RAt B w rb A cap max l) (hl : l.length ≤ 1000000) (hx : rix l x = (i : Nat)) (hy : l[i]? = some y) (A0 : Option Addr) (n0 c0 : Nat) :
    Calls Tryd.prog 21 #[.pointer (some ⟨rb, 0, none⟩), idV x, .slice A0 n0 c0] w (RPost muS B w rb max (cut l i ++ [y]) (.bool true)) := by
  have hat := at_c B (w.alloc (.cells #[.int .i64 x.b, .int .i64 x.s, .int .i64 x.p] 24)) rb A cap max l x (h.alloc _) hl
  rw [hx] at hat
  have HA := Lib.hid hat
  have HR := Lib.hid h
  have HY := Lib.hid hy
  have hi0 : (0 : Int) ≤ ((i : Nat) : Int) := by omega
  clear hat hx h hy
  go_enter Tryd.func21, Tryd.ntmps21
  go_wp2_with (first
    | (go_at_call 45; refine HA.out.mono ?_; rintro e w1 ⟨rfl, hb1⟩; have HB1 := Lib.hid hb1; clear hb1)
    | (go_at_call 46; refine (ruse_c B _ rb A cap max l i y ((HR.out.alloc _).ext HB1.out) hl HY.out).mono ?_; rintro e w2 ⟨rfl, ⟨A2, c2, hR2, _⟩, hC2⟩))
  go_ret
  exact ⟨rfl, ⟨A2, c2, hR2⟩, (Chg.of_below (ext_trans (ext_alloc (Below.refl _ _) _) HB1.out)).trans hC2⟩

def RPutPost (B : Nat) (w : World) (rb : Nat) (max : Nat) (l : List Rc) (x : Id3) (rows : List Rw) (e : Ending) (w' : World) : Prop :=
  (max < szR rows + pinnedR l → e = .returned (.bool false) ∧ Below w.heap.size w w') ∧
  (szR rows + pinnedR l ≤ max → e = .returned (.bool true) ∧ (∃ r c A cap, Rev max (szR rows) l r ∧ c.id = x ∧ c.rows = rows ∧ c.pins = 0 ∧ (∀ g, g < w.heap.size → Off g c.A c.rows.length) ∧ RAt B w' rb A cap max (r ++ [c])) ∧ Chg muR B w w')

theorem all_pinned {max n : Nat} {l : List Rc} (h : ¬ usedR l + n ≤ max) (hf : n + pinnedR l ≤ max) (ha : ∀ j c, j < l.length → l[j]? = some c → 0 < c.pins) : False := by
  obtain ⟨c, hc, h0⟩ := first_free h hf
  obtain ⟨j, hj⟩ := List.mem_iff_getElem?.1 hc
  have := ha j c (List.getElem?_eq_some_iff.1 hj).1 hj
  omega
theorem pinnedR_cut {l : List Rc} {k : Nat} {y : Rc} (hy : l[k]? = some y) (h0 : y.pins = 0) : pinnedR (cut l k) = pinnedR l := by
  have h1 := split_at_ hy
  unfold cut
  conv => rhs; rw [h1]
  rw [pinnedR_append, pinnedR_append, pinnedR_cons, if_neg (by omega)]
  omega
theorem usedR_cut {l : List Rc} {k : Nat} {y : Rc} (hy : l[k]? = some y) : usedR (cut l k) ≤ usedR l := by
  have h1 := split_at_ hy
  unfold cut
  conv => rhs; rw [h1]
  rw [usedR_append, usedR_append, usedR_cons]
  omega

theorem own_mu {w : World} {base B n z : Nat} {e : TypeId} {v : Value} {xs : List Value} {mu : Obj → Bool} (h : w.ownsRow base e z v n xs) (hB : B ≤ base) (hm : ∀ c f, mu (.cells c e f) = true) : ∀ k, v.ownBlock = some k → B ≤ k ∧ (∀ o, w.heap[k]? = some o → mu o = true) := by
  intro k hk
  rcases h.2 with ⟨hv, _⟩ | ⟨g, c, cur, hv, hb, hg, _⟩
  · rw [hv] at hk; cases hk
  · rw [hv] at hk
    simp only [Value.ownBlock, Option.some.injEq] at hk
    subst hk
    exact ⟨by omega, fun o ho => by rw [hg] at ho; cases ho; exact hm _ _⟩

set_option maxRecDepth 100000 in
set_option maxHeartbeats 8000000 in
theorem rput_new (B : Nat) (w : World) (rb : Nat) (A : Option Addr) (cap : Nat) (max : Nat) (l : List Rc) (x : Id3) (h : RAt B w rb A cap max l) (hl : l.length ≤ 1000000) (hx : rix l x = -1) (A0 : Option Addr) (c0 : Nat) (rows : List Rw) (hr : Rd w B 58 2 A0 rows.length (rwsC rows)) (hrl : rows.length ≤ 1000) (hu : usedR l ≤ max) (hmx : max ≤ 1048576) :
    Calls Tryd.prog 21 #[.pointer (some ⟨rb, 0, none⟩), idV x, .slice A0 rows.length c0] w (RPutPost B w rb max l x rows) := by
  have hat := at_c B (w.alloc (.cells #[.int .i64 x.b, .int .i64 x.s, .int .i64 x.p] 24)) rb A cap max l x (h.alloc _) hl
  rw [hx] at hat
  have HA := Lib.hid hat
  have HR := Lib.hid h
  have HRo := Lib.hid hr
  have hlt := h.blk.lt
  have hbm := h.bm
  have hpl := pinnedR_le l
  have hrl' : rows.length ≤ 140737488351232 := by omega
  have hszl : szR rows = 8 + 16 * rows.length := rfl
  obtain ⟨S, HS0, HSN, HSS, HSL⟩ : ∃ S : Nat → Nat, Hid (S 0 = szR rows) ∧ Hid (S l.length = szR rows + pinnedR l) ∧ Hid (∀ (j : Nat) (z : Rc), l[j]? = some z → S (j + 1) = S j + if 0 < z.pins then szR z.rows else 0) ∧ Hid (∀ j, S j ≤ szR rows + pinnedR l) :=
    ⟨fun j => szR rows + pinnedR (l.take j), Lib.hid rfl, Lib.hid (by simp only [List.take_length]), Lib.hid (fun j z hz => by simp only [take_succ_of hz, pinnedR_append]; rw [pinnedR_cons]; show _ + (_ + (_ + 0)) = _; omega), Lib.hid (fun j => by
      have h := pinnedR_append (l.take j) (l.drop j)
      rw [List.take_append_drop] at h
      show szR rows + pinnedR (l.take j) ≤ _
      omega)⟩
  clear hat hx h hr
  go_enter Tryd.func21, Tryd.ntmps21
  go_wp2_with (first
    | (go_at_call 45; refine HA.out.mono ?_; rintro e w1 ⟨rfl, hb1⟩; have HB1 := Lib.hid (ext_trans (ext_alloc (Below.refl _ _) _) hb1); have HX1 := Lib.hid ((Bk.new w 24 #[.int .i64 x.b, .int .i64 x.s, .int .i64 x.p]).ext hb1); have HR1 := Lib.hid (HR.out.ext HB1.out); have r1 := HR1.out.c1; have r0 := HR1.out.c0; clear hb1)
    | (go_at_call 23; refine (rsize_c _ _ _ _ hrl').mono ?_; rintro e w' ⟨rfl, rfl⟩))
  go_loopg [9, 10] l.length (fun k v9 v10 wr => ∃ j, j + k = l.length ∧ v10 = .int .i64 (j : Nat) ∧ v9 = .int .i64 (S j : Nat) ∧ wr = w1)
  case atStart => exact ⟨0, by simp, rfl, by rw [HS0.out, hszl]; go_num, rfl⟩
  case round =>
    obtain ⟨j, hk, rfl, rfl, rfl⟩ := hrel
    by_cases hj : j < l.length
    · have hz : l[j]? = some (l[j]) := List.getElem?_eq_getElem hj
      generalize l[j] = z at hz
      obtain ⟨ad, rfl, d0, d1, d2, d3, d4⟩ := (Rd.of_own (B := B) HR1.out.own).rcs hz hj
      have hsum := HSS.out j z hz
      have hle := HSL.out (j + 1)
      have hszz : szR z.rows = 8 + 16 * z.rows.length := rfl
      by_cases hp : 0 < z.pins
      · have hp' : (0 : Int) < ((z.pins : Nat) : Int) := by omega
        rw [if_pos hp] at hsum
        have hzl : z.rows.length ≤ 140737488351232 := by omega
        have hW2 : wrap64 ((S j : Int) + (8 + 16 * (z.rows.length : Int))) = (S (j + 1) : Nat) := by rw [show ((S j : Int) + (8 + 16 * (z.rows.length : Int))) = (S (j + 1) : Nat) by omega]; exact IntWalk.wrap64_in _ (by omega)
        clear hz hsum hle hszz
        go_wp2_with (first | (go_at_call 23; refine (rsize_c _ _ _ _ hzl).mono ?_; rintro e w' ⟨rfl, rfl⟩))
        go_roundg (gk - 1)
        case measure => omega
        case rel => exact ⟨j + 1, by omega, by go_num, by first | rfl | exact congrArg _ hW2, rfl⟩
      · have hp' : ¬ (0 : Int) < ((z.pins : Nat) : Int) := by omega
        rw [if_neg hp] at hsum
        have HSM := Lib.hid hsum
        clear hz hsum hle hszz
        go_wp2_with fail
        go_roundg (gk - 1)
        case measure => omega
        case rel => exact ⟨j + 1, by omega, by go_num, by rw [HSM.out]; rfl, rfl⟩
    · have hjl : j = l.length := by omega
      subst hjl
      rw [HSN.out]
      by_cases hfit : max < szR rows + pinnedR l
      · have hT : (max : Int) < ((szR rows + pinnedR l : Nat) : Int) := by omega
        have HF := Lib.hid hfit
        clear hszl hfit
        go_wp2_with fail
        go_ret
        exact ⟨fun _ => ⟨rfl, HB1.out⟩, fun h => absurd HF.out (by omega)⟩
      · have hT : ¬ (max : Int) < ((szR rows + pinnedR l : Nat) : Int) := by omega
        have HF := Lib.hid (show szR rows + pinnedR l ≤ max by omega)
        clear hfit
        go_wp2_with fail
        go_loopg [11] l.length (fun k v11 wr => ∃ A1 cap1 lc, k = List.length lc ∧ RAt B wr rb A1 cap1 max lc ∧ Hid (∀ r, Rev max (szR rows) lc r → Rev max (szR rows) l r) ∧ Hid (pinnedR lc = pinnedR l) ∧ usedR lc ≤ usedR l ∧ List.length lc ≤ l.length ∧ Bk wr w.heap.size 24 #[.int .i64 x.b, .int .i64 x.s, .int .i64 x.p] ∧ Rd wr B 58 2 A0 rows.length (rwsC rows) ∧ Chg muS B w wr)
        case atStart => exact ⟨A, cap, l, rfl, HR1.out, Lib.hid (fun _ h => h), Lib.hid rfl, Nat.le_refl _, Nat.le_refl _, HX1.out, HRo.out.ext HB1.out, Chg.of_below HB1.out⟩
        case round =>
          obtain ⟨A1, cap1, lc, hk, hR, hrev, hpn, hus, hlc, hX, hRr, hC⟩ := hrel
          obtain ⟨wo, rfl⟩ : ∃ wo : World, wo = wr := ⟨_, rfl⟩
          have HRc := Lib.hid hR
          have HXc := Lib.hid hX
          have HRr := Lib.hid hRr
          have HCc := Lib.hid hC
          have s0 := hR.c0
          have hlt2 := hR.blk.lt
          have HK := Lib.hid hk
          clear hR hX hRr hC hk r0 r1
          by_cases hfit2 : usedR lc + szR rows ≤ max
          · have hW : IntKind.i64.wrap ((usedR lc : Int) + (8 + 16 * (rows.length : Int))) = (usedR lc : Int) + (8 + 16 * (rows.length : Int)) := IntWalk.i64_in _ (by omega)
            have hT2 : decide ((max : Int) < (usedR lc : Int) + (8 + 16 * (rows.length : Int))) = false := by simp; omega
            have hT3 : (usedR lc : Int) + (8 + 16 * (rows.length : Int)) ≤ (max : Int) := by omega
            have HFit := Lib.hid hfit2
            clear hfit2
            go_wp2_with fail
            go_region_held3 (fun w' => w'.cell? ⟨rb, 0, none⟩ = some (.int .i64 (max : Int))) (first | go_keep)
              (first | (go_at_call 32; refine (rused_c B _ rb A1 cap1 max lc (HRc.out.drewN 1) (by omega) (by show usedR lc ≤ _; omega)).mono ?_; rw [show usedT (lc.map rcT) = usedR lc from rfl]; rintro e w4 ⟨rfl, hb4⟩; have HB4 := Lib.hid (show Below wo.heap.size wo w4 from ext_trans (Below.refl _ _).drew hb4); have hm4 : w4.cell? ⟨rb, 0, none⟩ = some (.int .i64 (max : Int)) := (HRc.out.ext HB4.out).c0))
            have HR4 := Lib.hid (HRc.out.ext HB4.out)
            have HX4 := Lib.hid (HXc.out.ext HB4.out)
            have HRr4 := Lib.hid (HRr.out.ext HB4.out)
            have HC4 := Lib.hid ((HCc.out.weak muS_R (Nat.le_refl _)).trans (Chg.of_below HB4.out))
            have x4 := HX4.out.cell
            have m4 := HR4.out.c1
            have hxl := HX4.out.lt
            have hrl4 := HR4.out.blk.lt
            have hs4 := HC4.out.size
            have hne1 : rb ≠ w.heap.size := by omega
            have hne2 : w.heap.size ≠ rb := by omega
            have HRr4d := Lib.hid (show Rd w4.drew B 58 2 A0 rows.length (rwsC rows) from HRr4.out.drew)
            go_upto_region 20 with fail
            refine wp_region_held_drew (S := (fun w' => w'.cell? ⟨w.heap.size, 0, none⟩ = some (.int .i64 x.b) ∧ w'.cell? ⟨w.heap.size, 1, none⟩ = some (.int .i64 x.s) ∧ w'.cell? ⟨w.heap.size, 2, none⟩ = some (.int .i64 x.p))) (by kernel_rfl) ?_ (fun hHeld => ?_)
            · (first | go_keep)
            refine wpAnyH_take (i := 0) (oi := { dst := some 83, op := Go.Op.move (Go.Operand.tmp 0), type := 52, pos := "ref.go:79", after := #[], guard := none }) (v := ?v0) rfl (by kernel_rfl) (by kernel_rfl) (by kernel_rfl) (fun _ _ _ h => h) (Or.inl ⟨by rfl, ?hy0⟩) (by assumption) ?rest0
            case hy0 => (intro w hSw; (try dsimp only at hSw); go_simp; try (with_reducible rfl))
            simp only [Act.put, List.setIfInBounds_toArray, List.set_cons_zero, List.set_cons_succ]
            refine wpAnyH_take (i := 1) (oi := { dst := some 84, op := Go.Op.move (Go.Operand.tmp 0), type := 52, pos := "ref.go:79", after := #[], guard := none }) (v := ?v1) rfl (by kernel_rfl) (by kernel_rfl) (by kernel_rfl) (fun _ _ _ h => h) (Or.inl ⟨by rfl, ?hy1⟩) (by assumption) ?rest1
            case hy1 => (intro w hSw; (try dsimp only at hSw); go_simp; try (with_reducible rfl))
            simp only [Act.put, List.setIfInBounds_toArray, List.set_cons_zero, List.set_cons_succ]
            refine wpAnyH_take (i := 2) (oi := { dst := some 85, op := Go.Op.nilCheck (Go.Operand.tmp 84), type := 0, pos := "ref.go:79", after := #[{ on := 1, ground := Go.Ground.data }], guard := none }) (v := ?v2) rfl (by kernel_rfl) (by kernel_rfl) (by kernel_rfl) (fun _ _ _ h => h) (Or.inl ⟨by rfl, ?hy2⟩) (by assumption) ?rest2
            case hy2 => (intro w hSw; (try dsimp only at hSw); go_simp; try (with_reducible rfl))
            simp only [Act.put, List.setIfInBounds_toArray, List.set_cons_zero, List.set_cons_succ]
            refine wpAnyH_take (i := 3) (oi := { dst := some 86, op := Go.Op.fieldAddr 55 (Go.Operand.tmp 85) 1, type := 0, pos := "ref.go:79", after := #[{ on := 2, ground := Go.Ground.data }], guard := none }) (v := ?v3) rfl (by kernel_rfl) (by kernel_rfl) (by kernel_rfl) (fun _ _ _ h => h) (Or.inl ⟨by rfl, ?hy3⟩) (by assumption) ?rest3
            case hy3 => (intro w hSw; (try dsimp only at hSw); go_simp; try (with_reducible rfl))
            simp only [Act.put, List.setIfInBounds_toArray, List.set_cons_zero, List.set_cons_succ]
            refine wpAnyH_take (i := 5) (oi := { dst := some 88, op := Go.Op.load 24 (Go.Operand.tmp 4), type := 24, pos := "ref.go:79", after := #[], guard := none }) (v := ?v5) rfl (by kernel_rfl) (by kernel_rfl) (by kernel_rfl) (fun _ _ _ h => h) (Or.inl ⟨by rfl, ?hy5⟩) (by assumption) ?rest5
            case hy5 => (intro w hSw; (try dsimp only at hSw); go_simp; try (with_reducible rfl))
            simp only [Act.put, List.setIfInBounds_toArray, List.set_cons_zero, List.set_cons_succ]
            refine wpAnyH_take (i := 6) (oi := { dst := some 89, op := Go.Op.move (Go.Operand.tmp 12), type := 25, pos := "ref.go:79", after := #[], guard := none }) (v := ?v6) rfl (by kernel_rfl) (by kernel_rfl) (by kernel_rfl) (fun _ _ _ h => h) (Or.inl ⟨by rfl, ?hy6⟩) (by assumption) ?rest6
            case hy6 => (intro w hSw; (try dsimp only at hSw); go_simp; try (with_reducible rfl))
            simp only [Act.put, List.setIfInBounds_toArray, List.set_cons_zero, List.set_cons_succ]
            refine wpAnyH_take (i := 7) (oi := { dst := some 90, op := Go.Op.move (Go.Operand.tmp 2), type := 25, pos := "ref.go:79", after := #[], guard := none }) (v := ?v7) rfl (by kernel_rfl) (by kernel_rfl) (by kernel_rfl) (fun _ _ _ h => h) (Or.inl ⟨by rfl, ?hy7⟩) (by assumption) ?rest7
            case hy7 => (intro w hSw; (try dsimp only at hSw); go_simp; try (with_reducible rfl))
            simp only [Act.put, List.setIfInBounds_toArray, List.set_cons_zero, List.set_cons_succ]
            refine wpAnyH_ready (rs := [4, 8]) (by kernel_rfl) (by simp) ?_
            refine AllReadyH.cons (o := { dst := some 87, op := Go.Op.load 53 (Go.Operand.tmp 86), type := 53, pos := "ref.go:79", after := #[{ on := 3, ground := Go.Ground.data }], guard := none }) rfl (fun K hK => ?_) ?_
            ·
              go_simp
              refine hK.out _ _ ?_ (fun hHeld => ?_)
              · (first | go_keep)
              clear hK K
              try simp only [Act.put, List.setIfInBounds_toArray, List.set_cons_zero, List.set_cons_succ]
              refine wpAnyH_ready (rs := [8]) (by kernel_rfl) (by simp) ?_
              refine AllReadyH.cons (o := { dst := some 91, op := Go.Op.call { callee := Go.Callee.builtin Go.Builtin.append, args := #[Go.Operand.tmp 89, Go.Operand.tmp 90], argTypes := #[25, 25] }, type := 25, pos := "ref.go:79", after := #[{ on := 6, ground := Go.Ground.data }, { on := 7, ground := Go.Ground.data }], guard := none }) rfl (fun K hK => ?_) ?_
              ·
                refine step_appR row_app _ rfl (.tmp 89) (.tmp 90) rfl w4.heap.size _ [] (by rfl) (World.ownsRow_nil _ _ _ _) rows B A0 rows.length c0 (by rfl) rfl HRr4d.out (by simp; omega) (by simp) ?_
                intro A5 n5 w5 hown5 hg5 hc5
                have HO5 := Lib.hid (show w5.ownsRow w4.heap.size 58 2 (.slice A5 rows.length n5) rows.length (rwsC rows) from hown5)
                have HG5 := Lib.hid (show Below w4.heap.size w4 w5 from (Below.refl _ _).drew.grown hg5 (Nat.le_refl _) (fun k hk => by cases hk))
                have HR5 := Lib.hid (HR4.out.ext HG5.out)
                have HX5 := Lib.hid (HX4.out.ext HG5.out)
                have x5 := HX5.out.cell
                have m5 := HR5.out.c1
                have hs5 := HG5.out.size
                have hxl5 := HX5.out.lt
                have hrl5 := HR5.out.blk.lt
                have hn1 : w.heap.size ≠ w5.heap.size := by omega
                have hn2 : rb ≠ w5.heap.size := by omega
                clear hown5 hg5
                refine hK.out _ _ ?_ (fun hHeld => ?_)
                · (first | go_keep)
                clear hK K
                try simp only [Act.put, List.setIfInBounds_toArray, List.set_cons_zero, List.set_cons_succ]
                refine wpAnyH_take (i := 9) (oi := { dst := some 92, op := Go.Op.build 47 #[(0, Go.Operand.tmp 88), (1, Go.Operand.tmp 91)], type := 47, pos := "ref.go:79", after := #[{ on := 5, ground := Go.Ground.data }, { on := 8, ground := Go.Ground.data }], guard := none }) (v := ?v9) rfl (by kernel_rfl) (by kernel_rfl) (by kernel_rfl) (fun _ _ _ h => h) (Or.inl ⟨by rfl, ?hy9⟩) (by assumption) ?rest9
                case hy9 => (intro w hSw; (try dsimp only at hSw); go_simp; try (with_reducible rfl))
                simp only [Act.put, List.setIfInBounds_toArray, List.set_cons_zero, List.set_cons_succ]
                refine wpAnyH_take (i := 10) (oi := { dst := some 93, op := Go.Op.build 78 #[(0, Go.Operand.tmp 92)], type := 78, pos := "ref.go:79", after := #[{ on := 9, ground := Go.Ground.data }], guard := none }) (v := ?v10) rfl (by kernel_rfl) (by kernel_rfl) (by kernel_rfl) (fun _ _ _ h => h) (Or.inl ⟨by rfl, ?hy10⟩) (by assumption) ?rest10
                case hy10 => (intro w hSw; (try dsimp only at hSw); go_simp; try (with_reducible rfl))
                simp only [Act.put, List.setIfInBounds_toArray, List.set_cons_zero, List.set_cons_succ]
                refine wpAnyH_ready (rs := [11]) (by kernel_rfl) (by simp) ?_
                refine AllReadyH.cons (o := { dst := some 94, op := Go.Op.buildSlice 53 1 #[(0, Go.Operand.tmp 93)], type := 53, pos := "ref.go:79", after := #[{ on := 10, ground := Go.Ground.data }], guard := none }) rfl (fun K hK => ?_) ?_
                ·
                  go_simp
                  refine hK.out _ _ ?_ (fun hHeld => ?_)
                  · (first | go_keep)
                  clear hK K
                  try simp only [Act.put, List.setIfInBounds_toArray, List.set_cons_zero, List.set_cons_succ]
                  refine wpAnyH_ready (rs := [12]) (by kernel_rfl) (by simp) ?_
                  refine AllReadyH.cons (o := { dst := some 95, op := Go.Op.call { callee := Go.Callee.builtin Go.Builtin.append, args := #[Go.Operand.tmp 87, Go.Operand.tmp 94], argTypes := #[53, 53] }, type := 53, pos := "ref.go:79", after := #[{ on := 4, ground := Go.Ground.data }, { on := 11, ground := Go.Ground.data }, { on := 8, ground := Go.Ground.chain }], guard := none }) rfl (fun K hK => ?_) ?_
                  ·
                    refine step_appE rc_app _ rfl (.tmp 87) (.tmp 94) rfl B _ lc (by rfl) (HR5.out.own.alloc _) ⟨x, A5, n5, rows, 0⟩ _ (by rfl) (Bk.new _ _ _) (by omega) (by simp; omega) ?_
                    intro A6 c6 w6 hown6 hg6 hc6
                    have hOA := HR5.out.own.alloc (.cells (rcC ⟨x, A5, n5, rows, 0⟩).toArray 78)
                    have HKB := Lib.hid (keepBut_own (B := B) hOA (Nat.le_refl _) hg6)
                    have HX6 := Lib.hid (HKB.out.bk (HX5.out.alloc (.cells (rcC ⟨x, A5, n5, rows, 0⟩).toArray 78)) (by decide))
                    have HR6b := Lib.hid (HKB.out.bk (HR5.out.blk.alloc (.cells (rcC ⟨x, A5, n5, rows, 0⟩).toArray 78)) (by decide))
                    have x6 := HX6.out.cell
                    have e1 : w6.frozen? ⟨rb, 1, none⟩ = false := HR6b.out.frozen 1
                    have e2 : w6.cell? ⟨rb, 1, none⟩ = some (.slice A1 lc.length cap1) := (by rw [HR6b.out.cell]; rfl)
                    have HC6 := Lib.hid (((HC4.out.trans (Chg.of_below HG5.out)).alloc (.cells (rcC ⟨x, A5, n5, rows, 0⟩).toArray 78)).grown hg6 (own_mu hOA (Nat.le_refl _) (fun _ _ => rfl)))
                    have HO6 := Lib.hid hown6
                    clear hown6 hg6 hOA
                    refine hK.out _ _ ?_ (fun hHeld => ?_)
                    · (first | go_keep)
                    clear hK K
                    try simp only [Act.put, List.setIfInBounds_toArray, List.set_cons_zero, List.set_cons_succ]
                    refine wpAnyH_take (i := 13) (oi := { dst := some 96, op := Go.Op.nilCheck (Go.Operand.tmp 83), type := 0, pos := "ref.go:79", after := #[{ on := 0, ground := Go.Ground.data }, { on := 0, ground := Go.Ground.phase }, { on := 1, ground := Go.Ground.phase }, { on := 2, ground := Go.Ground.phase }, { on := 3, ground := Go.Ground.phase }, { on := 4, ground := Go.Ground.phase }, { on := 5, ground := Go.Ground.phase }, { on := 6, ground := Go.Ground.phase }, { on := 7, ground := Go.Ground.phase }, { on := 8, ground := Go.Ground.phase }, { on := 9, ground := Go.Ground.phase }, { on := 10, ground := Go.Ground.phase }, { on := 11, ground := Go.Ground.phase }, { on := 12, ground := Go.Ground.phase }], guard := none }) (v := ?v13) rfl (by kernel_rfl) (by kernel_rfl) (by kernel_rfl) (fun _ _ _ h => h) (Or.inl ⟨by rfl, ?hy13⟩) (by assumption) ?rest13
                    case hy13 => (intro w hSw; (try dsimp only at hSw); go_simp; try (with_reducible rfl))
                    simp only [Act.put, List.setIfInBounds_toArray, List.set_cons_zero, List.set_cons_succ]
                    refine wpAnyH_take (i := 14) (oi := { dst := some 97, op := Go.Op.fieldAddr 55 (Go.Operand.tmp 96) 1, type := 0, pos := "ref.go:79", after := #[{ on := 13, ground := Go.Ground.data }, { on := 0, ground := Go.Ground.phase }, { on := 1, ground := Go.Ground.phase }, { on := 2, ground := Go.Ground.phase }, { on := 3, ground := Go.Ground.phase }, { on := 4, ground := Go.Ground.phase }, { on := 5, ground := Go.Ground.phase }, { on := 6, ground := Go.Ground.phase }, { on := 7, ground := Go.Ground.phase }, { on := 8, ground := Go.Ground.phase }, { on := 9, ground := Go.Ground.phase }, { on := 10, ground := Go.Ground.phase }, { on := 11, ground := Go.Ground.phase }, { on := 12, ground := Go.Ground.phase }], guard := none }) (v := ?v14) rfl (by kernel_rfl) (by kernel_rfl) (by kernel_rfl) (fun _ _ _ h => h) (Or.inl ⟨by rfl, ?hy14⟩) (by assumption) ?rest14
                    case hy14 => (intro w hSw; (try dsimp only at hSw); go_simp; try (with_reducible rfl))
                    simp only [Act.put, List.setIfInBounds_toArray, List.set_cons_zero, List.set_cons_succ]
                    refine wpAnyH_ready (rs := [15]) (by kernel_rfl) (by simp) ?_
                    refine AllReadyH.cons (o := { dst := none, op := Go.Op.store 53 (Go.Operand.tmp 97) (Go.Operand.tmp 95), type := 0, pos := "ref.go:79", after := #[{ on := 14, ground := Go.Ground.data }, { on := 12, ground := Go.Ground.data }, { on := 12, ground := Go.Ground.chain }, { on := 0, ground := Go.Ground.phase }, { on := 1, ground := Go.Ground.phase }, { on := 2, ground := Go.Ground.phase }, { on := 3, ground := Go.Ground.phase }, { on := 4, ground := Go.Ground.phase }, { on := 5, ground := Go.Ground.phase }, { on := 6, ground := Go.Ground.phase }, { on := 7, ground := Go.Ground.phase }, { on := 8, ground := Go.Ground.phase }, { on := 9, ground := Go.Ground.phase }, { on := 10, ground := Go.Ground.phase }, { on := 11, ground := Go.Ground.phase }, { on := 12, ground := Go.Ground.phase }], guard := none }) rfl (fun K hK => ?_) ?_
                    ·
                      go_simp
                      refine hK.out _ _ ?_ (fun hHeld => ?_)
                      · (first | go_keep)
                      clear hK K
                      try simp only [Act.put, List.setIfInBounds_toArray, List.set_cons_zero, List.set_cons_succ]
                      refine wpAnyH_done (by kernel_rfl) ?_ _
                      go_wp2_with fail
                      go_ret
                      have hO6 : w6.ownsRow B 78 5 (.slice A6 (lc ++ [(⟨x, A5, n5, rows, 0⟩ : Rc)]).length c6) (lc ++ [(⟨x, A5, n5, rows, 0⟩ : Rc)]).length (rcsC (lc ++ [(⟨x, A5, n5, rows, 0⟩ : Rc)])) := HO6.out
                      rw [show lc.length + 1 = (lc ++ [(⟨x, A5, n5, rows, 0⟩ : Rc)]).length by simp]
                      refine ⟨fun h => absurd h (by have := HF.out; omega), fun _ => ⟨rfl, ⟨lc, ⟨x, A5, n5, rows, 0⟩, A6, c6, hrev.out lc (Rev.stop lc HFit.out), rfl, rfl, rfl, fun g hg => Off.of_own HO5.out (by omega), ⟨hbm, HR6b.out.set_ 1 _, own_far HR6b.out hO6 (by decide) _ _, fun c hc => ?_⟩⟩, HC6.out.set_ (p := ⟨rb, 1, none⟩) HR6b.out rfl hbm _⟩⟩
                      rcases List.mem_append.1 hc with h1 | h1
                      · exact (HKB.out.rd ((HR5.out.rows c h1).alloc _) (by decide)).farBk (p := ⟨rb, 1, none⟩) hbm HR6b.out (by decide) _
                      · rw [List.mem_singleton] at h1
                        subst h1
                        exact (HKB.out.rd ((Rd.of_own HO5.out).alloc _) (by decide)).farBk (p := ⟨rb, 1, none⟩) hbm HR6b.out (by decide) _
                    exact AllReadyH.nil
                  exact AllReadyH.nil
                exact AllReadyH.nil
              exact AllReadyH.nil
            refine AllReadyH.cons (o := { dst := some 91, op := Go.Op.call { callee := Go.Callee.builtin Go.Builtin.append, args := #[Go.Operand.tmp 89, Go.Operand.tmp 90], argTypes := #[25, 25] }, type := 25, pos := "ref.go:79", after := #[{ on := 6, ground := Go.Ground.data }, { on := 7, ground := Go.Ground.data }], guard := none }) rfl (fun K hK => ?_) ?_
            ·
              refine step_appR row_app _ rfl (.tmp 89) (.tmp 90) rfl w4.heap.size _ [] (by rfl) (World.ownsRow_nil _ _ _ _) rows B A0 rows.length c0 (by rfl) rfl HRr4d.out (by simp; omega) (by simp) ?_
              intro A5 n5 w5 hown5 hg5 hc5
              have HO5 := Lib.hid (show w5.ownsRow w4.heap.size 58 2 (.slice A5 rows.length n5) rows.length (rwsC rows) from hown5)
              have HG5 := Lib.hid (show Below w4.heap.size w4 w5 from (Below.refl _ _).drew.grown hg5 (Nat.le_refl _) (fun k hk => by cases hk))
              have HR5 := Lib.hid (HR4.out.ext HG5.out)
              have HX5 := Lib.hid (HX4.out.ext HG5.out)
              have x5 := HX5.out.cell
              have m5 := HR5.out.c1
              have hs5 := HG5.out.size
              have hxl5 := HX5.out.lt
              have hrl5 := HR5.out.blk.lt
              have hn1 : w.heap.size ≠ w5.heap.size := by omega
              have hn2 : rb ≠ w5.heap.size := by omega
              clear hown5 hg5
              refine hK.out _ _ ?_ (fun hHeld => ?_)
              · (first | go_keep)
              clear hK K
              try simp only [Act.put, List.setIfInBounds_toArray, List.set_cons_zero, List.set_cons_succ]
              refine wpAnyH_take (i := 9) (oi := { dst := some 92, op := Go.Op.build 47 #[(0, Go.Operand.tmp 88), (1, Go.Operand.tmp 91)], type := 47, pos := "ref.go:79", after := #[{ on := 5, ground := Go.Ground.data }, { on := 8, ground := Go.Ground.data }], guard := none }) (v := ?v9x1) rfl (by kernel_rfl) (by kernel_rfl) (by kernel_rfl) (fun _ _ _ h => h) (Or.inl ⟨by rfl, ?hy9x1⟩) (by assumption) ?rest9x1
              case hy9x1 => (intro w hSw; (try dsimp only at hSw); go_simp; try (with_reducible rfl))
              simp only [Act.put, List.setIfInBounds_toArray, List.set_cons_zero, List.set_cons_succ]
              refine wpAnyH_take (i := 10) (oi := { dst := some 93, op := Go.Op.build 78 #[(0, Go.Operand.tmp 92)], type := 78, pos := "ref.go:79", after := #[{ on := 9, ground := Go.Ground.data }], guard := none }) (v := ?v10x1) rfl (by kernel_rfl) (by kernel_rfl) (by kernel_rfl) (fun _ _ _ h => h) (Or.inl ⟨by rfl, ?hy10x1⟩) (by assumption) ?rest10x1
              case hy10x1 => (intro w hSw; (try dsimp only at hSw); go_simp; try (with_reducible rfl))
              simp only [Act.put, List.setIfInBounds_toArray, List.set_cons_zero, List.set_cons_succ]
              refine wpAnyH_ready (rs := [4, 11]) (by kernel_rfl) (by simp) ?_
              refine AllReadyH.cons (o := { dst := some 87, op := Go.Op.load 53 (Go.Operand.tmp 86), type := 53, pos := "ref.go:79", after := #[{ on := 3, ground := Go.Ground.data }], guard := none }) rfl (fun K hK => ?_) ?_
              ·
                go_simp
                refine hK.out _ _ ?_ (fun hHeld => ?_)
                · (first | go_keep)
                clear hK K
                try simp only [Act.put, List.setIfInBounds_toArray, List.set_cons_zero, List.set_cons_succ]
                refine wpAnyH_ready (rs := [11]) (by kernel_rfl) (by simp) ?_
                refine AllReadyH.cons (o := { dst := some 94, op := Go.Op.buildSlice 53 1 #[(0, Go.Operand.tmp 93)], type := 53, pos := "ref.go:79", after := #[{ on := 10, ground := Go.Ground.data }], guard := none }) rfl (fun K hK => ?_) ?_
                ·
                  go_simp
                  refine hK.out _ _ ?_ (fun hHeld => ?_)
                  · (first | go_keep)
                  clear hK K
                  try simp only [Act.put, List.setIfInBounds_toArray, List.set_cons_zero, List.set_cons_succ]
                  refine wpAnyH_ready (rs := [12]) (by kernel_rfl) (by simp) ?_
                  refine AllReadyH.cons (o := { dst := some 95, op := Go.Op.call { callee := Go.Callee.builtin Go.Builtin.append, args := #[Go.Operand.tmp 87, Go.Operand.tmp 94], argTypes := #[53, 53] }, type := 53, pos := "ref.go:79", after := #[{ on := 4, ground := Go.Ground.data }, { on := 11, ground := Go.Ground.data }, { on := 8, ground := Go.Ground.chain }], guard := none }) rfl (fun K hK => ?_) ?_
                  ·
                    refine step_appE rc_app _ rfl (.tmp 87) (.tmp 94) rfl B _ lc (by rfl) (HR5.out.own.alloc _) ⟨x, A5, n5, rows, 0⟩ _ (by rfl) (Bk.new _ _ _) (by omega) (by simp; omega) ?_
                    intro A6 c6 w6 hown6 hg6 hc6
                    have hOA := HR5.out.own.alloc (.cells (rcC ⟨x, A5, n5, rows, 0⟩).toArray 78)
                    have HKB := Lib.hid (keepBut_own (B := B) hOA (Nat.le_refl _) hg6)
                    have HX6 := Lib.hid (HKB.out.bk (HX5.out.alloc (.cells (rcC ⟨x, A5, n5, rows, 0⟩).toArray 78)) (by decide))
                    have HR6b := Lib.hid (HKB.out.bk (HR5.out.blk.alloc (.cells (rcC ⟨x, A5, n5, rows, 0⟩).toArray 78)) (by decide))
                    have x6 := HX6.out.cell
                    have e1 : w6.frozen? ⟨rb, 1, none⟩ = false := HR6b.out.frozen 1
                    have e2 : w6.cell? ⟨rb, 1, none⟩ = some (.slice A1 lc.length cap1) := (by rw [HR6b.out.cell]; rfl)
                    have HC6 := Lib.hid (((HC4.out.trans (Chg.of_below HG5.out)).alloc (.cells (rcC ⟨x, A5, n5, rows, 0⟩).toArray 78)).grown hg6 (own_mu hOA (Nat.le_refl _) (fun _ _ => rfl)))
                    have HO6 := Lib.hid hown6
                    clear hown6 hg6 hOA
                    refine hK.out _ _ ?_ (fun hHeld => ?_)
                    · (first | go_keep)
                    clear hK K
                    try simp only [Act.put, List.setIfInBounds_toArray, List.set_cons_zero, List.set_cons_succ]
                    refine wpAnyH_take (i := 13) (oi := { dst := some 96, op := Go.Op.nilCheck (Go.Operand.tmp 83), type := 0, pos := "ref.go:79", after := #[{ on := 0, ground := Go.Ground.data }, { on := 0, ground := Go.Ground.phase }, { on := 1, ground := Go.Ground.phase }, { on := 2, ground := Go.Ground.phase }, { on := 3, ground := Go.Ground.phase }, { on := 4, ground := Go.Ground.phase }, { on := 5, ground := Go.Ground.phase }, { on := 6, ground := Go.Ground.phase }, { on := 7, ground := Go.Ground.phase }, { on := 8, ground := Go.Ground.phase }, { on := 9, ground := Go.Ground.phase }, { on := 10, ground := Go.Ground.phase }, { on := 11, ground := Go.Ground.phase }, { on := 12, ground := Go.Ground.phase }], guard := none }) (v := ?v13x1) rfl (by kernel_rfl) (by kernel_rfl) (by kernel_rfl) (fun _ _ _ h => h) (Or.inl ⟨by rfl, ?hy13x1⟩) (by assumption) ?rest13x1
                    case hy13x1 => (intro w hSw; (try dsimp only at hSw); go_simp; try (with_reducible rfl))
                    simp only [Act.put, List.setIfInBounds_toArray, List.set_cons_zero, List.set_cons_succ]
                    refine wpAnyH_take (i := 14) (oi := { dst := some 97, op := Go.Op.fieldAddr 55 (Go.Operand.tmp 96) 1, type := 0, pos := "ref.go:79", after := #[{ on := 13, ground := Go.Ground.data }, { on := 0, ground := Go.Ground.phase }, { on := 1, ground := Go.Ground.phase }, { on := 2, ground := Go.Ground.phase }, { on := 3, ground := Go.Ground.phase }, { on := 4, ground := Go.Ground.phase }, { on := 5, ground := Go.Ground.phase }, { on := 6, ground := Go.Ground.phase }, { on := 7, ground := Go.Ground.phase }, { on := 8, ground := Go.Ground.phase }, { on := 9, ground := Go.Ground.phase }, { on := 10, ground := Go.Ground.phase }, { on := 11, ground := Go.Ground.phase }, { on := 12, ground := Go.Ground.phase }], guard := none }) (v := ?v14x1) rfl (by kernel_rfl) (by kernel_rfl) (by kernel_rfl) (fun _ _ _ h => h) (Or.inl ⟨by rfl, ?hy14x1⟩) (by assumption) ?rest14x1
                    case hy14x1 => (intro w hSw; (try dsimp only at hSw); go_simp; try (with_reducible rfl))
                    simp only [Act.put, List.setIfInBounds_toArray, List.set_cons_zero, List.set_cons_succ]
                    refine wpAnyH_ready (rs := [15]) (by kernel_rfl) (by simp) ?_
                    refine AllReadyH.cons (o := { dst := none, op := Go.Op.store 53 (Go.Operand.tmp 97) (Go.Operand.tmp 95), type := 0, pos := "ref.go:79", after := #[{ on := 14, ground := Go.Ground.data }, { on := 12, ground := Go.Ground.data }, { on := 12, ground := Go.Ground.chain }, { on := 0, ground := Go.Ground.phase }, { on := 1, ground := Go.Ground.phase }, { on := 2, ground := Go.Ground.phase }, { on := 3, ground := Go.Ground.phase }, { on := 4, ground := Go.Ground.phase }, { on := 5, ground := Go.Ground.phase }, { on := 6, ground := Go.Ground.phase }, { on := 7, ground := Go.Ground.phase }, { on := 8, ground := Go.Ground.phase }, { on := 9, ground := Go.Ground.phase }, { on := 10, ground := Go.Ground.phase }, { on := 11, ground := Go.Ground.phase }, { on := 12, ground := Go.Ground.phase }], guard := none }) rfl (fun K hK => ?_) ?_
                    ·
                      go_simp
                      refine hK.out _ _ ?_ (fun hHeld => ?_)
                      · (first | go_keep)
                      clear hK K
                      try simp only [Act.put, List.setIfInBounds_toArray, List.set_cons_zero, List.set_cons_succ]
                      refine wpAnyH_done (by kernel_rfl) ?_ _
                      go_wp2_with fail
                      go_ret
                      have hO6 : w6.ownsRow B 78 5 (.slice A6 (lc ++ [(⟨x, A5, n5, rows, 0⟩ : Rc)]).length c6) (lc ++ [(⟨x, A5, n5, rows, 0⟩ : Rc)]).length (rcsC (lc ++ [(⟨x, A5, n5, rows, 0⟩ : Rc)])) := HO6.out
                      rw [show lc.length + 1 = (lc ++ [(⟨x, A5, n5, rows, 0⟩ : Rc)]).length by simp]
                      refine ⟨fun h => absurd h (by have := HF.out; omega), fun _ => ⟨rfl, ⟨lc, ⟨x, A5, n5, rows, 0⟩, A6, c6, hrev.out lc (Rev.stop lc HFit.out), rfl, rfl, rfl, fun g hg => Off.of_own HO5.out (by omega), ⟨hbm, HR6b.out.set_ 1 _, own_far HR6b.out hO6 (by decide) _ _, fun c hc => ?_⟩⟩, HC6.out.set_ (p := ⟨rb, 1, none⟩) HR6b.out rfl hbm _⟩⟩
                      rcases List.mem_append.1 hc with h1 | h1
                      · exact (HKB.out.rd ((HR5.out.rows c h1).alloc _) (by decide)).farBk (p := ⟨rb, 1, none⟩) hbm HR6b.out (by decide) _
                      · rw [List.mem_singleton] at h1
                        subst h1
                        exact (HKB.out.rd ((Rd.of_own HO5.out).alloc _) (by decide)).farBk (p := ⟨rb, 1, none⟩) hbm HR6b.out (by decide) _
                    exact AllReadyH.nil
                  exact AllReadyH.nil
                exact AllReadyH.nil
              refine AllReadyH.cons (o := { dst := some 94, op := Go.Op.buildSlice 53 1 #[(0, Go.Operand.tmp 93)], type := 53, pos := "ref.go:79", after := #[{ on := 10, ground := Go.Ground.data }], guard := none }) rfl (fun K hK => ?_) ?_
              ·
                go_simp
                refine hK.out _ _ ?_ (fun hHeld => ?_)
                · (first | go_keep)
                clear hK K
                try simp only [Act.put, List.setIfInBounds_toArray, List.set_cons_zero, List.set_cons_succ]
                refine wpAnyH_ready (rs := [4]) (by kernel_rfl) (by simp) ?_
                refine AllReadyH.cons (o := { dst := some 87, op := Go.Op.load 53 (Go.Operand.tmp 86), type := 53, pos := "ref.go:79", after := #[{ on := 3, ground := Go.Ground.data }], guard := none }) rfl (fun K hK => ?_) ?_
                ·
                  go_simp
                  refine hK.out _ _ ?_ (fun hHeld => ?_)
                  · (first | go_keep)
                  clear hK K
                  try simp only [Act.put, List.setIfInBounds_toArray, List.set_cons_zero, List.set_cons_succ]
                  refine wpAnyH_ready (rs := [12]) (by kernel_rfl) (by simp) ?_
                  refine AllReadyH.cons (o := { dst := some 95, op := Go.Op.call { callee := Go.Callee.builtin Go.Builtin.append, args := #[Go.Operand.tmp 87, Go.Operand.tmp 94], argTypes := #[53, 53] }, type := 53, pos := "ref.go:79", after := #[{ on := 4, ground := Go.Ground.data }, { on := 11, ground := Go.Ground.data }, { on := 8, ground := Go.Ground.chain }], guard := none }) rfl (fun K hK => ?_) ?_
                  ·
                    refine step_appE rc_app _ rfl (.tmp 87) (.tmp 94) rfl B _ lc (by rfl) (HR5.out.own.alloc _) ⟨x, A5, n5, rows, 0⟩ _ (by rfl) (Bk.new _ _ _) (by omega) (by simp; omega) ?_
                    intro A6 c6 w6 hown6 hg6 hc6
                    have hOA := HR5.out.own.alloc (.cells (rcC ⟨x, A5, n5, rows, 0⟩).toArray 78)
                    have HKB := Lib.hid (keepBut_own (B := B) hOA (Nat.le_refl _) hg6)
                    have HX6 := Lib.hid (HKB.out.bk (HX5.out.alloc (.cells (rcC ⟨x, A5, n5, rows, 0⟩).toArray 78)) (by decide))
                    have HR6b := Lib.hid (HKB.out.bk (HR5.out.blk.alloc (.cells (rcC ⟨x, A5, n5, rows, 0⟩).toArray 78)) (by decide))
                    have x6 := HX6.out.cell
                    have e1 : w6.frozen? ⟨rb, 1, none⟩ = false := HR6b.out.frozen 1
                    have e2 : w6.cell? ⟨rb, 1, none⟩ = some (.slice A1 lc.length cap1) := (by rw [HR6b.out.cell]; rfl)
                    have HC6 := Lib.hid (((HC4.out.trans (Chg.of_below HG5.out)).alloc (.cells (rcC ⟨x, A5, n5, rows, 0⟩).toArray 78)).grown hg6 (own_mu hOA (Nat.le_refl _) (fun _ _ => rfl)))
                    have HO6 := Lib.hid hown6
                    clear hown6 hg6 hOA
                    refine hK.out _ _ ?_ (fun hHeld => ?_)
                    · (first | go_keep)
                    clear hK K
                    try simp only [Act.put, List.setIfInBounds_toArray, List.set_cons_zero, List.set_cons_succ]
                    refine wpAnyH_take (i := 13) (oi := { dst := some 96, op := Go.Op.nilCheck (Go.Operand.tmp 83), type := 0, pos := "ref.go:79", after := #[{ on := 0, ground := Go.Ground.data }, { on := 0, ground := Go.Ground.phase }, { on := 1, ground := Go.Ground.phase }, { on := 2, ground := Go.Ground.phase }, { on := 3, ground := Go.Ground.phase }, { on := 4, ground := Go.Ground.phase }, { on := 5, ground := Go.Ground.phase }, { on := 6, ground := Go.Ground.phase }, { on := 7, ground := Go.Ground.phase }, { on := 8, ground := Go.Ground.phase }, { on := 9, ground := Go.Ground.phase }, { on := 10, ground := Go.Ground.phase }, { on := 11, ground := Go.Ground.phase }, { on := 12, ground := Go.Ground.phase }], guard := none }) (v := ?v13x2) rfl (by kernel_rfl) (by kernel_rfl) (by kernel_rfl) (fun _ _ _ h => h) (Or.inl ⟨by rfl, ?hy13x2⟩) (by assumption) ?rest13x2
                    case hy13x2 => (intro w hSw; (try dsimp only at hSw); go_simp; try (with_reducible rfl))
                    simp only [Act.put, List.setIfInBounds_toArray, List.set_cons_zero, List.set_cons_succ]
                    refine wpAnyH_take (i := 14) (oi := { dst := some 97, op := Go.Op.fieldAddr 55 (Go.Operand.tmp 96) 1, type := 0, pos := "ref.go:79", after := #[{ on := 13, ground := Go.Ground.data }, { on := 0, ground := Go.Ground.phase }, { on := 1, ground := Go.Ground.phase }, { on := 2, ground := Go.Ground.phase }, { on := 3, ground := Go.Ground.phase }, { on := 4, ground := Go.Ground.phase }, { on := 5, ground := Go.Ground.phase }, { on := 6, ground := Go.Ground.phase }, { on := 7, ground := Go.Ground.phase }, { on := 8, ground := Go.Ground.phase }, { on := 9, ground := Go.Ground.phase }, { on := 10, ground := Go.Ground.phase }, { on := 11, ground := Go.Ground.phase }, { on := 12, ground := Go.Ground.phase }], guard := none }) (v := ?v14x2) rfl (by kernel_rfl) (by kernel_rfl) (by kernel_rfl) (fun _ _ _ h => h) (Or.inl ⟨by rfl, ?hy14x2⟩) (by assumption) ?rest14x2
                    case hy14x2 => (intro w hSw; (try dsimp only at hSw); go_simp; try (with_reducible rfl))
                    simp only [Act.put, List.setIfInBounds_toArray, List.set_cons_zero, List.set_cons_succ]
                    refine wpAnyH_ready (rs := [15]) (by kernel_rfl) (by simp) ?_
                    refine AllReadyH.cons (o := { dst := none, op := Go.Op.store 53 (Go.Operand.tmp 97) (Go.Operand.tmp 95), type := 0, pos := "ref.go:79", after := #[{ on := 14, ground := Go.Ground.data }, { on := 12, ground := Go.Ground.data }, { on := 12, ground := Go.Ground.chain }, { on := 0, ground := Go.Ground.phase }, { on := 1, ground := Go.Ground.phase }, { on := 2, ground := Go.Ground.phase }, { on := 3, ground := Go.Ground.phase }, { on := 4, ground := Go.Ground.phase }, { on := 5, ground := Go.Ground.phase }, { on := 6, ground := Go.Ground.phase }, { on := 7, ground := Go.Ground.phase }, { on := 8, ground := Go.Ground.phase }, { on := 9, ground := Go.Ground.phase }, { on := 10, ground := Go.Ground.phase }, { on := 11, ground := Go.Ground.phase }, { on := 12, ground := Go.Ground.phase }], guard := none }) rfl (fun K hK => ?_) ?_
                    ·
                      go_simp
                      refine hK.out _ _ ?_ (fun hHeld => ?_)
                      · (first | go_keep)
                      clear hK K
                      try simp only [Act.put, List.setIfInBounds_toArray, List.set_cons_zero, List.set_cons_succ]
                      refine wpAnyH_done (by kernel_rfl) ?_ _
                      go_wp2_with fail
                      go_ret
                      have hO6 : w6.ownsRow B 78 5 (.slice A6 (lc ++ [(⟨x, A5, n5, rows, 0⟩ : Rc)]).length c6) (lc ++ [(⟨x, A5, n5, rows, 0⟩ : Rc)]).length (rcsC (lc ++ [(⟨x, A5, n5, rows, 0⟩ : Rc)])) := HO6.out
                      rw [show lc.length + 1 = (lc ++ [(⟨x, A5, n5, rows, 0⟩ : Rc)]).length by simp]
                      refine ⟨fun h => absurd h (by have := HF.out; omega), fun _ => ⟨rfl, ⟨lc, ⟨x, A5, n5, rows, 0⟩, A6, c6, hrev.out lc (Rev.stop lc HFit.out), rfl, rfl, rfl, fun g hg => Off.of_own HO5.out (by omega), ⟨hbm, HR6b.out.set_ 1 _, own_far HR6b.out hO6 (by decide) _ _, fun c hc => ?_⟩⟩, HC6.out.set_ (p := ⟨rb, 1, none⟩) HR6b.out rfl hbm _⟩⟩
                      rcases List.mem_append.1 hc with h1 | h1
                      · exact (HKB.out.rd ((HR5.out.rows c h1).alloc _) (by decide)).farBk (p := ⟨rb, 1, none⟩) hbm HR6b.out (by decide) _
                      · rw [List.mem_singleton] at h1
                        subst h1
                        exact (HKB.out.rd ((Rd.of_own HO5.out).alloc _) (by decide)).farBk (p := ⟨rb, 1, none⟩) hbm HR6b.out (by decide) _
                    exact AllReadyH.nil
                  exact AllReadyH.nil
                exact AllReadyH.nil
              exact AllReadyH.nil
            exact AllReadyH.nil
          · have hW : IntKind.i64.wrap ((usedR lc : Int) + (8 + 16 * (rows.length : Int))) = (usedR lc : Int) + (8 + 16 * (rows.length : Int)) := IntWalk.i64_in _ (by omega)
            have hT2 : decide ((max : Int) < (usedR lc : Int) + (8 + 16 * (rows.length : Int))) = true := by simp; omega
            have hT3 : (max : Int) < (usedR lc : Int) + (8 + 16 * (rows.length : Int)) := by omega
            have HFit := Lib.hid hfit2
            clear hfit2
            go_wp2_with fail
            go_region_held3 (fun w' => w'.cell? ⟨rb, 0, none⟩ = some (.int .i64 (max : Int))) (first | go_keep)
              (first | (go_at_call 32; refine (rused_c B _ rb A1 cap1 max lc (HRc.out.drewN 1) (by omega) (by show usedR lc ≤ _; omega)).mono ?_; rw [show usedT (lc.map rcT) = usedR lc from rfl]; rintro e w4 ⟨rfl, hb4⟩; have HB4 := Lib.hid (show Below wo.heap.size wo w4 from ext_trans (Below.refl _ _).drew hb4); have hm4 : w4.cell? ⟨rb, 0, none⟩ = some (.int .i64 (max : Int)) := (HRc.out.ext HB4.out).c0))
            all_goals
              have HR4 := Lib.hid (HRc.out.ext HB4.out)
              have t1 := HR4.out.c1
              go_wp2_with fail
              go_loopg [11] lc.length (fun k v11 wr => ∃ i, i + k = lc.length ∧ v11 = .int .i64 (i : Nat) ∧ Hid (∀ j c, j < i → lc[j]? = some c → 0 < c.pins) ∧ wr = w4)
              case atStart => exact ⟨0, by simp, rfl, Lib.hid (fun j c hj => absurd hj (Nat.not_lt_zero _)), rfl⟩
              case round =>
                obtain ⟨i, hik, rfl, hall, rfl⟩ := hrel
                have hi : i < lc.length := by
                  rcases Nat.lt_or_ge i lc.length with h | h
                  · exact h
                  · exact absurd (all_pinned HFit.out (by rw [hpn.out]; exact HF.out) (fun j c hj => hall.out j c (by omega))) id
                have hz : lc[i]? = some (lc[i]) := List.getElem?_eq_getElem hi
                generalize lc[i] = z at hz
                obtain ⟨ad, rfl, d0, d1, d2, d3, d4⟩ := (Rd.of_own (B := B) HR4.out.own).rcs hz hi
                have HZ := Lib.hid hz
                clear hz
                by_cases hp : 0 < z.pins
                · have hp' : (0 : Int) < ((z.pins : Nat) : Int) := by omega
                  have HP := Lib.hid hp
                  clear hp
                  go_wp2_with fail
                  go_roundg (gk - 1)
                  case measure => omega
                  case rel => exact ⟨i + 1, by omega, by go_num, Lib.hid (fun j c hj hc => by
                    rcases Nat.lt_or_ge j i with h | h
                    · exact hall.out j c h hc
                    · obtain rfl : i = j := by omega
                      rw [HZ.out] at hc
                      cases hc
                      exact HP.out), rfl⟩
                · have hp' : ¬ (0 : Int) < ((z.pins : Nat) : Int) := by omega
                  have HP := Lib.hid (show z.pins = 0 by omega)
                  have hlc' : lc.length ≤ 1000000 := by omega
                  clear hp
                  go_wp2_with (first
                    | (go_at_call 47; refine (take_c B _ rb (some ad) cap1 max lc i HR4.out hlc' hi).mono ?_; rintro e w5 ⟨rfl, ⟨A5, c5, hR5, _⟩, hC5⟩; have HR5 := Lib.hid hR5; have HC5 := Lib.hid (HCc.out.trans ((Chg.of_below HB4.out).trans hC5)); have HC45 := Lib.hid ((Chg.of_below (mu := muS) (B := B) HB4.out).trans hC5); clear hR5 hC5))
                  go_roundg (cut lc i).length
                  case measure => have h1 := cut_len hi; have h2 := HK.out; omega
                  case rel =>
                    exact ⟨A5, c5, cut lc i, rfl, HR5.out, Lib.hid (fun r hr => hrev.out r (Rev.go lc i z r HFit.out HZ.out HP.out hall.out hr)), Lib.hid ((pinnedR_cut HZ.out HP.out).trans hpn.out), Nat.le_trans (usedR_cut HZ.out) hus, by have h1 := cut_len hi; omega, HXc.out.chg HC45.out (.inr rfl), HRr.out.chg HC45.out (fun _ _ => rfl), HC5.out⟩
end Go.Proofs.YtgigdhfdpabmoaaDoor
