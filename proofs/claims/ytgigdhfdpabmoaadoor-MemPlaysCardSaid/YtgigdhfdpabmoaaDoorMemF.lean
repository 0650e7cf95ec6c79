/- Put. -/
import Derived.Test.YtgigdhfdpabmoaaDoorMemE
namespace Go.Proofs.YtgigdhfdpabmoaaDoor
open Go.RowKit
attribute [local go_sem high] id_eqI

def pinnedN (ps : List Pc) : Nat := usedN (ps.filter fun p => decide (0 < p.pins))
theorem pinnedN_append (a b : List Pc) : pinnedN (a ++ b) = pinnedN a + pinnedN b := by simp [pinnedN, usedN_append]
theorem pinnedN_cons (p : Pc) (ps : List Pc) : pinnedN (p :: ps) = (if 0 < p.pins then szR p.rows else 0) + pinnedN ps := by
  by_cases h : 0 < p.pins
  · simp [pinnedN, h, usedN_cons]
  · simp [pinnedN, h]
theorem pinnedN_le (ps : List Pc) : pinnedN ps ≤ usedN ps := by
  induction ps with
  | nil => exact Nat.le_refl _
  | cons p ps ih => rw [pinnedN_cons, usedN_cons]; split <;> omega

/-- Throwing out, oldest first, till so many bytes fit. -/
def evict (max size : Nat) : List Id3 → List Id3 → List Pc → List Id3 × List Pc
  | [], ages, ps => (ages, ps)
  | y :: l, ages, ps =>
    if usedN ps + size ≤ max then (ages, ps)
    else if ((pget ps y).map (·.pins)).getD 0 = 0 then evict max size l (wo ages y) (dropPs ps y)
    else evict max size l ages ps

theorem usedN_drop (ps : List Pc) (y : Id3) : usedN (dropPs ps y) ≤ usedN ps := by
  induction ps with
  | nil => exact Nat.le_refl _
  | cons p ps ih =>
    unfold dropPs at ih ⊢
    rw [List.filter_cons, usedN_cons]
    split
    · rw [usedN_cons]; omega
    · omega
theorem pget_drop_ne {ps : List Pc} {y z : Id3} (h : z ≠ y) : pget (dropPs ps y) z = pget ps z := by
  unfold pget dropPs
  rw [List.find?_filter]
  congr 1
  funext p
  by_cases hz : p.id = z
  · simp [hz, h]
  · simp [hz]
theorem evict_sub (max size : Nat) : ∀ (l ages : List Id3) (ps : List Pc) (p : Pc), p ∈ (evict max size l ages ps).2 → p ∈ ps
  | [], _, _, _, h => h
  | y :: l, ages, ps, p, h => by
    unfold evict at h
    split at h
    · exact h
    · split at h
      · exact (List.mem_filter.1 (evict_sub max size l _ _ p h)).1
      · exact evict_sub max size l _ _ p h
theorem evict_len (max size : Nat) : ∀ (l ages : List Id3) (ps : List Pc), (evict max size l ages ps).1.length ≤ ages.length
  | [], _, _ => Nat.le_refl _
  | y :: l, ages, ps => by
    unfold evict
    split
    · exact Nat.le_refl _
    · split
      · exact Nat.le_trans (evict_len max size l _ _) (wo_len _ _)
      · exact evict_len max size l _ _
theorem pget_none_iff {ps : List Pc} {x : Id3} : pget ps x = none ↔ ∀ p ∈ ps, p.id ≠ x := by
  unfold pget
  rw [List.find?_eq_none]
  simp
theorem mset_new {ps : List Pc} {x : Id3} (h : pget ps x = none) (v : Value) : mset (ps.map fun p => (pcK p, pcV p)) x v = (ps.map fun p => (pcK p, pcV p)) ++ [(x, v)] := by
  unfold mset
  rw [if_neg]
  intro hx
  simp only [List.map_map, List.mem_map, Function.comp_apply] at hx
  obtain ⟨p, hp, he⟩ := hx
  exact pget_none_iff.1 h p hp he
theorem not_mem_drop {ages : List Id3} (hn : ages.Nodup) {i : Nat} {y z : Id3} (hy : ages[i]? = some y) (hz : z ∈ ages.drop (i + 1)) : z ≠ y := by
  rintro rfl
  obtain ⟨j, hj⟩ := List.mem_iff_getElem?.1 hz
  rw [List.getElem?_drop] at hj
  have h1 := List.getElem?_eq_some_iff.1 hy
  have h2 := List.getElem?_eq_some_iff.1 hj
  exact List.pairwise_iff_getElem.1 hn i (i + 1 + j) h1.1 h2.1 (by omega) (h1.2.trans h2.2.symm)

section
variable (B : Nat) (w : World) (mb pb : Nat) (A : Option Addr) (cap : Nat) (max : Nat) (ages : List Id3) (ps : List Pc) (x : Id3)

set_option maxHeartbeats 1000000 in
theorem put_held (h : MemAt B w mb pb A cap max ages ps) (hs : ages.length ≤ 1000000) (hp : (pget ps x).isSome = true) (A0 : Option Addr) (n0 c0 : Nat) :
    Calls Tryd.prog 9 #[.pointer (some ⟨mb, 0, none⟩), idV x, .slice A0 n0 c0] w (MPost B w mb pb max (wo ages x ++ [x]) ps .nilIface) := by
  have hlt := h.blk.lt
  have HM := Lib.hid h
  have HK := Lib.hid hp
  clear h hp
  go_enter Tryd.func9, Tryd.ntmps9
  go_wp2_with (first
    | (go_at_call 11; refine (has_c B _ mb pb A cap max ages ps x (HM.out.alloc _)).mono ?_; rw [HK.out]; rintro e w1 ⟨rfl, hb⟩; have hM1 := (HM.out.alloc (.cells #[.int .i64 x.b, .int .i64 x.s, .int .i64 x.p] 24)).ext hb; have hx1 := (Bk.new w 24 #[.int .i64 x.b, .int .i64 x.s, .int .i64 x.p]).ext hb; have HB1 := Lib.hid hb; clear hb
       have q0 : w1.cell? ⟨w.heap.size, 0, none⟩ = some (.int .i64 x.b) := by rw [hx1.cell]; rfl
       have q1 : w1.cell? ⟨w.heap.size, 1, none⟩ = some (.int .i64 x.s) := by rw [hx1.cell]; rfl
       have q2 : w1.cell? ⟨w.heap.size, 2, none⟩ = some (.int .i64 x.p) := by rw [hx1.cell]; rfl)
    | (go_at_call 39; refine (use_c B _ mb pb A cap max ages ps x hM1 hs).mono ?_; rintro e w2 ⟨rfl, ⟨A2, cap2, hM2⟩, hC2⟩))
  go_ret
  exact ⟨rfl, ⟨_, _, hM2⟩, (Chg.of_below (ext_trans (ext_alloc (Below.refl _ _) _) HB1.out)).trans hC2⟩

/-- A refusal. -/
def PutNo (w : World) (size : Nat) (e : Ending) (w' : World) : Prop := ∃ v, e = .returned v ∧ ErrV w' v size 100 ∧ Below w.heap.size w w'
def PutYes (B : Nat) (w : World) (mb pb : Nat) (max : Nat) (ages : List Id3) (ps : List Pc) (x : Id3) (l : List Rw) (e : Ending) (w' : World) : Prop :=
  e = .returned .nilIface ∧ (∃ A cap q, q.id = x ∧ q.rows = l ∧ q.pins = 0 ∧ MemAt B w' mb pb A cap max (wo ages x ++ [x]) (ps ++ [q])) ∧ Chg muM B w w'

/-- No row of it lies in this block. -/
def Off (g : Nat) (A : Option Addr) (n : Nat) : Prop := 0 < n → ∀ ad, A = some ad → ad.block ≠ g
theorem Off.of_own {W : World} {base e z n c g : Nat} {A : Option Addr} {xs : List Value} (h : W.ownsRow base e z (.slice A n c) n xs) (hg : g < base) : Off g A n := by
  intro h0 ad hA
  rcases h.2 with ⟨_, h1⟩ | ⟨b, c', cur, hv, hb, _⟩
  · omega
  · injection hv with h1
    rw [hA] at h1
    injection h1 with h1
    rw [h1]
    show b ≠ g
    omega
def PutYesF (B : Nat) (w : World) (mb pb : Nat) (max : Nat) (ages : List Id3) (ps : List Pc) (x : Id3) (l : List Rw) (e : Ending) (w' : World) : Prop :=
  e = .returned .nilIface ∧ (∃ A cap q, q.id = x ∧ q.rows = l ∧ q.pins = 0 ∧ (∀ g, g < w.heap.size → Off g q.A q.rows.length) ∧ MemAt B w' mb pb A cap max (wo ages x ++ [x]) (ps ++ [q])) ∧ Chg muM B w w'
def PutPostF (B : Nat) (w : World) (mb pb : Nat) (max : Nat) (ages : List Id3) (ps : List Pc) (x : Id3) (l : List Rw) (e : Ending) (w' : World) : Prop :=
  (max < szR l + pinnedN ps → PutNo w (szR l) e w') ∧
  (szR l + pinnedN ps ≤ max → PutYesF B w mb pb max (evict max (szR l) ages ages ps).1 (evict max (szR l) ages ages ps).2 x l e w')

/-- What a Put of a piece that is not held comes to. -/
def PutPost (B : Nat) (w : World) (mb pb : Nat) (max : Nat) (ages : List Id3) (ps : List Pc) (x : Id3) (l : List Rw) (e : Ending) (w' : World) : Prop :=
  (max < szR l + pinnedN ps → PutNo w (szR l) e w') ∧
  (szR l + pinnedN ps ≤ max → PutYes B w mb pb max (evict max (szR l) ages ages ps).1 (evict max (szR l) ages ages ps).2 x l e w')

set_option maxRecDepth 100000 in
set_option maxHeartbeats 4000000 in
theorem put_newF (h : MemAt B w mb pb A cap max ages ps) (hp : (pget ps x).isSome = false) (A0 : Option Addr) (c0 : Nat) (l : List Rw) (hr : Rd w B 58 2 A0 l.length (rwsC l)) (hl : l.length ≤ 1073741824) (hu : usedN ps ≤ max) (hmx : max ≤ 1048576) (hs : ages.length ≤ 1000000) (hag : ∀ y ∈ ages, (pget ps y).isSome = true) (hnd : ages.Nodup) :
    Calls Tryd.prog 9 #[.pointer (some ⟨mb, 0, none⟩), idV x, .slice A0 l.length c0] w (PutPostF B w mb pb max ages ps x l) := by
  have hlt := h.blk.lt
  have HM := Lib.hid h
  have HK := Lib.hid hp
  have HR := Lib.hid hr
  have hpl := pinnedN_le ps
  clear h hp hr
  go_enter Tryd.func9, Tryd.ntmps9
  go_wp2_with (first
    | (go_at_call 11; refine (has_c B _ mb pb A cap max ages ps x (HM.out.alloc _)).mono ?_; rw [HK.out]; rintro e w1 ⟨rfl, hb⟩; have hM1 := (HM.out.alloc (.cells #[.int .i64 x.b, .int .i64 x.s, .int .i64 x.p] 24)).ext hb; have HX1 := Lib.hid ((Bk.new w 24 #[.int .i64 x.b, .int .i64 x.s, .int .i64 x.p]).ext hb); have HB1 := Lib.hid (ext_trans (ext_alloc (Below.refl _ _) _) hb); have HP := Lib.hid hM1.pcs; have hm := hM1.map; have h1 := hM1.c1; have hlt1 := hM1.blk.lt; have HM1 := Lib.hid hM1; clear hb hM1)
    | (go_at_call 17; refine (size_c _ _ _ _ (by omega)).mono ?_; rintro e w' ⟨rfl, rfl⟩)
    | (at_range; refine wpList_range_is _ rfl _ 62 rfl 65 Tryd.underlying62 pb _ rfl hm ?_; intro ob hi; go_frame))
  go_loopg [8] ps.length (fun k v8 wr => ∃ left : List Pc, left.length = k ∧ (∀ p ∈ left, p ∈ ps) ∧ IterIs idV wr w1.heap.size pb (ps.map fun p => (pcK p, pcV p)) (left.map fun p => (pcK p, pcV p)) ∧ pinnedN left ≤ pinnedN ps ∧ v8 = .int .i64 ((pinnedN ps : Int) - pinnedN left) ∧ Below w1.heap.size w1 wr)
  case atStart => exact ⟨ps, rfl, fun _ h => h, hi, Nat.le_refl _, by simp, ext_alloc (Below.refl _ _) _⟩
  case round =>
    obtain ⟨left, hk, hin, hit, hle, rfl, hb⟩ := hrel
    clear hi
    go_wp2_with (first | (at_next; refine wpList_next_is _ rfl _ rfl pcK pcV pb w1.heap.size _ left rfl hit ?_ ?_))
    · intro hnl
      subst hnl
      have hM2 := HM1.out.ext hb
      have e0 := hM2.c0
      have e2 := hM2.c2
      have hp0 : pinnedN [] = 0 := rfl
      by_cases hno : max < szR l + pinnedN ps
      · have hszl : szR l = 8 + 16 * l.length := rfl
        have hT : decide ((max : Int) - (pinnedN ps : Int) < 8 + 16 * (l.length : Int)) = true := by simp; omega
        have HZ := Lib.hid hszl
        have HN := Lib.hid hno
        clear hszl hno hit hin hk
        go_wp2_with (first | (go_at_call 38; refine (fault_c _ _ _).mono ?_; rintro e w3 ⟨v, rfl, he, hb3⟩))
        go_ret
        have hsz : ((szR l : Nat) : Int) = 8 + 16 * (l.length : Int) := by rw [HZ.out]; omega
        exact ⟨fun _ => ⟨_, rfl, by rw [hsz]; exact he, ext_trans (ext_trans HB1.out hb) hb3⟩, fun h => absurd HN.out (by omega)⟩
      · have hszl : szR l = 8 + 16 * l.length := rfl
        have hT : decide ((max : Int) - (pinnedN ps : Int) < 8 + 16 * (l.length : Int)) = false := by simp; omega
        have HN := Lib.hid hno
        have HBr := Lib.hid (ext_trans HB1.out hb)
        have HXr := Lib.hid (HX1.out.ext hb)
        have HRr := Lib.hid (HR.out.ext (ext_trans HB1.out hb))
        have HMr := Lib.hid hM2
        have HE := Lib.hid hag
        have HD := Lib.hid hnd
        clear hno hit hin hk hm h1 hM2 hag hnd
        go_upto_block 2 with (first
          | (go_at_call 41; refine (clone_id_c B _ A cap ages HMr.out.ages (by omega)).mono ?_; rintro e w3 ⟨A3, c3, rfl, hown3, hc3, hb3⟩))
        have HM3 := Lib.hid (HMr.out.ext hb3)
        have HR3 := Lib.hid (Rd.of_own (B := B) hown3)
        have HX3 := Lib.hid (HXr.out.ext hb3)
        have HB3 := Lib.hid (ext_trans HBr.out hb3)
        have hsz0 := HB3.out.size
        clear e0 e2 hown3 hb3 hp0
        go_cut [] (fun wx => ∃ A' cap', MemAt B wx mb pb A' cap' max (evict max (szR l) ages ages ps).1 (evict max (szR l) ages ages ps).2 ∧ Bk wx w.heap.size 24 #[.int .i64 x.b, .int .i64 x.s, .int .i64 x.p] ∧ Chg muM B w wx)
        case first =>
          go_wp2_with fail
          go_loopg [58] ages.length (fun k v58 wr => ∃ i ag pz A' cap', i + k = ages.length ∧ v58 = .int .i64 (i : Nat) ∧ MemAt B wr mb pb A' cap' max ag pz ∧ Hid (evict max (szR l) (ages.drop i) ag pz = evict max (szR l) ages ages ps) ∧ usedN pz ≤ usedN ps ∧ ag.length ≤ ages.length ∧
            (∀ y ∈ ages.drop i, (pget pz y).isSome = true) ∧ Rd wr B 24 3 A3 ages.length (idsC ages) ∧ Bk wr w.heap.size 24 #[.int .i64 x.b, .int .i64 x.s, .int .i64 x.p] ∧ Chg muM B w wr)
          case atStart => exact ⟨0, ages, ps, _, _, by simp, rfl, HM3.out, rfl, Nat.le_refl _, Nat.le_refl _, HE.out, HR3.out, HX3.out, Chg.of_below HB3.out⟩
          case round =>
            obtain ⟨i, ag, pz, A', cap', hki, rfl, hMi, hev, hui, hagl, hagi, hRi, hXi, hCi⟩ := hrel
            have HMi := Lib.hid hMi
            have HRi := Lib.hid hRi
            have HXi := Lib.hid hXi
            have HCi := Lib.hid hCi
            have m0 := hMi.c0
            have hmlt := hMi.blk.lt
            clear hMi hXi hCi
            by_cases hlt3 : i < ages.length
            · have hy : ages[i]? = some (ages[i]) := List.getElem?_eq_getElem hlt3
              have hdr : ages.drop i = ages[i] :: ages.drop (i + 1) := List.drop_eq_getElem_cons hlt3
              generalize ages[i] = y at hy hdr
              obtain ⟨ad, rfl, d0, d1, d2⟩ := hRi.ids hy hlt3
              have hyp : (pget pz y).isSome = true := hagi y (by rw [hdr]; simp)
              obtain ⟨p, hp⟩ := Option.isSome_iff_exists.1 hyp
              rw [hdr] at hev hagi
              have HV := Lib.hid hev.out
              have HA' := Lib.hid hagi
              have HP := Lib.hid hp
              clear hev hagi hyp hp hdr hRi
              have hszl : szR l = 8 + 16 * l.length := rfl
              by_cases hfit : usedN pz + szR l ≤ max
              · have hT : decide ((usedN pz : Int) + (8 + 16 * (l.length : Int)) ≤ (max : Int)) = true := by simp; omega
                have hW : IntKind.i64.wrap ((usedN pz : Int) + (8 + 16 * (l.length : Int))) = (usedN pz : Int) + (8 + 16 * (l.length : Int)) := IntWalk.i64_in _ (by omega)
                have HF := Lib.hid hfit
                clear hszl hy hfit
                go_wp2_with fail
                go_region_held3 (fun w' => w'.cell? ⟨mb, 0, none⟩ = some (.int .i64 (max : Int))) (first | go_keep)
                  (first | (go_at_call 13; refine (used_c B _ mb pb A' cap' max ag pz ((HMi.out.alloc _).drew) (by omega)).mono ?_; rintro e w4 ⟨rfl, hb4⟩; have hm4 : w4.cell? ⟨mb, 0, none⟩ = some (.int .i64 (max : Int)) := (((HMi.out.alloc _).drew).ext hb4).c0))
                all_goals
                  go_wp2_with fail
                  go_meet
                  have hbw : Below wr.heap.size wr w4 := ext_trans (ext_alloc (Below.refl _ _) _).drew hb4
                  have hE : evict max (szR l) (y :: ages.drop (i + 1)) ag pz = (ag, pz) := if_pos HF.out
                  rw [← HV.out, hE]
                  exact ⟨_, _, HMi.out.ext hbw, HXi.out.ext hbw, HCi.out.trans (Chg.of_below hbw)⟩
              · have hT : decide ((usedN pz : Int) + (8 + 16 * (l.length : Int)) ≤ (max : Int)) = false := by simp; omega
                have hW : IntKind.i64.wrap ((usedN pz : Int) + (8 + 16 * (l.length : Int))) = (usedN pz : Int) + (8 + 16 * (l.length : Int)) := IntWalk.i64_in _ (by omega)
                have HF := Lib.hid hfit
                have HY := Lib.hid hy
                clear hszl hy hfit
                go_wp2_with fail
                go_region_held3 (fun w' => w'.cell? ⟨mb, 0, none⟩ = some (.int .i64 (max : Int))) (first | go_keep)
                  (first | (go_at_call 13; refine (used_c B _ mb pb A' cap' max ag pz ((HMi.out.alloc _).drew) (by omega)).mono ?_; rintro e w4 ⟨rfl, hb4⟩; have hm4 : w4.cell? ⟨mb, 0, none⟩ = some (.int .i64 (max : Int)) := (((HMi.out.alloc _).drew).ext hb4).c0))
                all_goals
                  go_wp2_with fail
                  have hbw : Below wr.heap.size wr w4 := ext_trans (ext_alloc (Below.refl _ _) _).drew hb4
                  have hM4 := HMi.out.ext hbw
                  have hx4 : Bk w4 wr.heap.size 24 #[.int .i64 y.b, .int .i64 y.s, .int .i64 y.p] := ((Bk.new wr _ _).drew).ext hb4
                  have g0 : w4.cell? ⟨wr.heap.size, 0, none⟩ = some (.int .i64 y.b) := by rw [hx4.cell]; rfl
                  have g1 : w4.cell? ⟨wr.heap.size, 1, none⟩ = some (.int .i64 y.s) := by rw [hx4.cell]; rfl
                  have g2 : w4.cell? ⟨wr.heap.size, 2, none⟩ = some (.int .i64 y.p) := by rw [hx4.cell]; rfl
                  have m1 := hM4.c1
                  have hl4 := fun n => (hM4.map.drewN n).lookup idKey (t := 62) (e := 65) (by kernel_rfl) (zero_held _) y
                  rw [mget_ps, HP.out] at hl4
                  simp only [Option.map_some, Option.getD_some, pcV, idV] at hl4
                  have hPp := hM4.pcs p (pget_mem HP.out).1
                  have p1 := hPp.c1
                  have HM4 := Lib.hid hM4
                  clear hM4 hPp hb4
                  by_cases hp0 : p.pins = 0
                  · have hz : ((p.pins : Int) == 0) = true := by simp [hp0]
                    go_quiet (fail)
                    clear hl4
                    go_wp2_with (first | (go_at_call 29; refine (drop_hit B _ mb pb A' cap' max ag pz y (HM4.out.drewN _) (by omega) p HP.out).mono ?_; rintro e w5 ⟨rfl, ⟨A5, cap5, hM5⟩, hC5⟩))
                    have hC45 : Chg muM B wr w5 := ((Chg.of_below hbw).drewN _).trans hC5
                    have hE : evict max (szR l) (y :: ages.drop (i + 1)) ag pz = evict max (szR l) (ages.drop (i + 1)) (wo ag y) (dropPs pz y) := by
                      rw [evict, if_neg HF.out, HP.out]
                      simp only [Option.map_some, Option.getD_some, hp0, if_true]
                    go_roundg (gk - 1)
                    case measure => omega
                    case rel =>
                      exact ⟨i + 1, wo ag y, dropPs pz y, A5, cap5, by omega, by go_num, hM5, hE.symm.trans HV.out, Nat.le_trans (usedN_drop _ _) hui, Nat.le_trans (wo_len _ _) hagl,
                        fun z hz => by rw [pget_drop_ne (not_mem_drop HD.out HY.out hz)]; exact HA'.out z (List.mem_cons_of_mem _ hz), HRi.out.chg hC45 (fun _ _ => rfl), HXi.out.chg hC45 (.inr rfl), HCi.out.trans hC45⟩
                  · have hz : ((p.pins : Int) == 0) = false := by simp [hp0]
                    go_quiet (fail)
                    clear hl4
                    go_wp2_with fail
                    have hC45 : Chg muM B wr (w4.drewN nq) := (Chg.of_below hbw).drewN _
                    have hE : evict max (szR l) (y :: ages.drop (i + 1)) ag pz = evict max (szR l) (ages.drop (i + 1)) ag pz := by
                      rw [evict, if_neg HF.out, HP.out]
                      simp only [Option.map_some, Option.getD_some, hp0, if_false]
                    go_roundg (gk - 1)
                    case measure => omega
                    case rel =>
                      exact ⟨i + 1, ag, pz, A', cap', by omega, by go_num, HM4.out.drewN _, hE.symm.trans HV.out, hui, hagl,
                        fun z hz => HA'.out z (List.mem_cons_of_mem _ hz), HRi.out.chg hC45 (fun _ _ => rfl), HXi.out.chg hC45 (.inr rfl), HCi.out.trans hC45⟩
            · have hi : i = ages.length := by omega
              subst hi
              have hev' := hev.out
              rw [List.drop_length] at hev'
              go_wp2_with fail
              go_meet
              rw [← hev']
              exact ⟨_, _, HMi.out, HXi.out, HCi.out⟩
        case rest =>
          obtain ⟨A5, cap5, hM5, hX5, hC5⟩ := hcut
          generalize hev : evict max (szR l) ages ages ps = ev at hM5
          obtain ⟨ag, pz⟩ := ev
          have hpz : pget pz x = none := by
            have h0 : pget ps x = none := by have := HK.out; simpa using this
            refine pget_none_iff.2 fun p hp => pget_none_iff.1 h0 p (evict_sub max (szR l) ages ages ps p ?_)
            rw [hev]; exact hp
          have hagl : ag.length ≤ 1000000 := by
            have := evict_len max (szR l) ages ages ps
            rw [hev] at this
            exact Nat.le_trans this hs
          have HE5 := Lib.hid hev
          have HZ5 := Lib.hid hpz
          have HM5 := Lib.hid hM5
          have HX5 := Lib.hid hX5
          have HC5 := Lib.hid hC5
          have HR5 := Lib.hid (HR.out.chg hC5 (fun _ _ => rfl))
          have n1 := hM5.c1
          have n2 : wc.cell? ⟨w.heap.size, 0, none⟩ = some (.int .i64 x.b) := by rw [hX5.cell]; rfl
          have n3 : wc.cell? ⟨w.heap.size, 1, none⟩ = some (.int .i64 x.s) := by rw [hX5.cell]; rfl
          have n4 : wc.cell? ⟨w.heap.size, 2, none⟩ = some (.int .i64 x.p) := by rw [hX5.cell]; rfl
          have hmlt := hM5.blk.lt
          clear hev hpz hM5 hX5 hC5 hT
          go_wp2_with fail
          go_region_held3 (fun w' => w'.cell? ⟨mb, 1, none⟩ = some (.map (some pb)) ∧ w'.cell? ⟨w.heap.size, 0, none⟩ = some (.int .i64 x.b) ∧ w'.cell? ⟨w.heap.size, 1, none⟩ = some (.int .i64 x.s) ∧ w'.cell? ⟨w.heap.size, 2, none⟩ = some (.int .i64 x.p)) (go_keep)
            (first
              | (go_at_call 40; refine (clone_row_c B _ A0 c0 l HR5.out.drew (by omega)).mono ?_; rintro e w6 ⟨A6, c6, rfl, hown6, hc6, hb6⟩
                 have HM6 := Lib.hid (HM5.out.drew.ext hb6)
                 have HX6 := Lib.hid (HX5.out.drew.ext hb6)
                 have m1 := HM6.out.c1
                 have m2 : w6.cell? ⟨w.heap.size, 0, none⟩ = some (.int .i64 x.b) := (by rw [HX6.out.cell]; rfl)
                 have m3 : w6.cell? ⟨w.heap.size, 1, none⟩ = some (.int .i64 x.s) := (by rw [HX6.out.cell]; rfl)
                 have m4 : w6.cell? ⟨w.heap.size, 2, none⟩ = some (.int .i64 x.p) := (by rw [HX6.out.cell]; rfl)
                 have k1 := HM6.out.blk.lt
                 have k2 := HX6.out.lt
                 have k3 : mb ≠ w6.heap.size := (by omega)
                 have k4 : w.heap.size ≠ w6.heap.size := (by omega)
                 have hM6a := HM6.out.alloc (.cells #[.slice A6 l.length c6, .int .i64 0] 70)
                 obtain ⟨es6, cl6, ho6⟩ := hM6a.map.obj
                 obtain ⟨w7, hrun7, hm7, hg7, hs7⟩ := hM6a.map.store idKey Tryd.underlying62 x (.pointer (some ⟨w6.heap.size, 0, none⟩))
                 have HX7 := Lib.hid ((HX6.out.alloc (.cells #[.slice A6 l.length c6, .int .i64 0] 70)).grown hg7 (fun e => by injection e with e; have hh := HX6.out.alloc (.cells #[.slice A6 l.length c6, .int .i64 0] 70); unfold Bk at hh; rw [e, ho6] at hh; cases hh))
                 have HB7 := Lib.hid (hM6a.blk.grown hg7 (fun e => by injection e with e; have hh := hM6a.blk; unfold Bk at hh; rw [e, ho6] at hh; cases hh))
                 have o1 : w7.cell? ⟨mb, 1, none⟩ = some (.map (some pb)) := (by rw [HB7.out.cell]; rfl)
                 have o2 : w7.cell? ⟨w.heap.size, 0, none⟩ = some (.int .i64 x.b) := (by rw [HX7.out.cell]; rfl)
                 have o3 : w7.cell? ⟨w.heap.size, 1, none⟩ = some (.int .i64 x.s) := (by rw [HX7.out.cell]; rfl)
                 have o4 : w7.cell? ⟨w.heap.size, 2, none⟩ = some (.int .i64 x.p) := (by rw [HX7.out.cell]; rfl)
                 have HM6a := Lib.hid hM6a
                 have HM7 := Lib.hid hm7
                 have HG7 := Lib.hid hg7
                 have HO6 := Lib.hid ho6
                 simp only [idV] at hrun7
                 clear hM6a hm7 hg7 ho6))
          have hM7 : MemAt B w7 mb pb A5 cap5 max ag (pz ++ [⟨x, w6.heap.size, A6, c6, l, 0⟩]) := by
            refine HM6a.out.turnMap (ps' := pz ++ [⟨x, w6.heap.size, A6, c6, l, 0⟩]) ?_ HG7.out ?_ ?_
            · have := HM7.out
              rw [mset_new HZ5.out] at this
              rw [List.map_append]
              exact this
            · intro p hp
              rcases List.mem_append.1 hp with hp | hp
              · exact (HM6a.out.pcs p hp).grownMap HO6.out HM6a.out.bp HG7.out
              · simp only [List.mem_cons, List.not_mem_nil, or_false] at hp
                subst hp
                exact PcAt.grownMap (p := ⟨x, w6.heap.size, A6, c6, l, 0⟩) ⟨Nat.le_of_lt (Nat.lt_of_le_of_lt HM6.out.bm k1), Bk.new _ _ _, hc6, (Rd.of_own hown6).alloc _⟩ HO6.out HM6a.out.bp HG7.out
            · rw [List.map_append, List.nodup_append]
              refine ⟨HM6a.out.nd, by simp, ?_⟩
              intro a ha c hc
              simp only [List.map_cons, List.map_nil, List.mem_cons, List.not_mem_nil, or_false] at hc
              obtain ⟨p, hp, rfl⟩ := List.mem_map.1 ha
              have := (HM6.out.pcs p hp).blk.lt
              omega
          have hC7 : Chg muM B w w7 := ((HC5.out.drew.trans (Chg.of_below hb6)).alloc _).map HG7.out HM6.out.bp (fun o ho => by rw [HO6.out] at ho; cases ho; rfl)
          have HM8 := Lib.hid hM7
          clear hM7 hrun7 hs7 m1 m2 m3 m4 k1 k2 k3 k4 n1 n2 n3 n4
          go_wp2_with (first
            | (go_at_call 39; refine (use_c B _ mb pb A5 cap5 max ag (pz ++ [⟨x, w6.heap.size, A6, c6, l, 0⟩]) x HM8.out hagl).mono ?_; rintro e w8 ⟨rfl, ⟨A8, cap8, hM8⟩, hC8⟩))
          go_ret
          refine ⟨fun h => absurd h HN.out, fun _ => ?_⟩
          rw [HE5.out]
          exact ⟨rfl, ⟨A8, cap8, _, rfl, rfl, rfl, fun g hg => Off.of_own hown6 (Nat.lt_of_lt_of_le hg HC5.out.size), hM8⟩, hC7.trans hC8⟩
    · intro q l1 l2 w2 hl1 hi1 hg1 hs1 hen
      have hq : q ∈ ps := hin q (by rw [hl1]; simp)
      have hP := HP.out q hq
      have hbw1 : Below w1.heap.size w1 w2 := hb.grown hg1 hb.size (fun k hk => by cases hk; exact Nat.le_refl _)
      have hPw := hP.ext hbw1
      have d0 := hPw.c0
      have d1 := hPw.c1
      have hu1 := pinnedN_append l1 (q :: l2)
      have hu2 := pinnedN_cons q l2
      have hu3 := pinnedN_append l1 l2
      have hqs : szR q.rows = 8 + 16 * q.rows.length := rfl
      have hqm := usedN_mem hq
      have hlen : q.rows.length ≤ 140737488351232 := by omega
      have hle2 : pinnedN (l1 ++ l2) ≤ pinnedN ps := by rw [hl1] at hle; omega
      have hk1 : (l1 ++ l2).length < gk := by rw [← hk, hl1]; simp
      have hin' : ∀ p ∈ l1 ++ l2, p ∈ ps := fun p hp => hin p (by rw [hl1]; rcases List.mem_append.1 hp with h | h <;> simp [h])
      have hiL : IterIs idV w2 w1.heap.size pb (ps.map fun p => (pcK p, pcV p)) ((l1 ++ l2).map fun p => (pcK p, pcV p)) := by rw [List.map_append]; exact hi1
      simp only [pcV] at hen ⊢
      by_cases hpp : 0 < q.pins
      · have HN := Lib.hid (show (pinnedN ps : Int) - pinnedN left + (8 + 16 * q.rows.length) = (pinnedN ps : Int) - pinnedN (l1 ++ l2) by rw [hl1]; rw [if_pos hpp] at hu2; omega)
        have hpb : decide ((0 : Int) < (q.pins : Int)) = true := by simpa using hpp
        clear hu1 hu2 hu3 hk hl1 hqs hqm
        go_wp2_with (first | (go_at_call 17; refine (size_c _ _ _ _ hlen).mono ?_; rintro e w' ⟨rfl, rfl⟩))
        go_roundg (l1 ++ l2).length
        case measure => exact hk1
        case rel => exact ⟨l1 ++ l2, rfl, hin', hiL, hle2, by rw [HN.out], hbw1⟩
      · have HN := Lib.hid (show (pinnedN ps : Int) - pinnedN left = (pinnedN ps : Int) - pinnedN (l1 ++ l2) by rw [hl1]; rw [if_neg hpp] at hu2; omega)
        have hpb : decide ((0 : Int) < (q.pins : Int)) = false := by simpa using hpp
        clear hu1 hu2 hu3 hk hl1 hqs hqm
        go_wp2
        go_roundg (l1 ++ l2).length
        case measure => exact hk1
        case rel => exact ⟨l1 ++ l2, rfl, hin', hiL, hle2, by rw [HN.out], hbw1⟩
theorem put_new (h : MemAt B w mb pb A cap max ages ps) (hp : (pget ps x).isSome = false) (A0 : Option Addr) (c0 : Nat) (l : List Rw) (hr : Rd w B 58 2 A0 l.length (rwsC l)) (hl : l.length ≤ 1073741824) (hu : usedN ps ≤ max) (hmx : max ≤ 1048576) (hs : ages.length ≤ 1000000) (hag : ∀ y ∈ ages, (pget ps y).isSome = true) (hnd : ages.Nodup) :
    Calls Tryd.prog 9 #[.pointer (some ⟨mb, 0, none⟩), idV x, .slice A0 l.length c0] w (PutPost B w mb pb max ages ps x l) :=
  (put_newF B w mb pb A cap max ages ps x h hp A0 c0 l hr hl hu hmx hs hag hnd).mono fun _ _ ⟨h1, h2⟩ => ⟨h1, fun hf => by
    obtain ⟨he, ⟨A', cap', q, a, b, c, _, hM⟩, hC⟩ := h2 hf
    exact ⟨he, ⟨A', cap', q, a, b, c, hM⟩, hC⟩⟩
end
end Go.Proofs.YtgigdhfdpabmoaaDoor
