/- The document's memory: List. -/
import Derived.Test.YtgigdhfdpabmoaaDoorRefE
import Derived.Test.YtgigdhfdpabmoaaDoorSim
namespace Go.Proofs.YtgigdhfdpabmoaaDoor
open Go.RowKit Go.Sort
attribute [local go_sem high] id_eqI

section
variable {α : Type} {enc : α → List Value} {te e : TypeId} {z bytes : Nat} {zero : Value} {w : World} {B n : Nat} {A : Option Addr} {l : List α}
theorem Rd.takeG (C : AppC enc te e z bytes zero) (h : Rd w B e z A n (l.flatMap enc)) (hn : n = l.length) (k : Nat) (hk : k ≤ n) : Rd w B e z A k ((l.take k).flatMap enc) := by
  subst hn
  refine ⟨by rw [flat_len C, List.length_take, Nat.min_eq_left hk], fun h0 => ?_⟩
  obtain ⟨ad, hA, hb, hc⟩ := h.2 (by omega)
  refine ⟨ad, hA, hb, fun j u hu => hc j u ?_⟩
  have h1 : l.flatMap enc = (l.take k).flatMap enc ++ (l.drop k).flatMap enc := by rw [← List.flatMap_append, List.take_append_drop]
  rw [h1, List.getElem?_append_left (List.getElem?_eq_some_iff.1 hu).1]
  exact hu
theorem Rd.dropG (C : AppC enc te e z bytes zero) {ad ad' : Addr} (h : Rd w B e z (some ad) n (l.flatMap enc)) (hn : n = l.length) (k : Nat) (hk : k ≤ n) (had : k < n → ad' = ad.add (k * z)) : Rd w B e z (some ad') (n - k) ((l.drop k).flatMap enc) := by
  subst hn
  refine ⟨by rw [flat_len C, List.length_drop], fun h0 => ?_⟩
  obtain ⟨ad0, hA, hb, hc⟩ := h.2 (by omega)
  injection hA with hA
  subst hA
  refine ⟨ad', rfl, by rw [had (by omega), block_of_add]; exact hb, fun j u hu => ?_⟩
  rw [had (by omega), add_of_add]
  refine hc _ u ?_
  have h1 : l.flatMap enc = (l.take k).flatMap enc ++ (l.drop k).flatMap enc := by rw [← List.flatMap_append, List.take_append_drop]
  have h2 : ((l.take k).flatMap enc).length = k * z := by rw [flat_len C, List.length_take, Nat.min_eq_left hk]
  rw [h1, List.getElem?_append_right (by omega), h2, Nat.add_sub_cancel_left]
  exact hu
end

theorem rbefore_c (x y : Id3) (W : World) : Calls Tryd.prog 49 #[idV x, idV y] W (GrowPost W (.bool (bef x y))) := by
  have fin : ∀ o1 o2 : Obj, ∃ q os', (W.alloc o1).alloc o2 = grow (W.drewN q) os' := fun o1 o2 => ⟨0, _, by rw [alloc_eq_grow, alloc_eq_grow, grow_grow]; rfl⟩
  have HF := Lib.hid fin
  clear fin
  unfold bef
  by_cases h1 : x.b = y.b
  · by_cases h2 : x.s = y.s
    · rw [if_neg (by simp [h1]), if_neg (by simp [h2])]
      have e1 : (x.b != y.b) = false := by simp [h1]
      have e2 : (x.s != y.s) = false := by simp [h2]
      clear h1 h2
      go_enter Tryd.func49, Tryd.ntmps49
      go_wp2
      go_ret
      exact ⟨rfl, HF.out _ _⟩
    · rw [if_neg (by simp [h1]), if_pos h2]
      have e1 : (x.b != y.b) = false := by simp [h1]
      have e2 : (x.s != y.s) = true := by simp [h2]
      clear h1 h2
      go_enter Tryd.func49, Tryd.ntmps49
      go_wp2
      go_ret
      exact ⟨rfl, HF.out _ _⟩
  · rw [if_pos h1]
    have e1 : (x.b != y.b) = true := by simp [h1]
    clear h1
    go_enter Tryd.func49, Tryd.ntmps49
    go_wp2
    go_ret
    exact ⟨rfl, HF.out _ _⟩

theorem Rd.pzsF {w : World} {B : Nat} {e : TypeId} {A : Option Addr} {n : Nat} {l : List Pz} (h : Rd w B e 4 A n (pzsC l)) {i : Nat} {y : Pz} (hy : l[i]? = some y) (hn : i < n) :
    ∃ ad, A = some ad ∧ w.cell? (ad.add (i * 4)) = some (.int .i64 y.id.b) ∧ w.cell? ⟨(ad.add (i * 4)).block, (ad.add (i * 4)).off + 1, none⟩ = some (.int .i64 y.id.s) ∧ w.cell? ⟨(ad.add (i * 4)).block, (ad.add (i * 4)).off + 2, none⟩ = some (.int .i64 y.id.p) ∧
      w.cell? ⟨(ad.add (i * 4)).block, (ad.add (i * 4)).off + 3, none⟩ = some (.slice y.A y.rows.length y.cap) := by
  have hat : ∀ j, j < 4 → (pzsC l)[i * 4 + j]? = (pzC y)[j]? := fun j hj => flat_at pzC 4 (fun _ => rfl) l i y hy j hj
  obtain ⟨ad, hA, hc⟩ := h.cell (by omega)
  refine ⟨ad, hA, ?_, ?_, ?_, ?_⟩
  · exact hc (i * 4) _ (by have := hat 0 (by omega); simpa [pzC] using this)
  · rw [← add_succ ad (i * 4) 0]; exact hc (i * 4 + 1) _ (by rw [hat 1 (by omega)]; rfl)
  · rw [← add_succ ad (i * 4) 1]; exact hc (i * 4 + 2) _ (by rw [hat 2 (by omega)]; rfl)
  · rw [← add_succ ad (i * 4) 2]; exact hc (i * 4 + 3) _ (by rw [hat 3 (by omega)]; rfl)

def pzOf (c : Rc) : Pz := ⟨c.id, c.A, c.cap, c.rows⟩
def Srt (l : List Pz) : Prop := l.Pairwise fun x y => bef y.id x.id = false
theorem bef_le_trans {x y z : Id3} (h1 : bef y x = false) (h2 : bef z y = false) : bef z x = false := by
  by_cases e : x = y
  · subst e; exact h2
  · cases h3 : bef z x with
    | false => rfl
    | true =>
      have h4 := bef_trans h3 (bef_total e h1)
      rw [h2] at h4
      cases h4
theorem srt_ins {out : List Pz} {x : Pz} {k : Nat} (hs : Srt out) (ha : ∀ j z, k ≤ j → out[j]? = some z → bef x.id z.id = true) (hb : k = 0 ∨ ∃ z, out[k - 1]? = some z ∧ bef x.id z.id = false) : Srt (out.take k ++ [x] ++ out.drop k) := by
  unfold Srt at hs ⊢
  have hs' := hs
  rw [← List.take_append_drop k out, List.pairwise_append] at hs'
  obtain ⟨h1, h2, h3⟩ := hs'
  have hlo : ∀ a ∈ out.take k, bef x.id a.id = false := by
    intro a hm
    rcases hb with rfl | ⟨z, hz, hzx⟩
    · simp at hm
    · obtain ⟨i, hi⟩ := List.mem_iff_getElem?.1 hm
      rw [List.getElem?_take] at hi
      split at hi
      · next hik =>
        rcases Nat.lt_or_ge i (k - 1) with hlt | hge
        · have h5 := List.getElem?_eq_some_iff.1 hi
          have h6 := List.getElem?_eq_some_iff.1 hz
          have h7 := List.pairwise_iff_getElem.1 hs i (k - 1) h5.1 h6.1 hlt
          rw [h5.2, h6.2] at h7
          exact bef_le_trans h7 hzx
        · have : i = k - 1 := by omega
          subst this
          rw [hz] at hi
          cases hi
          exact hzx
      · cases hi
  have hhi : ∀ b ∈ out.drop k, bef b.id x.id = false := by
    intro b hm
    obtain ⟨i, hi⟩ := List.mem_iff_getElem?.1 hm
    rw [List.getElem?_drop] at hi
    exact bef_asym (ha _ b (by omega) hi)
  rw [List.append_assoc, List.pairwise_append]
  refine ⟨h1, ?_, fun a hm b hm' => ?_⟩
  · rw [List.singleton_append, List.pairwise_cons]
    exact ⟨hhi, h2⟩
  · rcases List.mem_append.1 hm' with h | h
    · rw [List.mem_singleton] at h; rw [h]; exact hlo a hm
    · exact h3 a hm b h
theorem ins_perm (out : List Pz) (x : Pz) (k : Nat) : (out.take k ++ [x] ++ out.drop k).Perm (out ++ [x]) := by
  have h1 : (out.take k ++ [x] ++ out.drop k).Perm (out.take k ++ (out.drop k ++ [x])) := by
    rw [List.append_assoc]
    exact List.Perm.append_left _ List.perm_append_comm
  rw [← List.append_assoc, List.take_append_drop] at h1
  exact h1

def RListPost (w : World) (l : List Rc) (e : Ending) (w' : World) : Prop :=
  ∃ A c L, e = .returned (.slice A L.length c) ∧ L.Perm (l.map pzOf) ∧ Srt L ∧ w'.ownsRow w.heap.size 47 4 (.slice A L.length c) L.length (pzsC L) ∧ Below w.heap.size w w'

set_option maxRecDepth 100000 in
set_option maxHeartbeats 4000000 in
theorem rlist_c (B : Nat) (w : World) (rb : Nat) (A : Option Addr) (cap : Nat) (max : Int) (l : List Rc) (h : RAt B w rb A cap max l) (hl : l.length ≤ 1000000) :
    Calls Tryd.prog 37 #[.pointer (some ⟨rb, 0, none⟩)] w (RListPost w l) := by
  have hlt := h.blk.lt
  have HR := Lib.hid h
  have hc1 := h.c1
  clear h
  go_enter Tryd.func37, Tryd.ntmps37
  go_wp2
  go_loopg [3, 4] l.length (fun k v3 v4 wr => ∃ i out, i + k = l.length ∧ v4 = .int .i64 (i : Nat) ∧ Hid (List.Perm out ((l.take i).map pzOf)) ∧ Hid (Srt out) ∧ wr.ownsRow w.heap.size 47 4 v3 (List.length out) (pzsC out) ∧ Below w.heap.size w wr)
  case atStart => exact ⟨0, [], by simp, rfl, Lib.hid (by simp), Lib.hid List.Pairwise.nil, World.ownsRow_nil _ _ _ _, Below.refl _ _⟩
  case round =>
    obtain ⟨i, out, hk, rfl, hperm, hsrt, hown, hb⟩ := hrel
    obtain ⟨wo, rfl⟩ : ∃ wo : World, wo = wr := ⟨_, rfl⟩
    obtain ⟨A3, c3, rfl, hc3⟩ := own_shape hown
    have HRw := Lib.hid (HR.out.ext hb)
    have r1 := HRw.out.c1
    have hrl := HRw.out.blk.lt
    have HB := Lib.hid hb
    have HO := Lib.hid hown
    have hol : out.length = i := by have h := hperm.out.length_eq; rw [List.length_map, List.length_take] at h; omega
    have hout : out.length ≤ 1000000 := by omega
    have HOL := Lib.hid hol
    clear hb hown hc1 hol
    by_cases hi : i < l.length
    · have hz : l[i]? = some (l[i]) := List.getElem?_eq_getElem hi
      generalize l[i] = y at hz
      obtain ⟨ad, rfl, d0, d1, d2, d3, d4⟩ := (Rd.of_own (B := B) HRw.out.own).rcs hz hi
      have HZ := Lib.hid hz
      clear hz
      go_upto_block 2 with fail
      go_cut [5] (fun v5 wx => ∃ k : Nat, v5 = .int .i64 (k : Nat) ∧ k ≤ out.length ∧ Hid (∀ j z, k ≤ j → out[j]? = some z → bef y.id z.id = true) ∧ Hid (k = 0 ∨ ∃ z, out[k - 1]? = some z ∧ bef y.id z.id = false) ∧ Below wo.heap.size wo wx)
      case first =>
        go_wp2_with fail
        go_loopg [5] out.length (fun gk2 v5 wr => v5 = .int .i64 (gk2 : Nat) ∧ gk2 ≤ out.length ∧ Hid (∀ j z, gk2 ≤ j → out[j]? = some z → bef y.id z.id = true) ∧ Below wo.heap.size wo wr)
        case atStart => exact ⟨rfl, Nat.le_refl _, Lib.hid (fun j z hj hz => by have := (List.getElem?_eq_some_iff.1 hz).1; omega), Below.refl _ _⟩
        case round =>
          obtain ⟨rfl, hk2, hall, hb2⟩ := hrel
          have HB2 := Lib.hid hb2
          have hge : ∀ (a : Addr) (u : Value), wo.cell? a = some u → wr.cell? a = some u := fun a u hu => (HB2.out.cell (World.block_lt_of_cell? wo _ hu)).trans hu
          have x1 := hge _ _ r1
          have e0 := hge _ _ d0
          have e1 := hge _ _ d1
          have e2 := hge _ _ d2
          have hrl2 : rb < wr.heap.size := Nat.lt_of_lt_of_le hrl hb2.size
          clear hb2 hge
          by_cases hk0 : gk = 0
          · subst hk0
            have hT : decide ((0 : Int) < ((0 : Nat) : Int)) = false := rfl
            go_wp2_with fail
            go_quiet (fail)
            go_wp2_with fail
            go_meet
            exact ⟨0, rfl, Nat.zero_le _, hall, Lib.hid (.inl rfl), below_drewN HB2.out _⟩
          · obtain ⟨k', hk'⟩ : ∃ k', gk = k' + 1 := ⟨gk - 1, by omega⟩
            have hpj : k' < out.length := by omega
            have hv : out[k']? = some (out[k']) := List.getElem?_eq_getElem hpj
            generalize out[k'] = v at hv
            obtain ⟨ad3, rfl, g0, g1, g2, g3⟩ := ((Rd.of_own (B := B) HO.out).ext HB2.out).pzsF hv hpj
            have hWj : IntKind.i64.wrap ((gk : Int) - 1) = (k' : Nat) := by rw [show (gk : Int) - 1 = (k' : Nat) by omega]; exact IntWalk.i64_in _ (by omega)
            have hgt : (0 : Int) < (gk : Nat) := by omega
            have hjp : 0 < gk := by omega
            have HK' := Lib.hid hk'
            have HV := Lib.hid hv
            clear hk0 hv hk'
            cases hbz : bef y.id v.id with
            | true =>
              have HVB := Lib.hid hbz
              clear hbz
              go_wp2_with fail
              go_region_held3 (fun w' => w'.cell? ⟨rb, 1, none⟩ = some (.slice (some ad) l.length cap) ∧ w'.cell? (ad.add (i * 5)) = some (.int .i64 y.id.b) ∧ w'.cell? ⟨(ad.add (i * 5)).block, (ad.add (i * 5)).off + 1, none⟩ = some (.int .i64 y.id.s) ∧ w'.cell? ⟨(ad.add (i * 5)).block, (ad.add (i * 5)).off + 2, none⟩ = some (.int .i64 y.id.p) ∧
                  w'.cell? (ad3.add (k' * 4)) = some (.int .i64 v.id.b) ∧ w'.cell? ⟨(ad3.add (k' * 4)).block, (ad3.add (k' * 4)).off + 1, none⟩ = some (.int .i64 v.id.s) ∧ w'.cell? ⟨(ad3.add (k' * 4)).block, (ad3.add (k' * 4)).off + 2, none⟩ = some (.int .i64 v.id.p)) (first | go_keep)
                (first | (go_at_call 49; refine (rbefore_c y.id v.id _).mono ?_; rw [HVB.out]; rintro e w3 ⟨rfl, hg3⟩; have HB3 := Lib.hid (show Below wr.heap.size wr w3 from (by obtain ⟨q3, os3, rfl⟩ := hg3; exact ext_trans (Below.refl _ _).drew (grow_below (W := wr.drew) (q := q3) (os := os3)))); clear hg3; have gz := fun (a : Addr) (u : Value) (hu : wr.cell? a = some u) => (HB3.out.cell (World.block_lt_of_cell? wr _ hu)).trans hu; have z0 := gz _ _ e0; have z1 := gz _ _ e1; have z2 := gz _ _ e2; have y0 := gz _ _ g0; have y1 := gz _ _ g1; have y2 := gz _ _ g2; have x2 := gz _ _ x1; clear gz))
              go_wp2_with fail
              go_roundg k'
              case measure => have := HK'.out; omega
              case rel => exact ⟨rfl, by omega, Lib.hid (fun j z hj hz => by
                rcases Nat.lt_or_ge k' j with h | h
                · exact hall.out j z (by have := HK'.out; omega) hz
                · obtain rfl : k' = j := by omega
                  rw [HV.out] at hz
                  cases hz
                  exact HVB.out), ext_trans HB2.out HB3.out⟩
            | false =>
              have HVB := Lib.hid hbz
              clear hbz
              go_wp2_with fail
              go_region_held3 (fun w' => w'.cell? ⟨rb, 1, none⟩ = some (.slice (some ad) l.length cap) ∧ w'.cell? (ad.add (i * 5)) = some (.int .i64 y.id.b) ∧ w'.cell? ⟨(ad.add (i * 5)).block, (ad.add (i * 5)).off + 1, none⟩ = some (.int .i64 y.id.s) ∧ w'.cell? ⟨(ad.add (i * 5)).block, (ad.add (i * 5)).off + 2, none⟩ = some (.int .i64 y.id.p) ∧
                  w'.cell? (ad3.add (k' * 4)) = some (.int .i64 v.id.b) ∧ w'.cell? ⟨(ad3.add (k' * 4)).block, (ad3.add (k' * 4)).off + 1, none⟩ = some (.int .i64 v.id.s) ∧ w'.cell? ⟨(ad3.add (k' * 4)).block, (ad3.add (k' * 4)).off + 2, none⟩ = some (.int .i64 v.id.p)) (first | go_keep)
                (first | (go_at_call 49; refine (rbefore_c y.id v.id _).mono ?_; rw [HVB.out]; rintro e w3 ⟨rfl, hg3⟩; have HB3 := Lib.hid (show Below wr.heap.size wr w3 from (by obtain ⟨q3, os3, rfl⟩ := hg3; exact ext_trans (Below.refl _ _).drew (grow_below (W := wr.drew) (q := q3) (os := os3)))); clear hg3; have gz := fun (a : Addr) (u : Value) (hu : wr.cell? a = some u) => (HB3.out.cell (World.block_lt_of_cell? wr _ hu)).trans hu; have z0 := gz _ _ e0; have z1 := gz _ _ e1; have z2 := gz _ _ e2; have y0 := gz _ _ g0; have y1 := gz _ _ g1; have y2 := gz _ _ g2; have x2 := gz _ _ x1; clear gz))
              go_wp2_with fail
              go_meet
              exact ⟨gk, rfl, hk2, hall, Lib.hid (.inr ⟨v, by rw [HK'.out]; exact HV.out, HVB.out⟩), ext_trans HB2.out HB3.out⟩
      case rest =>
        obtain ⟨k, rfl, hko, hall, hstop, hbx⟩ := hcut
        have HB2 := Lib.hid hbx
        have hge : ∀ (a : Addr) (u : Value), wo.cell? a = some u → wc.cell? a = some u := fun a u hu => (HB2.out.cell (World.block_lt_of_cell? wo _ hu)).trans hu
        have x1 := hge _ _ r1
        have e0 := hge _ _ d0
        have e1 := hge _ _ d1
        have e2 := hge _ _ d2
        have e3 := hge _ _ d3
        clear hbx hge r1 d0 d1 d2 d3 d4
        have hkc : ((k : Nat) : Int) ≤ (c3 : Nat) := by omega
        have hk0 : (0 : Int) ≤ ((k : Nat) : Int) := by omega
        have hkl : ((k : Nat) : Int) ≤ (out.length : Nat) := by omega
        cases A3 with
        | none =>
          have ho0 : out = [] ∧ c3 = 0 := by
            rcases HO.out.2 with ⟨hv, _⟩ | ⟨g, c, cur, hv, _⟩
            · injection hv with _ h1 h2
              exact ⟨List.eq_nil_of_length_eq_zero h1, h2⟩
            · injection hv with h1
              cases h1
          obtain ⟨rfl, rfl⟩ := ho0
          have hk00 : k = 0 := by simpa using hko
          subst hk00
          have HW2 := Lib.hid (ext_trans HB.out HB2.out)
          have hsz2 := HW2.out.size
          clear hkc hk0 hkl hko hc3
          go_wp2_with (first
            | (at_builtin; refine wpList_appR pz_app _ rfl (.tmp 40) (.tmp 43) rfl wc.heap.size _ [] rfl (World.ownsRow_nil _ _ _ _) [] w.heap.size none 0 0 rfl rfl Rd.none_ (by simp) (Nat.le_refl _) ?_
               intro A4 n4 w4 hown4 hg4 hc4
               have HO4 := Lib.hid (show w4.ownsRow wc.heap.size 47 4 (.slice A4 0 n4) 0 (pzsC []) from hown4)
               have HG4 := Lib.hid (show Below wc.heap.size wc w4 from (Below.refl _ _).grown hg4 (Nat.le_refl _) (fun k hk => by cases hk))
               have hs4 := HG4.out.size
               have HR4 := Lib.hid (HR.out.ext (ext_trans HW2.out HG4.out))
               have y1 := HR4.out.c1
               obtain ⟨ad', he', f0, f1, f2, f3, f4⟩ := (Rd.of_own (B := B) HR4.out.own).rcs HZ.out hi
               cases he'
               clear hown4 hg4)
            | (at_builtin; refine wpList_appE pz_app _ rfl (.tmp 45) (.tmp 54) rfl wc.heap.size _ [] rfl (HO4.out.alloc _) (pzOf y) _ rfl (Bk.new _ _ _) (by simp) (by simp only [World.size_alloc]; omega) ?_
               intro A5 n5 w5 hown5 hg5 hc5
               have HO5 := Lib.hid (show w5.ownsRow wc.heap.size 47 4 (.slice A5 1 n5) 1 (pzsC [pzOf y]) from hown5)
               have HG5 := Lib.hid (below_grownOwn (ext_alloc HG4.out (.cells (pzC (pzOf y)).toArray 47)) (HO4.out.alloc (.cells (pzC (pzOf y)).toArray 47)) (Nat.le_refl _) hg5)
               have hs5 := HG5.out.size
               clear hown5 hg5)
            | (at_builtin; refine wpList_appR pz_app _ rfl (.tmp 56) (.tmp 59) rfl wc.heap.size _ [pzOf y] rfl HO5.out [] w.heap.size none 0 0 rfl rfl Rd.none_ (by simp) hs5 ?_
               intro A6 n6 w6 hown6 hg6 hc6
               have HO6 := Lib.hid (show w6.ownsRow wc.heap.size 47 4 (.slice A6 1 n6) 1 (pzsC [pzOf y]) from hown6)
               have HG6 := Lib.hid (below_grownOwn HG5.out HO5.out (Nat.le_refl _) hg6)
               clear hown6 hg6))
          go_roundg (gk - 1)
          case measure => omega
          case rel =>
            refine ⟨i + 1, [pzOf y], by omega, by go_num, Lib.hid ?_, Lib.hid (List.pairwise_singleton _ _), own_mono HO6.out hsz2, ext_trans HW2.out HG6.out⟩
            rw [take_succ_of HZ.out, List.map_append]
            exact List.Perm.append_right [pzOf y] hperm.out
        | some ad3 =>
          have HR2 := Lib.hid ((Rd.of_own (B := w.heap.size) HO.out).ext HB2.out)
          have HW2 := Lib.hid (ext_trans HB.out HB2.out)
          have hsz2 := HW2.out.size
          have hkn : k = (out.take k).length := by rw [List.length_take]; omega
          have HKN := Lib.hid hkn
          clear hkn
          have hxs : ∀ (c : Prop) [Decidable c] (a b : Addr) (m k : Nat), Value.slice (if c then some a else some b) m k = Value.slice (some (if c then a else b)) m k := fun c _ a b m k => by split <;> rfl
          go_wp2_with (first
            | (at_builtin; refine wpList_appR pz_app _ rfl (.tmp 40) (.tmp 43) rfl wc.heap.size _ [] rfl (World.ownsRow_nil _ _ _ _) (out.take k) w.heap.size (some ad3) k c3 rfl HKN.out (HR2.out.takeG pz_app rfl k hko) (by rw [← HKN.out]; simp; omega) (Nat.le_refl _) ?_
               intro A4 n4 w4 hown4 hg4 hc4
               have HO4 := Lib.hid (show ∀ m, m = (out.take k).length → w4.ownsRow wc.heap.size 47 4 (.slice A4 m n4) (out.take k).length (pzsC (out.take k)) from (by rintro _ rfl; exact hown4))
               have HG4 := Lib.hid (show Below wc.heap.size wc w4 from (Below.refl _ _).grown hg4 (Nat.le_refl _) (fun k hk => by cases hk))
               have hs4 := HG4.out.size
               have HR4 := Lib.hid (HR.out.ext (ext_trans HW2.out HG4.out))
               have y1 := HR4.out.c1
               obtain ⟨ad', he', f0, f1, f2, f3, f4⟩ := (Rd.of_own (B := B) HR4.out.own).rcs HZ.out hi
               cases he'
               clear hown4 hg4)
            | (at_builtin; refine wpList_appE pz_app _ rfl (.tmp 45) (.tmp 54) rfl wc.heap.size _ (out.take k) rfl ((HO4.out k HKN.out).alloc _) (pzOf y) _ rfl (Bk.new _ _ _) (by rw [← HKN.out]; omega) (by simp only [World.size_alloc]; omega) ?_
               intro A5 n5 w5 hown5 hg5 hc5
               have HO5 := Lib.hid (show ∀ m, m = (out.take k ++ [pzOf y]).length → w5.ownsRow wc.heap.size 47 4 (.slice A5 m n5) (out.take k ++ [pzOf y]).length (pzsC (out.take k ++ [pzOf y])) from (by rintro _ rfl; exact hown5))
               have HG5 := Lib.hid (below_grownOwn (ext_alloc HG4.out (.cells (pzC (pzOf y)).toArray 47)) ((HO4.out k HKN.out).alloc (.cells (pzC (pzOf y)).toArray 47)) (Nat.le_refl _) hg5)
               have hs5 := HG5.out.size
               have HR5 := Lib.hid (HR2.out.ext HG5.out)
               clear hown5 hg5)
            | (at_builtin; refine wpList_appR pz_app _ rfl (.tmp 56) (.tmp 59) rfl wc.heap.size _ (out.take k ++ [pzOf y]) rfl (HO5.out _ (by rw [List.length_append, ← HKN.out]; rfl)) (out.drop k) w.heap.size (some _) (out.length - k) (c3 - k) rfl (by rw [List.length_drop]) (HR5.out.dropG pz_app rfl k hko (fun h => by rw [if_neg (by omega)])) (by have h1 := HKN.out; simp only [List.length_append, List.length_cons, List.length_nil, List.length_drop]; omega) hs5 ?_
               intro A6 n6 w6 hown6 hg6 hc6
               have HO6 := Lib.hid (show ∀ m, m = (out.take k ++ [pzOf y] ++ out.drop k).length → w6.ownsRow wc.heap.size 47 4 (.slice A6 m n6) (out.take k ++ [pzOf y] ++ out.drop k).length (pzsC (out.take k ++ [pzOf y] ++ out.drop k)) from (by rintro _ rfl; exact hown6))
               have HG6 := Lib.hid (below_grownOwn HG5.out (HO5.out (k + 1) (by rw [List.length_append, ← HKN.out]; rfl)) (Nat.le_refl _) hg6)
               clear hown6 hg6))
          all_goals
            go_roundg (gk - 1)
            case measure => omega
            case rel =>
              refine ⟨i + 1, out.take k ++ [pzOf y] ++ out.drop k, by omega, by go_num, Lib.hid ?_, Lib.hid (srt_ins hsrt.out hall.out hstop.out), ?_, ext_trans HW2.out HG6.out⟩
              · rw [take_succ_of HZ.out, List.map_append]
                exact (ins_perm out (pzOf y) k).trans (List.Perm.append_right _ hperm.out)
              · exact own_mono (HO6.out _ (by have h1 := HKN.out; simp only [List.length_append, List.length_cons, List.length_nil, List.length_drop]; omega)) hsz2
    · have hil : i = l.length := by omega
      subst hil
      go_wp2
      go_ret
      have hp := hperm.out
      rw [List.take_length] at hp
      exact ⟨A3, c3, out, rfl, hp, hsrt.out, HO.out, HB.out⟩
end Go.Proofs.YtgigdhfdpabmoaaDoor
