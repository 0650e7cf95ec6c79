/- SameIDs; told. -/
import Derived.Test.YtgigdhfdpabmoaaDoorMemF
import Derived.Test.YtgigdhfdpabmoaaDoorErrB
namespace Go.Proofs.YtgigdhfdpabmoaaDoor
open Go.RowKit
attribute [local go_sem high] id_eqI

theorem Rd.ofBk {w : World} {B : Nat} {e : TypeId} {size n g : Nat} {cs : Array Value} (h : Bk w g e cs) (hn : cs.size = n * size) : Rd w B e size (some ⟨g, 0, none⟩) n cs.toList :=
  ⟨by simpa using hn, fun _ => ⟨_, rfl, .inr ⟨_, _, h⟩, fun j u hu => World.news_of_block (cs := cs) (t := e) (fr := (0, 0)) h j u hu⟩⟩

set_option maxHeartbeats 1000000 in
theorem sameIDs_c (B : Nat) (w : World) (A A' : Option Addr) (c c' : Nat) (l l' : List Id3) (h : Rd w B 24 3 A l.length (idsC l)) (h' : Rd w B 24 3 A' l'.length (idsC l')) (_hl : l.length ≤ 2147483648) (_hl' : l'.length ≤ 2147483648) :
    Calls Tryd.prog 16 #[.slice A l.length c, .slice A' l'.length c'] w (BoolPost w (decide (l = l'))) := by
  by_cases hlen : l.length = l'.length
  · have hT : ((l.length : Int) != (l'.length : Int)) = false := by simp [hlen]
    have hT2 : (l.length == l'.length) = true := by simp [hlen]
    have HL := Lib.hid hlen
    have H := Lib.hid h
    have H' := Lib.hid h'
    clear h h' hlen
    go_enter Tryd.func16, Tryd.ntmps16
    go_wp2
    go_loopg [5] l.length (fun k v5 wr => ∃ i n, i + k = l.length ∧ v5 = .int .i64 (i : Nat) ∧ l.take i = l'.take i ∧ wr = w.drewN n)
    case atStart => exact ⟨0, 0, by simp, rfl, by simp, rfl⟩
    case round =>
      obtain ⟨i, n, hk, rfl, hpre, rfl⟩ := hrel
      have HP := Lib.hid hpre
      clear hpre
      by_cases hi : i < l.length
      · have hi' : i < l'.length := by have := HL.out; omega
        have hy : l[i]? = some (l[i]) := List.getElem?_eq_getElem hi
        have hy' : l'[i]? = some (l'[i]) := List.getElem?_eq_getElem hi'
        generalize l[i] = y at hy
        generalize l'[i] = y' at hy'
        obtain ⟨ad, rfl, d0, d1, d2⟩ := H.out.ids hy hi
        obtain ⟨ad', rfl, e0, e1, e2⟩ := H'.out.ids hy' hi'
        have HY := Lib.hid hy
        have HY' := Lib.hid hy'
        clear hy hy'
        by_cases hyy : y = y'
        · have hN : (!decide (y.b = y'.b) || (!decide (y.s = y'.s) || !decide (y.p = y'.p))) = false := by rw [hyy]; simp
          have HE := Lib.hid hyy
          clear hyy
          go_wp2
          go_quiet (fail)
          go_wp2
          go_roundg (gk - 1)
          case measure => omega
          case rel => exact ⟨i + 1, n + nq, by omega, by go_num, by rw [take_succ_of HY.out, take_succ_of HY'.out, HP.out, HE.out], rfl⟩
        · have hN := ne_bool hyy
          have HE := Lib.hid hyy
          clear hyy
          go_wp2
          go_quiet (fail)
          go_wp2
          go_ret
          have hne : l ≠ l' := by
            intro e
            have h1 := HY.out
            have h2 := HY'.out
            rw [e, h2] at h1
            exact HE.out (Option.some.inj h1).symm
          exact ⟨by simp [hne], below_drewN (below_drewN (Below.refl _ _) _) _⟩
      · have hil : i = l.length := by omega
        subst hil
        have heq : l = l' := by
          have h1 := HP.out
          rw [List.take_length, HL.out, List.take_length] at h1
          exact h1
        have HQ := Lib.hid heq
        clear heq
        go_wp2
        go_ret
        exact ⟨by simp [HQ.out], below_drewN (Below.refl _ _) _⟩
  · have hT : ((l.length : Int) != (l'.length : Int)) = true := by simp; omega
    have hT2 : (l.length == l'.length) = false := by simp [hlen]
    have hne : l ≠ l' := fun e => hlen (by rw [e])
    have HN := Lib.hid hne
    clear hlen hne h h'
    go_enter Tryd.func16, Tryd.ntmps16
    go_wp2
    go_ret
    exact ⟨by simp [HN.out], Below.refl _ _⟩

/-! ### told -/
def ia : Id3 := ⟨1, 0, 0⟩
def ib : Id3 := ⟨2, 0, 0⟩
def ic : Id3 := ⟨3, 0, 0⟩

theorem TypeVar.chg {mu : Obj → Bool} {B : Nat} {w w' : World} (h : TypeVar w) (hB : 0 < B) (hc : Chg mu B w w') : TypeVar w' := by
  unfold TypeVar at h ⊢
  have hlt := World.block_lt_of_cell? w _ h
  exact hc.cell h (Array.getElem?_eq_getElem hlt) (.inl hB)

theorem rd_one {W : World} {B g : Nat} (hg : g = W.heap.size) (k v : Int) : Rd (W.alloc (.cells #[.int .i64 k, .int .i64 v] 58)) B 58 2 (some ⟨g, 0, none⟩) [(⟨k, v⟩ : Rw)].length (rwsC [⟨k, v⟩]) :=
  Rd.ofBk (n := 1) (Bk.newAt hg) rfl
theorem rd_two {W : World} {B g : Nat} (hg : g = W.heap.size) (k v k' v' : Int) : Rd (W.alloc (.cells #[.int .i64 k, .int .i64 v, .int .i64 k', .int .i64 v'] 58)) B 58 2 (some ⟨g, 0, none⟩) [(⟨k, v⟩ : Rw), ⟨k', v'⟩].length (rwsC [⟨k, v⟩, ⟨k', v'⟩]) :=
  Rd.ofBk (n := 2) (Bk.newAt hg) rfl

set_option maxRecDepth 100000 in
set_option maxHeartbeats 8000000 in
theorem told_c (w : World) (hg : TypeVar w) : Calls Tryd.prog 14 #[] w (BoolPost w true) := by
  have hg0 : 0 < w.heap.size := World.block_lt_of_cell? w _ hg
  have HG := Lib.hid hg
  clear hg
  go_enter Tryd.func14, Tryd.ntmps14
  go_upto_region 3 with (first
    | (go_at_call 6; (with_reducible refine (new_c w.heap.size _ 48 (Nat.le_refl _) (by omega) (by omega)).mono ?_); rintro e w1 ⟨mb, pb, A1, cap1, rfl, hM1, hb1, hmb⟩)
    | (go_at_call 6; (with_reducible refine (new_bad _ (-1) (by omega)).mono ?_); rintro e w2 ⟨v2, rfl, hE2, hb2⟩))
  have HM2 := Lib.hid (hM1.ext hb2)
  have HB2 := Lib.hid (ext_trans hb1 hb2)
  have HE2 := Lib.hid hE2
  have HG2 := Lib.hid (TypeVar.chg HG.out hg0 (Chg.of_below (mu := muM) (ext_trans hb1 hb2)))
  have hml := (hM1.ext hb2).blk.lt
  clear hM1 hb1 hb2 hE2
  go_upto_region 6 with (first
    | (go_at_call 15; refine (code_c 1 _ 1 _ (by obtain ⟨fb, rfl, hbk⟩ := HE2.out; exact ⟨fb, _, _, _, rfl, hbk, rfl⟩) HG2.out).mono ?_; rintro e w3 ⟨rfl, hb3⟩))
  have HM3 := Lib.hid ((((HM2.out.ext hb3).alloc (.cells #[.int .i64 1, .int .i64 0, .int .i64 0] 24)).alloc (.cells #[.int .i64 2, .int .i64 0, .int .i64 0] 24)).alloc (.cells #[.int .i64 3, .int .i64 0, .int .i64 0] 24))
  have HB3 := Lib.hid (ext_alloc (ext_alloc (ext_alloc (ext_trans HB2.out hb3) (.cells #[.int .i64 1, .int .i64 0, .int .i64 0] 24)) (.cells #[.int .i64 2, .int .i64 0, .int .i64 0] 24)) (.cells #[.int .i64 3, .int .i64 0, .int .i64 0] 24))
  have HA3 := Lib.hid (((Bk.new w3 24 #[.int .i64 1, .int .i64 0, .int .i64 0]).alloc (.cells #[.int .i64 2, .int .i64 0, .int .i64 0] 24)).alloc (.cells #[.int .i64 3, .int .i64 0, .int .i64 0] 24))
  have HI3 := Lib.hid ((Bk.newAt (w := w3.alloc (.cells #[.int .i64 1, .int .i64 0, .int .i64 0] 24)) (t := 24) (cs := #[.int .i64 2, .int .i64 0, .int .i64 0]) (g := w3.heap.size + 1) (by simp)).alloc (.cells #[.int .i64 3, .int .i64 0, .int .i64 0] 24))
  have HK3 := Lib.hid (Bk.newAt (w := (w3.alloc (.cells #[.int .i64 1, .int .i64 0, .int .i64 0] 24)).alloc (.cells #[.int .i64 2, .int .i64 0, .int .i64 0] 24)) (t := 24) (cs := #[.int .i64 3, .int .i64 0, .int .i64 0]) (g := w3.heap.size + 1 + 1) (by simp))
  go_upto_region 7 with (first
    | (go_at_call 9; refine (put_new w.heap.size _ mb pb A1 cap1 48 [] [] ia (HM3.out.alloc _) rfl _ 1 [⟨1, 1⟩] (rd_one (by simp) 1 1) (by decide) (by decide) (by decide) (by decide) (by simp) (by simp)).mono ?_
       rintro e w4 ⟨-, hy4⟩
       obtain ⟨rfl, ⟨A4, cap4, ⟨i4, q1, Q1, k1, r4, p4⟩, hi4, hr4, hp4, hM4⟩, hC4⟩ := hy4 (by decide)
       simp only at hi4 hr4 hp4
       subst hi4 hr4 hp4
       have HM4 := Lib.hid (show MemAt w.heap.size w4 mb pb A4 cap4 48 [ia] [⟨ia, q1, Q1, k1, [⟨1, 1⟩], 0⟩] from hM4)
       have HC4 := Lib.hid (((Chg.of_below HB3.out).alloc _).trans hC4)
       have HA4 := Lib.hid ((HA3.out.alloc _).chg hC4 (.inr rfl))
       have HI4 := Lib.hid ((HI3.out.alloc _).chg hC4 (.inr rfl))
       have HK4 := Lib.hid ((HK3.out.alloc _).chg hC4 (.inr rfl))
       have ca4 := HA4.out.cell
       have cb4 := HI4.out.cell
       have cc4 := HK4.out.cell
       have la4 := HA4.out.lt
       have lb4 := HI4.out.lt
       have lc4 := HK4.out.lt
       clear hy4 hM4 hC4))
  go_upto_region 8 with (first
    | (go_at_call 9; refine (put_new w.heap.size _ mb pb A4 cap4 48 [ia] [⟨ia, q1, Q1, k1, [⟨1, 1⟩], 0⟩] ib (HM4.out.alloc _) rfl _ 1 [⟨2, 2⟩] (rd_one (by simp) 2 2) (by decide) (by exact (by decide : 24 ≤ 48)) (by decide) (by decide) (by intro y hy; simp only [List.mem_cons, List.not_mem_nil, or_false] at hy; subst hy; rfl) (by simp)).mono ?_
       rintro e w5 ⟨-, hy5⟩
       obtain ⟨rfl, ⟨A5, cap5, ⟨i5, q2, Q2, k2, r5, p5⟩, hi5, hr5, hp5, hM5⟩, hC5⟩ := hy5 (by exact (by decide : 24 + 0 ≤ 48))
       simp only at hi5 hr5 hp5
       subst hi5 hr5 hp5
       have HM5 := Lib.hid (show MemAt w.heap.size w5 mb pb A5 cap5 48 [ia, ib] [⟨ia, q1, Q1, k1, [⟨1, 1⟩], 0⟩, ⟨ib, q2, Q2, k2, [⟨2, 2⟩], 0⟩] from hM5)
       have HC5 := Lib.hid ((HC4.out.alloc _).trans hC5)
       have HA5 := Lib.hid ((HA4.out.alloc _).chg hC5 (.inr rfl))
       have HI5 := Lib.hid ((HI4.out.alloc _).chg hC5 (.inr rfl))
       have HK5 := Lib.hid ((HK4.out.alloc _).chg hC5 (.inr rfl))
       have ca5 := HA5.out.cell
       have cb5 := HI5.out.cell
       have cc5 := HK5.out.cell
       have la5 := HA5.out.lt
       have lb5 := HI5.out.lt
       have lc5 := HK5.out.lt
       clear hy5 hM5 hC5 ca4 cb4 cc4 la4 lb4 lc4))
  go_upto_region 9 with (first
    | (go_at_call 7; refine (get_hit w.heap.size _ mb pb A5 cap5 48 [ia, ib] [⟨ia, q1, Q1, k1, [⟨1, 1⟩], 0⟩, ⟨ib, q2, Q2, k2, [⟨2, 2⟩], 0⟩] ia HM5.out (by decide) ⟨ia, q1, Q1, k1, [⟨1, 1⟩], 0⟩ rfl (by exact (by decide : 1 ≤ 2147483648))).mono ?_
       rintro e w6 ⟨R6, c6, rfl, ⟨A6, cap6, hM6⟩, hown6, hc6, hC6⟩
       have HM6 := Lib.hid (show MemAt w.heap.size w6 mb pb A6 cap6 48 [ib, ia] [⟨ia, q1, Q1, k1, [⟨1, 1⟩], 0⟩, ⟨ib, q2, Q2, k2, [⟨2, 2⟩], 0⟩] from hM6)
       have HC6 := Lib.hid (HC5.out.trans hC6)
       have HA6 := Lib.hid (HA5.out.chg hC6 (.inr rfl))
       have HI6 := Lib.hid (HI5.out.chg hC6 (.inr rfl))
       have HK6 := Lib.hid (HK5.out.chg hC6 (.inr rfl))
       have ca6 := HA6.out.cell
       have cb6 := HI6.out.cell
       have cc6 := HK6.out.cell
       have la6 := HA6.out.lt
       have lb6 := HI6.out.lt
       have lc6 := HK6.out.lt
       clear hM6 hC6 hown6 ca5 cb5 cc5 la5 lb5 lc5))
  go_upto_region 10 with (first
    | (go_at_call 9; refine (put_new w.heap.size _ mb pb A6 cap6 48 [ib, ia] [⟨ia, q1, Q1, k1, [⟨1, 1⟩], 0⟩, ⟨ib, q2, Q2, k2, [⟨2, 2⟩], 0⟩] ic HM6.out rfl none 0 [] Rd.none_ (by decide) (by exact (by decide : 48 ≤ 48)) (by decide) (by decide) (by intro y hy; simp only [List.mem_cons, List.not_mem_nil, or_false] at hy; rcases hy with rfl | rfl <;> rfl) (by decide)).mono ?_
       rintro e w7 ⟨-, hy7⟩
       obtain ⟨rfl, ⟨A7, cap7, ⟨i7, q3, Q3, k3, r7, p7⟩, hi7, hr7, hp7, hM7⟩, hC7⟩ := hy7 (by exact (by decide : 8 + 0 ≤ 48))
       simp only at hi7 hr7 hp7
       subst hi7 hr7 hp7
       have HM7 := Lib.hid (show MemAt w.heap.size w7 mb pb A7 cap7 48 [ia, ic] [⟨ia, q1, Q1, k1, [⟨1, 1⟩], 0⟩, ⟨ic, q3, Q3, k3, [], 0⟩] from hM7)
       have HC7 := Lib.hid (HC6.out.trans hC7)
       have HA7 := Lib.hid (HA6.out.chg hC7 (.inr rfl))
       have HI7 := Lib.hid (HI6.out.chg hC7 (.inr rfl))
       have HK7 := Lib.hid (HK6.out.chg hC7 (.inr rfl))
       have ca7 := HA7.out.cell
       have cb7 := HI7.out.cell
       have cc7 := HK7.out.cell
       have la7 := HA7.out.lt
       have lb7 := HI7.out.lt
       have lc7 := HK7.out.lt
       clear hy7 hM7 hC7 ca6 cb6 cc6 la6 lb6 lc6))
  go_upto_region 11 with (first
    | (go_at_call 8; refine (pin_hit w.heap.size _ mb pb A7 cap7 48 [ia, ic] [⟨ia, q1, Q1, k1, [⟨1, 1⟩], 0⟩, ⟨ic, q3, Q3, k3, [], 0⟩] ia HM7.out (by decide) ⟨ia, q1, Q1, k1, [⟨1, 1⟩], 0⟩ rfl (by exact (by decide : 0 ≤ 1000000))).mono ?_
       rintro e w8 ⟨rfl, ⟨A8, cap8, hM8⟩, hC8⟩
       have HM8 := Lib.hid (show MemAt w.heap.size w8 mb pb A8 cap8 48 [ic, ia] [⟨ia, q1, Q1, k1, [⟨1, 1⟩], 1⟩, ⟨ic, q3, Q3, k3, [], 0⟩] from hM8)
       have HC8 := Lib.hid (HC7.out.trans hC8)
       have HA8 := Lib.hid (HA7.out.chg hC8 (.inr rfl))
       have HI8 := Lib.hid (HI7.out.chg hC8 (.inr rfl))
       have HK8 := Lib.hid (HK7.out.chg hC8 (.inr rfl))
       have ca8 := HA8.out.cell
       have cb8 := HI8.out.cell
       have cc8 := HK8.out.cell
       have la8 := HA8.out.lt
       have lb8 := HI8.out.lt
       have lc8 := HK8.out.lt
       clear hM8 hC8 ca7 cb7 cc7 la7 lb7 lc7))
  go_upto_region 12 with (first
    | (go_at_call 9; refine (put_new w.heap.size _ mb pb A8 cap8 48 [ic, ia] [⟨ia, q1, Q1, k1, [⟨1, 1⟩], 1⟩, ⟨ic, q3, Q3, k3, [], 0⟩] ib (HM8.out.alloc _) rfl _ 2 [⟨0, 0⟩, ⟨0, 0⟩] (rd_two (by simp) 0 0 0 0) (by decide) (by exact (by decide : 32 ≤ 48)) (by decide) (by decide) (by intro y hy; simp only [List.mem_cons, List.not_mem_nil, or_false] at hy; rcases hy with rfl | rfl <;> rfl) (by decide)).mono ?_
       rintro e w9 ⟨hn9, -⟩
       obtain ⟨v9, rfl, hE9, hb9⟩ := hn9 (by exact (by decide : 48 < 40 + 24))
       have HM9 := Lib.hid (HM8.out.ext (ext_trans (ext_alloc (Below.refl _ _) _) hb9))
       have HC9 := Lib.hid ((HC8.out.alloc _).trans (Chg.of_below hb9))
       have hC9 : Chg muM w.heap.size _ w9 := Chg.of_below hb9
       have HA9 := Lib.hid ((HA8.out.alloc _).chg hC9 (.inr rfl))
       have HI9 := Lib.hid ((HI8.out.alloc _).chg hC9 (.inr rfl))
       have HK9 := Lib.hid ((HK8.out.alloc _).chg hC9 (.inr rfl))
       have ca9 := HA9.out.cell
       have cb9 := HI9.out.cell
       have cc9 := HK9.out.cell
       have la9 := HA9.out.lt
       have lb9 := HI9.out.lt
       have lc9 := HK9.out.lt
       have HE9 := Lib.hid hE9
       clear hn9 hC9 hE9 hb9 ca8 cb8 cc8 la8 lb8 lc8))
  refine wp_region_held_drew (S := (fun w' => w'.cell? ⟨w3.heap.size, 0, none⟩ = some (.int .i64 1) ∧ w'.cell? ⟨w3.heap.size, 1, none⟩ = some (.int .i64 0) ∧ w'.cell? ⟨w3.heap.size, 2, none⟩ = some (.int .i64 0) ∧ w'.cell? ⟨w3.heap.size + 1, 0, none⟩ = some (.int .i64 2) ∧ w'.cell? ⟨w3.heap.size + 1, 1, none⟩ = some (.int .i64 0) ∧ w'.cell? ⟨w3.heap.size + 1, 2, none⟩ = some (.int .i64 0) ∧ w'.cell? ⟨w3.heap.size + 1 + 1, 0, none⟩ = some (.int .i64 3) ∧ w'.cell? ⟨w3.heap.size + 1 + 1, 1, none⟩ = some (.int .i64 0) ∧ w'.cell? ⟨w3.heap.size + 1 + 1, 2, none⟩ = some (.int .i64 0))) (by kernel_rfl) ?_ (fun hHeld => ?_)
  · (refine ⟨?_, ?_, ?_, ?_, ?_, ?_, ?_, ?_, ?_⟩ <;> simp [*])
  refine wpAnyH_take (i := 0) (oi := { dst := some 62, op := Go.Op.move (Go.Operand.tmp 9), type := 4, pos := "law.go:45", after := #[], guard := none }) (v := ?v0) rfl (by kernel_rfl) (by kernel_rfl) (by kernel_rfl) (fun _ _ _ h => h) (Or.inl ⟨by rfl, ?hy0⟩) (by assumption) ?rest0
  case hy0 => (intro w hSw; (try dsimp only at hSw); go_simp; try (with_reducible rfl))
  simp only [Act.put, List.setIfInBounds_toArray, List.set_cons_zero, List.set_cons_succ]
  refine wpAnyH_take (i := 1) (oi := { dst := some 63, op := Go.Op.move (Go.Operand.tmp 62), type := 4, pos := "law.go:45", after := #[{ on := 0, ground := Go.Ground.data }], guard := none }) (v := ?v1) rfl (by kernel_rfl) (by kernel_rfl) (by kernel_rfl) (fun _ _ _ h => h) (Or.inl ⟨by rfl, ?hy1⟩) (by assumption) ?rest1
  case hy1 => (intro w hSw; (try dsimp only at hSw); go_simp; try (with_reducible rfl))
  simp only [Act.put, List.setIfInBounds_toArray, List.set_cons_zero, List.set_cons_succ]
  refine wpAnyH_take (i := 2) (oi := { dst := some 64, op := Go.Op.move (Go.Operand.tmp 8), type := 25, pos := "law.go:45", after := #[{ on := 1, ground := Go.Ground.guard }], guard := some (1, true) }) (v := ?v2) rfl (by kernel_rfl) (by kernel_rfl) (by kernel_rfl) (fun _ _ _ h => h) (Or.inl ⟨by rfl, ?hy2⟩) (by assumption) ?rest2
  case hy2 => (intro w hSw; (try dsimp only at hSw); go_simp; try (with_reducible rfl))
  simp only [Act.put, List.setIfInBounds_toArray, List.set_cons_zero, List.set_cons_succ]
  refine wpAnyH_take (i := 3) (oi := { dst := some 65, op := Go.Op.call { callee := Go.Callee.builtin Go.Builtin.len, args := #[Go.Operand.tmp 64], argTypes := #[25] }, type := 3, pos := "law.go:45", after := #[{ on := 2, ground := Go.Ground.data }, { on := 1, ground := Go.Ground.guard }], guard := some (1, true) }) (v := ?v3) rfl (by kernel_rfl) (by kernel_rfl) (by kernel_rfl) (fun _ _ _ h => h) (Or.inl ⟨by rfl, ?hy3⟩) (by assumption) ?rest3
  case hy3 => (intro w hSw; (try dsimp only at hSw); go_simp; try (with_reducible rfl))
  simp only [Act.put, List.setIfInBounds_toArray, List.set_cons_zero, List.set_cons_succ]
  refine wpAnyH_take (i := 4) (oi := { dst := some 66, op := Go.Op.binOp Go.BinOp.eql 3 (Go.Operand.tmp 65) (Go.Operand.const (Go.Value.int Go.IntKind.i64 1)) 3, type := 4, pos := "law.go:45", after := #[{ on := 3, ground := Go.Ground.data }, { on := 1, ground := Go.Ground.guard }], guard := some (1, true) }) (v := ?v4) rfl (by kernel_rfl) (by kernel_rfl) (by kernel_rfl) (fun _ _ _ h => h) (Or.inl ⟨by rfl, ?hy4⟩) (by assumption) ?rest4
  case hy4 => (intro w hSw; (try dsimp only at hSw); go_simp; try (with_reducible rfl))
  simp only [Act.put, List.setIfInBounds_toArray, List.set_cons_zero, List.set_cons_succ]
  refine wpAnyH_take (i := 5) (oi := { dst := some 67, op := Go.Op.pick (Go.Operand.tmp 63) (Go.Operand.tmp 66) (Go.Operand.const (Go.Value.bool false)), type := 4, pos := "law.go:45", after := #[{ on := 1, ground := Go.Ground.data }, { on := 4, ground := Go.Ground.data }], guard := none }) (v := ?v5) rfl (by kernel_rfl) (by kernel_rfl) (by kernel_rfl) (fun _ _ _ h => h) (Or.inl ⟨by rfl, ?hy5⟩) (by assumption) ?rest5
  case hy5 => (intro w hSw; (try dsimp only at hSw); go_simp; try (with_reducible rfl))
  simp only [Act.put, List.setIfInBounds_toArray, List.set_cons_zero, List.set_cons_succ]
  refine wpAnyH_take (i := 6) (oi := { dst := some 68, op := Go.Op.move (Go.Operand.tmp 67), type := 4, pos := "law.go:45", after := #[{ on := 5, ground := Go.Ground.data }, { on := 1, ground := Go.Ground.chain }], guard := none }) (v := ?v6) rfl (by kernel_rfl) (by kernel_rfl) (by kernel_rfl) (fun _ _ _ h => h) (Or.inl ⟨by rfl, ?hy6⟩) (by assumption) ?rest6
  case hy6 => (intro w hSw; (try dsimp only at hSw); go_simp; try (with_reducible rfl))
  simp only [Act.put, List.setIfInBounds_toArray, List.set_cons_zero, List.set_cons_succ]
  refine wpAnyH_take (i := 7) (oi := { dst := some 69, op := Go.Op.move (Go.Operand.tmp 10), type := 4, pos := "law.go:45", after := #[{ on := 6, ground := Go.Ground.guard }], guard := some (6, true) }) (v := ?v7) rfl (by kernel_rfl) (by kernel_rfl) (by kernel_rfl) (fun _ _ _ h => h) (Or.inl ⟨by rfl, ?hy7⟩) (by assumption) ?rest7
  case hy7 => (intro w hSw; (try dsimp only at hSw); go_simp; try (with_reducible rfl))
  simp only [Act.put, List.setIfInBounds_toArray, List.set_cons_zero, List.set_cons_succ]
  refine wpAnyH_take (i := 8) (oi := { dst := some 70, op := Go.Op.pick (Go.Operand.tmp 68) (Go.Operand.tmp 69) (Go.Operand.const (Go.Value.bool false)), type := 4, pos := "law.go:45", after := #[{ on := 6, ground := Go.Ground.data }, { on := 7, ground := Go.Ground.data }], guard := none }) (v := ?v8) rfl (by kernel_rfl) (by kernel_rfl) (by kernel_rfl) (fun _ _ _ h => h) (Or.inl ⟨by rfl, ?hy8⟩) (by assumption) ?rest8
  case hy8 => (intro w hSw; (try dsimp only at hSw); go_simp; try (with_reducible rfl))
  simp only [Act.put, List.setIfInBounds_toArray, List.set_cons_zero, List.set_cons_succ]
  refine wpAnyH_take (i := 9) (oi := { dst := some 71, op := Go.Op.move (Go.Operand.tmp 70), type := 4, pos := "law.go:45", after := #[{ on := 8, ground := Go.Ground.data }, { on := 6, ground := Go.Ground.chain }], guard := none }) (v := ?v9) rfl (by kernel_rfl) (by kernel_rfl) (by kernel_rfl) (fun _ _ _ h => h) (Or.inl ⟨by rfl, ?hy9⟩) (by assumption) ?rest9
  case hy9 => (intro w hSw; (try dsimp only at hSw); go_simp; try (with_reducible rfl))
  simp only [Act.put, List.setIfInBounds_toArray, List.set_cons_zero, List.set_cons_succ]
  refine wpAnyH_take (i := 10) (oi := { dst := some 72, op := Go.Op.move (Go.Operand.tmp 11), type := 28, pos := "law.go:45", after := #[{ on := 9, ground := Go.Ground.guard }], guard := some (9, true) }) (v := ?v10) rfl (by kernel_rfl) (by kernel_rfl) (by kernel_rfl) (fun _ _ _ h => h) (Or.inl ⟨by rfl, ?hy10⟩) (by assumption) ?rest10
  case hy10 => (intro w hSw; (try dsimp only at hSw); go_simp; try (with_reducible rfl))
  simp only [Act.put, List.setIfInBounds_toArray, List.set_cons_zero, List.set_cons_succ]
  refine wpAnyH_ready (rs := [11]) (by kernel_rfl) (by simp) ?_
  refine AllReadyH.cons (o := { dst := some 73, op := Go.Op.call { callee := Go.Callee.value (Go.Operand.func 15), args := #[Go.Operand.tmp 72], argTypes := #[28] }, type := 3, pos := "law.go:45", after := #[{ on := 10, ground := Go.Ground.data }, { on := 9, ground := Go.Ground.chain }, { on := 9, ground := Go.Ground.guard }], guard := some (9, true) }) rfl (fun K hK => ?_) ?_
  ·
    go_simp
    go_at_call 15
    refine (code_c 1 _ 100 _ (ErrN.ext (w := w9) (Below.refl _ _).drew (by obtain ⟨fb, rfl, hbk⟩ := HE9.out; exact ⟨fb, _, _, _, rfl, hbk, rfl⟩)) (TypeVar.chg HG.out hg0 HC9.out.drew)).mono ?_
    rintro e w10 ⟨rfl, hb10⟩
    have HB10 := Lib.hid (show Below w9.heap.size w9 w10 from ext_trans (Below.refl _ _).drew hb10)
    have ca10 := (HA9.out.ext HB10.out).cell
    have cb10 := (HI9.out.ext HB10.out).cell
    have cc10 := (HK9.out.ext HB10.out).cell
    clear hb10
    refine hK.out _ _ ?_ (fun hHeld => ?_)
    · (refine ⟨?_, ?_, ?_, ?_, ?_, ?_, ?_, ?_, ?_⟩ <;> simp [*])
    clear hK K
    try simp only [Act.put, List.setIfInBounds_toArray, List.set_cons_zero, List.set_cons_succ]
    refine wpAnyH_take (i := 12) (oi := { dst := some 74, op := Go.Op.binOp Go.BinOp.eql 3 (Go.Operand.tmp 73) (Go.Operand.const (Go.Value.int Go.IntKind.i64 100)) 3, type := 4, pos := "law.go:45", after := #[{ on := 11, ground := Go.Ground.data }, { on := 9, ground := Go.Ground.guard }], guard := some (9, true) }) (v := ?v12) rfl (by kernel_rfl) (by kernel_rfl) (by kernel_rfl) (fun _ _ _ h => h) (Or.inl ⟨by rfl, ?hy12⟩) (by assumption) ?rest12
    case hy12 => (intro w hSw; (try dsimp only at hSw); go_simp; try (with_reducible rfl))
    simp only [Act.put, List.setIfInBounds_toArray, List.set_cons_zero, List.set_cons_succ]
    refine wpAnyH_take (i := 13) (oi := { dst := some 75, op := Go.Op.pick (Go.Operand.tmp 71) (Go.Operand.tmp 74) (Go.Operand.const (Go.Value.bool false)), type := 4, pos := "law.go:45", after := #[{ on := 9, ground := Go.Ground.data }, { on := 12, ground := Go.Ground.data }], guard := none }) (v := ?v13) rfl (by kernel_rfl) (by kernel_rfl) (by kernel_rfl) (fun _ _ _ h => h) (Or.inl ⟨by rfl, ?hy13⟩) (by assumption) ?rest13
    case hy13 => (intro w hSw; (try dsimp only at hSw); go_simp; try (with_reducible rfl))
    simp only [Act.put, List.setIfInBounds_toArray, List.set_cons_zero, List.set_cons_succ]
    refine wpAnyH_take (i := 14) (oi := { dst := some 76, op := Go.Op.move (Go.Operand.tmp 75), type := 4, pos := "law.go:45", after := #[{ on := 13, ground := Go.Ground.data }, { on := 11, ground := Go.Ground.chain }], guard := none }) (v := ?v14) rfl (by kernel_rfl) (by kernel_rfl) (by kernel_rfl) (fun _ _ _ h => h) (Or.inl ⟨by rfl, ?hy14⟩) (by assumption) ?rest14
    case hy14 => (intro w hSw; (try dsimp only at hSw); go_simp; try (with_reducible rfl))
    simp only [Act.put, List.setIfInBounds_toArray, List.set_cons_zero, List.set_cons_succ]
    refine wpAnyH_take (i := 15) (oi := { dst := some 77, op := Go.Op.move (Go.Operand.tmp 1), type := 26, pos := "law.go:45", after := #[{ on := 14, ground := Go.Ground.guard }], guard := some (14, true) }) (v := ?v15) rfl (by kernel_rfl) (by kernel_rfl) (by kernel_rfl) (fun _ _ _ h => h) (Or.inl ⟨by rfl, ?hy15⟩) (by assumption) ?rest15
    case hy15 => (intro w hSw; (try dsimp only at hSw); go_simp; try (with_reducible rfl))
    simp only [Act.put, List.setIfInBounds_toArray, List.set_cons_zero, List.set_cons_succ]
    refine wpAnyH_take (i := 16) (oi := { dst := some 78, op := Go.Op.load 24 (Go.Operand.tmp 5), type := 24, pos := "law.go:45", after := #[{ on := 14, ground := Go.Ground.guard }], guard := some (14, true) }) (v := ?v16) rfl (by kernel_rfl) (by kernel_rfl) (by kernel_rfl) (fun _ _ _ h => h) (Or.inl ⟨by rfl, ?hy16⟩) (by assumption) ?rest16
    case hy16 => (intro w hSw; (try dsimp only at hSw); go_simp; try (with_reducible rfl))
    simp only [Act.put, List.setIfInBounds_toArray, List.set_cons_zero, List.set_cons_succ]
    refine wpAnyH_ready (rs := [17]) (by kernel_rfl) (by simp) ?_
    refine AllReadyH.cons (o := { dst := some 79, op := Go.Op.call { callee := Go.Callee.value (Go.Operand.func 11), args := #[Go.Operand.tmp 77, Go.Operand.tmp 78], argTypes := #[26, 24] }, type := 4, pos := "law.go:45", after := #[{ on := 15, ground := Go.Ground.data }, { on := 16, ground := Go.Ground.data }, { on := 14, ground := Go.Ground.chain }, { on := 14, ground := Go.Ground.guard }], guard := some (14, true) }) rfl (fun K hK => ?_) ?_
    ·
      go_simp
      go_at_call 11
      refine (show Calls _ _ _ _ (BoolPost _ true) from has_c w.heap.size _ mb pb A8 cap8 48 [ic, ia] [⟨ia, q1, Q1, k1, [⟨1, 1⟩], 1⟩, ⟨ic, q3, Q3, k3, [], 0⟩] ia (HM9.out.ext HB10.out)).mono ?_
      rintro e w11 ⟨rfl, hb11⟩
      have HB11 := Lib.hid (show Below w9.heap.size w9 w11 from ext_trans HB10.out hb11)
      have ca11 := (HA9.out.ext HB11.out).cell
      have cb11 := (HI9.out.ext HB11.out).cell
      have cc11 := (HK9.out.ext HB11.out).cell
      clear hb11
      refine hK.out _ _ ?_ (fun hHeld => ?_)
      · (refine ⟨?_, ?_, ?_, ?_, ?_, ?_, ?_, ?_, ?_⟩ <;> simp [*])
      clear hK K
      try simp only [Act.put, List.setIfInBounds_toArray, List.set_cons_zero, List.set_cons_succ]
      refine wpAnyH_take (i := 18) (oi := { dst := some 80, op := Go.Op.pick (Go.Operand.tmp 76) (Go.Operand.tmp 79) (Go.Operand.const (Go.Value.bool false)), type := 4, pos := "law.go:45", after := #[{ on := 14, ground := Go.Ground.data }, { on := 17, ground := Go.Ground.data }], guard := none }) (v := ?v18) rfl (by kernel_rfl) (by kernel_rfl) (by kernel_rfl) (fun _ _ _ h => h) (Or.inl ⟨by rfl, ?hy18⟩) (by assumption) ?rest18
      case hy18 => (intro w hSw; (try dsimp only at hSw); go_simp; try (with_reducible rfl))
      simp only [Act.put, List.setIfInBounds_toArray, List.set_cons_zero, List.set_cons_succ]
      refine wpAnyH_take (i := 19) (oi := { dst := some 81, op := Go.Op.move (Go.Operand.tmp 80), type := 4, pos := "law.go:45", after := #[{ on := 18, ground := Go.Ground.data }, { on := 17, ground := Go.Ground.chain }], guard := none }) (v := ?v19) rfl (by kernel_rfl) (by kernel_rfl) (by kernel_rfl) (fun _ _ _ h => h) (Or.inl ⟨by rfl, ?hy19⟩) (by assumption) ?rest19
      case hy19 => (intro w hSw; (try dsimp only at hSw); go_simp; try (with_reducible rfl))
      simp only [Act.put, List.setIfInBounds_toArray, List.set_cons_zero, List.set_cons_succ]
      refine wpAnyH_take (i := 20) (oi := { dst := some 82, op := Go.Op.move (Go.Operand.tmp 1), type := 26, pos := "law.go:45", after := #[{ on := 19, ground := Go.Ground.guard }], guard := some (19, true) }) (v := ?v20) rfl (by kernel_rfl) (by kernel_rfl) (by kernel_rfl) (fun _ _ _ h => h) (Or.inl ⟨by rfl, ?hy20⟩) (by assumption) ?rest20
      case hy20 => (intro w hSw; (try dsimp only at hSw); go_simp; try (with_reducible rfl))
      simp only [Act.put, List.setIfInBounds_toArray, List.set_cons_zero, List.set_cons_succ]
      refine wpAnyH_take (i := 21) (oi := { dst := some 83, op := Go.Op.load 24 (Go.Operand.tmp 6), type := 24, pos := "law.go:45", after := #[{ on := 19, ground := Go.Ground.guard }], guard := some (19, true) }) (v := ?v21) rfl (by kernel_rfl) (by kernel_rfl) (by kernel_rfl) (fun _ _ _ h => h) (Or.inl ⟨by rfl, ?hy21⟩) (by assumption) ?rest21
      case hy21 => (intro w hSw; (try dsimp only at hSw); go_simp; try (with_reducible rfl))
      simp only [Act.put, List.setIfInBounds_toArray, List.set_cons_zero, List.set_cons_succ]
      refine wpAnyH_ready (rs := [22]) (by kernel_rfl) (by simp) ?_
      refine AllReadyH.cons (o := { dst := some 84, op := Go.Op.call { callee := Go.Callee.value (Go.Operand.func 11), args := #[Go.Operand.tmp 82, Go.Operand.tmp 83], argTypes := #[26, 24] }, type := 4, pos := "law.go:45", after := #[{ on := 20, ground := Go.Ground.data }, { on := 21, ground := Go.Ground.data }, { on := 19, ground := Go.Ground.chain }, { on := 19, ground := Go.Ground.guard }], guard := some (19, true) }) rfl (fun K hK => ?_) ?_
      ·
        go_simp
        go_at_call 11
        refine (show Calls _ _ _ _ (BoolPost _ false) from has_c w.heap.size _ mb pb A8 cap8 48 [ic, ia] [⟨ia, q1, Q1, k1, [⟨1, 1⟩], 1⟩, ⟨ic, q3, Q3, k3, [], 0⟩] ib (HM9.out.ext HB11.out)).mono ?_
        rintro e w12 ⟨rfl, hb12⟩
        have HB12 := Lib.hid (show Below w9.heap.size w9 w12 from ext_trans HB11.out hb12)
        have ca12 := (HA9.out.ext HB12.out).cell
        have cb12 := (HI9.out.ext HB12.out).cell
        have cc12 := (HK9.out.ext HB12.out).cell
        clear hb12
        refine hK.out _ _ ?_ (fun hHeld => ?_)
        · (refine ⟨?_, ?_, ?_, ?_, ?_, ?_, ?_, ?_, ?_⟩ <;> simp [*])
        clear hK K
        try simp only [Act.put, List.setIfInBounds_toArray, List.set_cons_zero, List.set_cons_succ]
        refine wpAnyH_take (i := 23) (oi := { dst := some 85, op := Go.Op.unOp Go.UnOp.not 4 (Go.Operand.tmp 84), type := 4, pos := "law.go:45", after := #[{ on := 22, ground := Go.Ground.data }, { on := 19, ground := Go.Ground.guard }], guard := some (19, true) }) (v := ?v23) rfl (by kernel_rfl) (by kernel_rfl) (by kernel_rfl) (fun _ _ _ h => h) (Or.inl ⟨by rfl, ?hy23⟩) (by assumption) ?rest23
        case hy23 => (intro w hSw; (try dsimp only at hSw); go_simp; try (with_reducible rfl))
        simp only [Act.put, List.setIfInBounds_toArray, List.set_cons_zero, List.set_cons_succ]
        refine wpAnyH_take (i := 24) (oi := { dst := some 86, op := Go.Op.pick (Go.Operand.tmp 81) (Go.Operand.tmp 85) (Go.Operand.const (Go.Value.bool false)), type := 4, pos := "law.go:45", after := #[{ on := 19, ground := Go.Ground.data }, { on := 23, ground := Go.Ground.data }], guard := none }) (v := ?v24) rfl (by kernel_rfl) (by kernel_rfl) (by kernel_rfl) (fun _ _ _ h => h) (Or.inl ⟨by rfl, ?hy24⟩) (by assumption) ?rest24
        case hy24 => (intro w hSw; (try dsimp only at hSw); go_simp; try (with_reducible rfl))
        simp only [Act.put, List.setIfInBounds_toArray, List.set_cons_zero, List.set_cons_succ]
        refine wpAnyH_take (i := 25) (oi := { dst := some 87, op := Go.Op.move (Go.Operand.tmp 86), type := 4, pos := "law.go:45", after := #[{ on := 24, ground := Go.Ground.data }, { on := 22, ground := Go.Ground.chain }], guard := none }) (v := ?v25) rfl (by kernel_rfl) (by kernel_rfl) (by kernel_rfl) (fun _ _ _ h => h) (Or.inl ⟨by rfl, ?hy25⟩) (by assumption) ?rest25
        case hy25 => (intro w hSw; (try dsimp only at hSw); go_simp; try (with_reducible rfl))
        simp only [Act.put, List.setIfInBounds_toArray, List.set_cons_zero, List.set_cons_succ]
        refine wpAnyH_take (i := 26) (oi := { dst := some 88, op := Go.Op.move (Go.Operand.tmp 1), type := 26, pos := "law.go:45", after := #[{ on := 25, ground := Go.Ground.guard }], guard := some (25, true) }) (v := ?v26) rfl (by kernel_rfl) (by kernel_rfl) (by kernel_rfl) (fun _ _ _ h => h) (Or.inl ⟨by rfl, ?hy26⟩) (by assumption) ?rest26
        case hy26 => (intro w hSw; (try dsimp only at hSw); go_simp; try (with_reducible rfl))
        simp only [Act.put, List.setIfInBounds_toArray, List.set_cons_zero, List.set_cons_succ]
        refine wpAnyH_take (i := 27) (oi := { dst := some 89, op := Go.Op.load 24 (Go.Operand.tmp 7), type := 24, pos := "law.go:45", after := #[{ on := 25, ground := Go.Ground.guard }], guard := some (25, true) }) (v := ?v27) rfl (by kernel_rfl) (by kernel_rfl) (by kernel_rfl) (fun _ _ _ h => h) (Or.inl ⟨by rfl, ?hy27⟩) (by assumption) ?rest27
        case hy27 => (intro w hSw; (try dsimp only at hSw); go_simp; try (with_reducible rfl))
        simp only [Act.put, List.setIfInBounds_toArray, List.set_cons_zero, List.set_cons_succ]
        refine wpAnyH_ready (rs := [28]) (by kernel_rfl) (by simp) ?_
        refine AllReadyH.cons (o := { dst := some 90, op := Go.Op.call { callee := Go.Callee.value (Go.Operand.func 11), args := #[Go.Operand.tmp 88, Go.Operand.tmp 89], argTypes := #[26, 24] }, type := 4, pos := "law.go:45", after := #[{ on := 26, ground := Go.Ground.data }, { on := 27, ground := Go.Ground.data }, { on := 25, ground := Go.Ground.chain }, { on := 25, ground := Go.Ground.guard }], guard := some (25, true) }) rfl (fun K hK => ?_) ?_
        ·
          go_simp
          go_at_call 11
          refine (show Calls _ _ _ _ (BoolPost _ true) from has_c w.heap.size _ mb pb A8 cap8 48 [ic, ia] [⟨ia, q1, Q1, k1, [⟨1, 1⟩], 1⟩, ⟨ic, q3, Q3, k3, [], 0⟩] ic (HM9.out.ext HB12.out)).mono ?_
          rintro e w13 ⟨rfl, hb13⟩
          have HB13 := Lib.hid (show Below w9.heap.size w9 w13 from ext_trans HB12.out hb13)
          have ca13 := (HA9.out.ext HB13.out).cell
          have cb13 := (HI9.out.ext HB13.out).cell
          have cc13 := (HK9.out.ext HB13.out).cell
          clear hb13
          refine hK.out _ _ ?_ (fun hHeld => ?_)
          · (refine ⟨?_, ?_, ?_, ?_, ?_, ?_, ?_, ?_, ?_⟩ <;> simp [*])
          clear hK K
          try simp only [Act.put, List.setIfInBounds_toArray, List.set_cons_zero, List.set_cons_succ]
          refine wpAnyH_take (i := 29) (oi := { dst := some 91, op := Go.Op.pick (Go.Operand.tmp 87) (Go.Operand.tmp 90) (Go.Operand.const (Go.Value.bool false)), type := 4, pos := "law.go:45", after := #[{ on := 25, ground := Go.Ground.data }, { on := 28, ground := Go.Ground.data }], guard := none }) (v := ?v29) rfl (by kernel_rfl) (by kernel_rfl) (by kernel_rfl) (fun _ _ _ h => h) (Or.inl ⟨by rfl, ?hy29⟩) (by assumption) ?rest29
          case hy29 => (intro w hSw; (try dsimp only at hSw); go_simp; try (with_reducible rfl))
          simp only [Act.put, List.setIfInBounds_toArray, List.set_cons_zero, List.set_cons_succ]
          refine wpAnyH_take (i := 30) (oi := { dst := some 92, op := Go.Op.move (Go.Operand.tmp 91), type := 4, pos := "law.go:45", after := #[{ on := 29, ground := Go.Ground.data }, { on := 28, ground := Go.Ground.chain }], guard := none }) (v := ?v30) rfl (by kernel_rfl) (by kernel_rfl) (by kernel_rfl) (fun _ _ _ h => h) (Or.inl ⟨by rfl, ?hy30⟩) (by assumption) ?rest30
          case hy30 => (intro w hSw; (try dsimp only at hSw); go_simp; try (with_reducible rfl))
          simp only [Act.put, List.setIfInBounds_toArray, List.set_cons_zero, List.set_cons_succ]
          refine wpAnyH_take (i := 31) (oi := { dst := some 93, op := Go.Op.move (Go.Operand.tmp 1), type := 26, pos := "law.go:45", after := #[{ on := 30, ground := Go.Ground.guard }], guard := some (30, true) }) (v := ?v31) rfl (by kernel_rfl) (by kernel_rfl) (by kernel_rfl) (fun _ _ _ h => h) (Or.inl ⟨by rfl, ?hy31⟩) (by assumption) ?rest31
          case hy31 => (intro w hSw; (try dsimp only at hSw); go_simp; try (with_reducible rfl))
          simp only [Act.put, List.setIfInBounds_toArray, List.set_cons_zero, List.set_cons_succ]
          refine wpAnyH_ready (rs := [32]) (by kernel_rfl) (by simp) ?_
          refine AllReadyH.cons (o := { dst := some 94, op := Go.Op.call { callee := Go.Callee.value (Go.Operand.func 13), args := #[Go.Operand.tmp 93], argTypes := #[26] }, type := 3, pos := "law.go:45", after := #[{ on := 31, ground := Go.Ground.data }, { on := 30, ground := Go.Ground.chain }, { on := 30, ground := Go.Ground.guard }], guard := some (30, true) }) rfl (fun K hK => ?_) ?_
          ·
            go_simp
            go_at_call 13
            refine (show Calls _ _ _ _ (UsedPost _ 32) from used_c w.heap.size _ mb pb A8 cap8 48 [ic, ia] [⟨ia, q1, Q1, k1, [⟨1, 1⟩], 1⟩, ⟨ic, q3, Q3, k3, [], 0⟩] (HM9.out.ext HB13.out) (by exact (by decide : 32 ≤ 140737488351232))).mono ?_
            rintro e w14 ⟨rfl, hb14⟩
            have HB14 := Lib.hid (show Below w9.heap.size w9 w14 from ext_trans HB13.out hb14)
            have ca14 := (HA9.out.ext HB14.out).cell
            have cb14 := (HI9.out.ext HB14.out).cell
            have cc14 := (HK9.out.ext HB14.out).cell
            clear hb14
            refine hK.out _ _ ?_ (fun hHeld => ?_)
            · (refine ⟨?_, ?_, ?_, ?_, ?_, ?_, ?_, ?_, ?_⟩ <;> simp [*])
            clear hK K
            try simp only [Act.put, List.setIfInBounds_toArray, List.set_cons_zero, List.set_cons_succ]
            refine wpAnyH_take (i := 33) (oi := { dst := some 95, op := Go.Op.binOp Go.BinOp.eql 3 (Go.Operand.tmp 94) (Go.Operand.const (Go.Value.int Go.IntKind.i64 32)) 3, type := 4, pos := "law.go:45", after := #[{ on := 32, ground := Go.Ground.data }, { on := 30, ground := Go.Ground.guard }], guard := some (30, true) }) (v := ?v33) rfl (by kernel_rfl) (by kernel_rfl) (by kernel_rfl) (fun _ _ _ h => h) (Or.inl ⟨by rfl, ?hy33⟩) (by assumption) ?rest33
            case hy33 => (intro w hSw; (try dsimp only at hSw); go_simp; try (with_reducible rfl))
            simp only [Act.put, List.setIfInBounds_toArray, List.set_cons_zero, List.set_cons_succ]
            refine wpAnyH_take (i := 34) (oi := { dst := some 96, op := Go.Op.pick (Go.Operand.tmp 92) (Go.Operand.tmp 95) (Go.Operand.const (Go.Value.bool false)), type := 4, pos := "law.go:45", after := #[{ on := 30, ground := Go.Ground.data }, { on := 33, ground := Go.Ground.data }], guard := none }) (v := ?v34) rfl (by kernel_rfl) (by kernel_rfl) (by kernel_rfl) (fun _ _ _ h => h) (Or.inl ⟨by rfl, ?hy34⟩) (by assumption) ?rest34
            case hy34 => (intro w hSw; (try dsimp only at hSw); go_simp; try (with_reducible rfl))
            simp only [Act.put, List.setIfInBounds_toArray, List.set_cons_zero, List.set_cons_succ]
            refine wpAnyH_take (i := 35) (oi := { dst := some 97, op := Go.Op.move (Go.Operand.tmp 96), type := 4, pos := "law.go:45", after := #[{ on := 34, ground := Go.Ground.data }, { on := 32, ground := Go.Ground.chain }], guard := none }) (v := ?v35) rfl (by kernel_rfl) (by kernel_rfl) (by kernel_rfl) (fun _ _ _ h => h) (Or.inl ⟨by rfl, ?hy35⟩) (by assumption) ?rest35
            case hy35 => (intro w hSw; (try dsimp only at hSw); go_simp; try (with_reducible rfl))
            simp only [Act.put, List.setIfInBounds_toArray, List.set_cons_zero, List.set_cons_succ]
            refine wpAnyH_take (i := 36) (oi := { dst := some 98, op := Go.Op.move (Go.Operand.tmp 1), type := 26, pos := "law.go:45", after := #[{ on := 35, ground := Go.Ground.guard }], guard := some (35, true) }) (v := ?v36) rfl (by kernel_rfl) (by kernel_rfl) (by kernel_rfl) (fun _ _ _ h => h) (Or.inl ⟨by rfl, ?hy36⟩) (by assumption) ?rest36
            case hy36 => (intro w hSw; (try dsimp only at hSw); go_simp; try (with_reducible rfl))
            simp only [Act.put, List.setIfInBounds_toArray, List.set_cons_zero, List.set_cons_succ]
            refine wpAnyH_ready (rs := [37]) (by kernel_rfl) (by simp) ?_
            refine AllReadyH.cons (o := { dst := some 99, op := Go.Op.call { callee := Go.Callee.value (Go.Operand.func 10), args := #[Go.Operand.tmp 98], argTypes := #[26] }, type := 37, pos := "law.go:45", after := #[{ on := 36, ground := Go.Ground.data }, { on := 35, ground := Go.Ground.chain }, { on := 35, ground := Go.Ground.guard }], guard := some (35, true) }) rfl (fun K hK => ?_) ?_
            ·
              go_simp
              go_at_call 10
              refine (show Calls _ _ _ _ (ClonePost _ 24 3 2 (idsC [ic, ia])) from ages_c w.heap.size _ mb pb A8 cap8 48 [ic, ia] [⟨ia, q1, Q1, k1, [⟨1, 1⟩], 1⟩, ⟨ic, q3, Q3, k3, [], 0⟩] (HM9.out.ext HB14.out) (by decide)).mono ?_
              rintro e w15 ⟨G15, c15, rfl, hown15, hc15, hb15⟩
              have HB15 := Lib.hid (show Below w9.heap.size w9 w15 from ext_trans HB14.out hb15)
              have ca15 := (HA9.out.ext HB15.out).cell
              have cb15 := (HI9.out.ext HB15.out).cell
              have cc15 := (HK9.out.ext HB15.out).cell
              clear hb15
              refine hK.out _ _ ?_ (fun hHeld => ?_)
              · (refine ⟨?_, ?_, ?_, ?_, ?_, ?_, ?_, ?_, ?_⟩ <;> simp [*])
              clear hK K
              try simp only [Act.put, List.setIfInBounds_toArray, List.set_cons_zero, List.set_cons_succ]
              refine wpAnyH_take (i := 38) (oi := { dst := some 100, op := Go.Op.call { callee := Go.Callee.builtin Go.Builtin.len, args := #[Go.Operand.tmp 99], argTypes := #[37] }, type := 3, pos := "law.go:45", after := #[{ on := 37, ground := Go.Ground.data }, { on := 35, ground := Go.Ground.guard }], guard := some (35, true) }) (v := ?v38) rfl (by kernel_rfl) (by kernel_rfl) (by kernel_rfl) (fun _ _ _ h => h) (Or.inl ⟨by rfl, ?hy38⟩) (by assumption) ?rest38
              case hy38 => (intro w hSw; (try dsimp only at hSw); go_simp; try (with_reducible rfl))
              simp only [Act.put, List.setIfInBounds_toArray, List.set_cons_zero, List.set_cons_succ]
              refine wpAnyH_take (i := 39) (oi := { dst := some 101, op := Go.Op.binOp Go.BinOp.eql 3 (Go.Operand.tmp 100) (Go.Operand.const (Go.Value.int Go.IntKind.i64 2)) 3, type := 4, pos := "law.go:45", after := #[{ on := 38, ground := Go.Ground.data }, { on := 35, ground := Go.Ground.guard }], guard := some (35, true) }) (v := ?v39) rfl (by kernel_rfl) (by kernel_rfl) (by kernel_rfl) (fun _ _ _ h => h) (Or.inl ⟨by rfl, ?hy39⟩) (by assumption) ?rest39
              case hy39 => (intro w hSw; (try dsimp only at hSw); go_simp; try (with_reducible rfl))
              simp only [Act.put, List.setIfInBounds_toArray, List.set_cons_zero, List.set_cons_succ]
              refine wpAnyH_take (i := 40) (oi := { dst := some 102, op := Go.Op.pick (Go.Operand.tmp 97) (Go.Operand.tmp 101) (Go.Operand.const (Go.Value.bool false)), type := 4, pos := "law.go:45", after := #[{ on := 35, ground := Go.Ground.data }, { on := 39, ground := Go.Ground.data }], guard := none }) (v := ?v40) rfl (by kernel_rfl) (by kernel_rfl) (by kernel_rfl) (fun _ _ _ h => h) (Or.inl ⟨by rfl, ?hy40⟩) (by assumption) ?rest40
              case hy40 => (intro w hSw; (try dsimp only at hSw); go_simp; try (with_reducible rfl))
              simp only [Act.put, List.setIfInBounds_toArray, List.set_cons_zero, List.set_cons_succ]
              refine wpAnyH_take (i := 41) (oi := { dst := some 103, op := Go.Op.move (Go.Operand.tmp 102), type := 4, pos := "law.go:45", after := #[{ on := 40, ground := Go.Ground.data }, { on := 37, ground := Go.Ground.chain }], guard := none }) (v := ?v41) rfl (by kernel_rfl) (by kernel_rfl) (by kernel_rfl) (fun _ _ _ h => h) (Or.inl ⟨by rfl, ?hy41⟩) (by assumption) ?rest41
              case hy41 => (intro w hSw; (try dsimp only at hSw); go_simp; try (with_reducible rfl))
              simp only [Act.put, List.setIfInBounds_toArray, List.set_cons_zero, List.set_cons_succ]
              refine wpAnyH_take (i := 42) (oi := { dst := some 104, op := Go.Op.move (Go.Operand.tmp 1), type := 26, pos := "law.go:45", after := #[{ on := 41, ground := Go.Ground.guard }], guard := some (41, true) }) (v := ?v42) rfl (by kernel_rfl) (by kernel_rfl) (by kernel_rfl) (fun _ _ _ h => h) (Or.inl ⟨by rfl, ?hy42⟩) (by assumption) ?rest42
              case hy42 => (intro w hSw; (try dsimp only at hSw); go_simp; try (with_reducible rfl))
              simp only [Act.put, List.setIfInBounds_toArray, List.set_cons_zero, List.set_cons_succ]
              refine wpAnyH_take (i := 46) (oi := { dst := some 108, op := Go.Op.load 24 (Go.Operand.tmp 7), type := 24, pos := "law.go:45", after := #[{ on := 41, ground := Go.Ground.guard }], guard := some (41, true) }) (v := ?v46) rfl (by kernel_rfl) (by kernel_rfl) (by kernel_rfl) (fun _ _ _ h => h) (Or.inl ⟨by rfl, ?hy46⟩) (by assumption) ?rest46
              case hy46 => (intro w hSw; (try dsimp only at hSw); go_simp; try (with_reducible rfl))
              simp only [Act.put, List.setIfInBounds_toArray, List.set_cons_zero, List.set_cons_succ]
              refine wpAnyH_ready (rs := [43]) (by kernel_rfl) (by simp) ?_
              refine AllReadyH.cons (o := { dst := some 105, op := Go.Op.call { callee := Go.Callee.value (Go.Operand.func 10), args := #[Go.Operand.tmp 104], argTypes := #[26] }, type := 37, pos := "law.go:45", after := #[{ on := 42, ground := Go.Ground.data }, { on := 41, ground := Go.Ground.chain }, { on := 41, ground := Go.Ground.guard }], guard := some (41, true) }) rfl (fun K hK => ?_) ?_
              ·
                go_simp
                go_at_call 10
                refine (show Calls _ _ _ _ (ClonePost _ 24 3 2 (idsC [ic, ia])) from ages_c w.heap.size _ mb pb A8 cap8 48 [ic, ia] [⟨ia, q1, Q1, k1, [⟨1, 1⟩], 1⟩, ⟨ic, q3, Q3, k3, [], 0⟩] (HM9.out.ext HB15.out) (by decide)).mono ?_
                rintro e w16 ⟨G16, c16, rfl, hown16, hc16, hb16⟩
                obtain ⟨ad, rfl, e0, e1, e2⟩ := (Rd.of_own (B := 0) hown16).ids (i := 0) (y := ic) (l := [ic, ia]) rfl (by omega)
                replace e0 : w16.cell? ad = some (.int .i64 3) := e0
                replace e1 : w16.cell? ⟨ad.block, ad.off + 1, none⟩ = some (.int .i64 0) := e1
                replace e2 : w16.cell? ⟨ad.block, ad.off + 2, none⟩ = some (.int .i64 0) := e2
                have HB16 := Lib.hid (show Below w9.heap.size w9 w16 from ext_trans HB15.out hb16)
                have ca16 := (HA9.out.ext HB16.out).cell
                have cb16 := (HI9.out.ext HB16.out).cell
                have cc16 := (HK9.out.ext HB16.out).cell
                clear hb16
                refine hK.out _ _ ?_ (fun hHeld => ?_)
                · (refine ⟨?_, ?_, ?_, ?_, ?_, ?_, ?_, ?_, ?_⟩ <;> simp [*])
                clear hK K
                try simp only [Act.put, List.setIfInBounds_toArray, List.set_cons_zero, List.set_cons_succ]
                refine wpAnyH_raise (S' := fun w' => ((fun w' => w'.cell? ⟨w3.heap.size, 0, none⟩ = some (.int .i64 1) ∧ w'.cell? ⟨w3.heap.size, 1, none⟩ = some (.int .i64 0) ∧ w'.cell? ⟨w3.heap.size, 2, none⟩ = some (.int .i64 0) ∧ w'.cell? ⟨w3.heap.size + 1, 0, none⟩ = some (.int .i64 2) ∧ w'.cell? ⟨w3.heap.size + 1, 1, none⟩ = some (.int .i64 0) ∧ w'.cell? ⟨w3.heap.size + 1, 2, none⟩ = some (.int .i64 0) ∧ w'.cell? ⟨w3.heap.size + 1 + 1, 0, none⟩ = some (.int .i64 3) ∧ w'.cell? ⟨w3.heap.size + 1 + 1, 1, none⟩ = some (.int .i64 0) ∧ w'.cell? ⟨w3.heap.size + 1 + 1, 2, none⟩ = some (.int .i64 0)) w') ∧ w'.cell? ad = some (.int .i64 3) ∧ w'.cell? ⟨ad.block, ad.off + 1, none⟩ = some (.int .i64 0) ∧ w'.cell? ⟨ad.block, ad.off + 2, none⟩ = some (.int .i64 0)) (fun _ h => h.1) _ _ _ _ ?_
                replace hHeld := And.intro hHeld (And.intro e0 (And.intro e1 e2))
                refine wpAnyH_take (i := 44) (oi := { dst := some 106, op := Go.Op.indexAddr 37 (Go.Operand.tmp 105) (Go.Operand.const (Go.Value.int Go.IntKind.i64 0)), type := 0, pos := "law.go:45", after := #[{ on := 43, ground := Go.Ground.data }, { on := 41, ground := Go.Ground.guard }], guard := some (41, true) }) (v := ?v44) rfl (by kernel_rfl) (by kernel_rfl) (by kernel_rfl) (fun _ _ _ h => h) (Or.inl ⟨by rfl, ?hy44⟩) (by assumption) ?rest44
                case hy44 => (intro w hSw; (try dsimp only at hSw); go_simp; try (with_reducible rfl))
                simp only [Act.put, List.setIfInBounds_toArray, List.set_cons_zero, List.set_cons_succ]
                refine wpAnyH_take (i := 45) (oi := { dst := some 107, op := Go.Op.load 24 (Go.Operand.tmp 106), type := 24, pos := "law.go:45", after := #[{ on := 44, ground := Go.Ground.data }, { on := 41, ground := Go.Ground.guard }], guard := some (41, true) }) (v := ?v45) rfl (by kernel_rfl) (by kernel_rfl) (by kernel_rfl) (fun _ _ _ h => h) (Or.inl ⟨by rfl, ?hy45⟩) (by assumption) ?rest45
                case hy45 => (intro w hSw; (try dsimp only at hSw); go_simp; try (with_reducible rfl))
                simp only [Act.put, List.setIfInBounds_toArray, List.set_cons_zero, List.set_cons_succ]
                refine wpAnyH_take (i := 47) (oi := { dst := some 109, op := Go.Op.binOp Go.BinOp.eql 24 (Go.Operand.tmp 107) (Go.Operand.tmp 108) 24, type := 4, pos := "law.go:45", after := #[{ on := 45, ground := Go.Ground.data }, { on := 46, ground := Go.Ground.data }, { on := 41, ground := Go.Ground.guard }], guard := some (41, true) }) (v := ?v47) rfl (by kernel_rfl) (by kernel_rfl) (by kernel_rfl) (fun _ _ _ h => h) (Or.inl ⟨by rfl, ?hy47⟩) (by assumption) ?rest47
                case hy47 => (intro w hSw; (try dsimp only at hSw); go_simp; try (with_reducible rfl))
                simp only [Act.put, List.setIfInBounds_toArray, List.set_cons_zero, List.set_cons_succ]
                refine wpAnyH_take (i := 48) (oi := { dst := some 110, op := Go.Op.pick (Go.Operand.tmp 103) (Go.Operand.tmp 109) (Go.Operand.const (Go.Value.bool false)), type := 4, pos := "law.go:45", after := #[{ on := 41, ground := Go.Ground.data }, { on := 47, ground := Go.Ground.data }], guard := none }) (v := ?v48) rfl (by kernel_rfl) (by kernel_rfl) (by kernel_rfl) (fun _ _ _ h => h) (Or.inl ⟨by rfl, ?hy48⟩) (by assumption) ?rest48
                case hy48 => (intro w hSw; (try dsimp only at hSw); go_simp; try (with_reducible rfl))
                simp only [Act.put, List.setIfInBounds_toArray, List.set_cons_zero, List.set_cons_succ]
                refine wpAnyH_take (i := 49) (oi := { dst := some 0, op := Go.Op.assign (Go.Operand.tmp 110), type := 4, pos := "law.go:45", after := #[{ on := 48, ground := Go.Ground.data }, { on := 43, ground := Go.Ground.chain }, { on := 0, ground := Go.Ground.phase }, { on := 1, ground := Go.Ground.phase }, { on := 2, ground := Go.Ground.phase }, { on := 3, ground := Go.Ground.phase }, { on := 4, ground := Go.Ground.phase }, { on := 5, ground := Go.Ground.phase }, { on := 6, ground := Go.Ground.phase }, { on := 7, ground := Go.Ground.phase }, { on := 8, ground := Go.Ground.phase }, { on := 9, ground := Go.Ground.phase }, { on := 10, ground := Go.Ground.phase }, { on := 11, ground := Go.Ground.phase }, { on := 12, ground := Go.Ground.phase }, { on := 13, ground := Go.Ground.phase }, { on := 14, ground := Go.Ground.phase }, { on := 15, ground := Go.Ground.phase }, { on := 16, ground := Go.Ground.phase }, { on := 17, ground := Go.Ground.phase }, { on := 18, ground := Go.Ground.phase }, { on := 19, ground := Go.Ground.phase }, { on := 20, ground := Go.Ground.phase }, { on := 21, ground := Go.Ground.phase }, { on := 22, ground := Go.Ground.phase }, { on := 23, ground := Go.Ground.phase }, { on := 24, ground := Go.Ground.phase }, { on := 25, ground := Go.Ground.phase }, { on := 26, ground := Go.Ground.phase }, { on := 27, ground := Go.Ground.phase }, { on := 28, ground := Go.Ground.phase }, { on := 29, ground := Go.Ground.phase }, { on := 30, ground := Go.Ground.phase }, { on := 31, ground := Go.Ground.phase }, { on := 32, ground := Go.Ground.phase }, { on := 33, ground := Go.Ground.phase }, { on := 34, ground := Go.Ground.phase }, { on := 35, ground := Go.Ground.phase }, { on := 36, ground := Go.Ground.phase }, { on := 37, ground := Go.Ground.phase }, { on := 38, ground := Go.Ground.phase }, { on := 39, ground := Go.Ground.phase }, { on := 40, ground := Go.Ground.phase }, { on := 41, ground := Go.Ground.phase }, { on := 42, ground := Go.Ground.phase }, { on := 43, ground := Go.Ground.phase }, { on := 44, ground := Go.Ground.phase }, { on := 45, ground := Go.Ground.phase }, { on := 46, ground := Go.Ground.phase }, { on := 47, ground := Go.Ground.phase }, { on := 48, ground := Go.Ground.phase }], guard := none }) (v := ?v49) rfl (by kernel_rfl) (by kernel_rfl) (by kernel_rfl) (fun _ _ _ h => h) (Or.inl ⟨by rfl, ?hy49⟩) (by assumption) ?rest49
                case hy49 => (intro w hSw; (try dsimp only at hSw); go_simp; try (with_reducible rfl))
                simp only [Act.put, List.setIfInBounds_toArray, List.set_cons_zero]
                refine wpAnyH_done (by kernel_rfl) ?_ _
                go_wp2
                go_ret
                exact ⟨rfl, ext_trans (HC9.out.below (Nat.le_refl _)) HB16.out⟩
              exact AllReadyH.nil
            exact AllReadyH.nil
          exact AllReadyH.nil
        exact AllReadyH.nil
      exact AllReadyH.nil
    exact AllReadyH.nil
  exact AllReadyH.nil
end Go.Proofs.YtgigdhfdpabmoaaDoor
