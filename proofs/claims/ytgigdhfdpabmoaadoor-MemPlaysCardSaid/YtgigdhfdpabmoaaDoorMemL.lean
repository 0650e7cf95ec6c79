/- List, given what the sort does. -/
import Derived.Test.YtgigdhfdpabmoaaDoorMemK
namespace Go.Proofs.YtgigdhfdpabmoaaDoor
open Go.RowKit Go.Sort

def pzT (z : Pz) : Id3 × List Rw := (z.id, z.rows)
def pcT (p : Pc) : Id3 × List Rw := (p.id, p.rows)
def pzS (z : Pz) : Value := .slice z.A z.rows.length z.cap
/-- The rows of the pieces are the call's own, each in a block of its own. -/
structure PzOwn (base : Nat) (w : World) (l : List Pz) : Prop where
  own : ∀ z ∈ l, w.ownsRow base 58 2 (pzS z) z.rows.length (rwsC z.rows)
  ne : l.Pairwise fun x y => ∀ k, (pzS x).ownBlock = some k → (pzS y).ownBlock ≠ some k
def ListPost (w : World) (ps : List Pc) (e : Ending) (w' : World) : Prop :=
  ∃ A c l, e = .returned (.slice A l.length c) ∧ (l.map pzT).Perm (ps.map pcT) ∧ l.Pairwise (fun x y => bef y.id x.id = false) ∧ w'.ownsRow w.heap.size 47 4 (.slice A l.length c) l.length (pzsC l) ∧ PzOwn w.heap.size w' l ∧ Below w.heap.size w w'

theorem grownBy_of_below {w w' : World} (hb : Below w.heap.size w w') : w.grownBy w' none := ⟨hb.os, hb.tape, hb.output, hb.size, fun k hk _ => hb.block k hk⟩
theorem own_ne_own {w : World} {base base' : Nat} {e e' : TypeId} {z z' n n' : Nat} {v v' : Value} {xs xs' : List Value} (h : w.ownsRow base e z v n xs) (h' : w.ownsRow base' e' z' v' n' xs') (hne : e ≠ e') : v.ownBlock = none ∨ v.ownBlock ≠ v'.ownBlock := by
  rcases h.2 with ⟨hv, _⟩ | ⟨g, c, cur, hv, _, hg, _⟩
  · left; rw [hv]; rfl
  · right
    rcases h'.2 with ⟨hv', _⟩ | ⟨g', c', cur', hv', _, hg', _⟩
    · rw [hv, hv']; simp [Value.ownBlock]
    · rw [hv, hv']
      simp only [Value.ownBlock, ne_eq, Option.some.injEq]
      rintro rfl
      rw [hg] at hg'
      cases hg'
      exact hne rfl
theorem Rd.grownOwn {w w' : World} {B base : Nat} {e e' : TypeId} {z size n m : Nat} {A : Option Addr} {xs ys : List Value} {v : Value} (h : Rd w B e size A n xs) (hown : w.ownsRow base e' z v m ys) (hne : e' ≠ e) (hB : B ≤ base) (hg : w.grownBy w' v.ownBlock) : Rd w' B e size A n xs :=
  h.keep fun k o hk hc => by
    refine (hg.block k (lt_of_some hk) ?_).trans hk
    intro he
    rcases hown.2 with ⟨hv, _⟩ | ⟨g, c, cur, hv, hb, hgg, _⟩
    · rw [hv] at he; simp [Value.ownBlock] at he
    · rw [hv] at he
      simp only [Value.ownBlock, Option.some.injEq] at he
      subst he
      rcases hc with hc | ⟨c', f, rfl⟩
      · omega
      · rw [hgg] at hk; cases hk; exact hne rfl
theorem IterIs.grownOwn {α : Type} {enc : α → Value} {w w' : World} {r b base : Nat} {m left : List (α × Value)} {e' : TypeId} {z n : Nat} {ys : List Value} {v : Value} (h : IterIs enc w r b m left) (hown : w.ownsRow base e' z v n ys) (hg : w.grownBy w' v.ownBlock) : IterIs enc w' r b m left := by
  obtain ⟨x1, x2, x3, x4, ho⟩ := h.obj
  obtain ⟨es, cl, hm⟩ := h.isMap.obj
  have hne : ∀ k o, w.heap[k]? = some o → (∀ c f, o ≠ .cells c e' f) → some k ≠ v.ownBlock := by
    intro k o hk ho he
    rcases hown.2 with ⟨hv, _⟩ | ⟨g, c, cur, hv, hb, hgg, _⟩
    · rw [hv] at he; simp [Value.ownBlock] at he
    · rw [hv] at he
      simp only [Value.ownBlock, Option.some.injEq] at he
      subst he
      rw [hgg] at hk
      exact ho _ _ (Option.some.inj hk).symm
  exact h.keep (hg.block _ h.lt (hne _ _ ho (by intro c f h; cases h))) (hg.block _ h.isMap.lt (hne _ _ hm (by intro c f h; cases h)))
theorem below_grownOwn {w0 w w' : World} {base : Nat} {e' : TypeId} {z n : Nat} {ys : List Value} {v : Value} (h : Below w0.heap.size w0 w) (hown : w.ownsRow base e' z v n ys) (hB : w0.heap.size ≤ base) (hg : w.grownBy w' v.ownBlock) : Below w0.heap.size w0 w' :=
  h.grown hg h.size (fun k hk => by have := (hown.lt _ hk).1; omega)

set_option maxHeartbeats 4000000 in
theorem list_c (hsort : SortC) (B : Nat) (w : World) (mb pb : Nat) (A : Option Addr) (cap : Nat) (max : Int) (ages : List Id3) (ps : List Pc) (h : MemAt B w mb pb A cap max ages ps) (hs : usedN ps ≤ 1073741824) :
    Calls Tryd.prog 18 #[.pointer (some ⟨mb, 0, none⟩)] w (ListPost w ps) := by
  have h1 := h.c1
  have hlt := World.block_lt_of_cell? w _ h1
  have hm := h.map
  have HP := Lib.hid h.pcs
  have hul := usedN_len ps
  clear h
  have HS := Lib.hid hsort
  clear hsort
  go_enter Tryd.func18, Tryd.ntmps18
  go_wp2_with (first | (at_range; refine wpList_range_is _ rfl _ 62 rfl 65 Tryd.underlying62 pb _ rfl hm ?_; intro ob hi; go_frame))
  go_loopg [3] ps.length (fun k v3 wr => ∃ (left : List Pc) (l : List Pz), left.length = k ∧ (∀ p ∈ left, p ∈ ps) ∧ IterIs idV wr w.heap.size pb (ps.map fun p => (pcK p, pcV p)) (left.map fun p => (pcK p, pcV p)) ∧
    wr.ownsRow w.heap.size 47 4 v3 l.length (pzsC l) ∧ Hid ((l.map pzT ++ left.map pcT).Perm (ps.map pcT)) ∧ PzOwn w.heap.size wr l ∧ l.length + left.length = ps.length ∧ Below w.heap.size w wr)
  case atStart => exact ⟨ps, [], rfl, fun _ h => h, hi, World.ownsRow_nil _ _ _ _, List.Perm.refl _, ⟨by simp, List.Pairwise.nil⟩, by simp, ext_alloc (Below.refl _ _) _⟩
  case round =>
    obtain ⟨left, l, hk, hin, hit, hown, hperm, hpo, hll, hb⟩ := hrel
    clear hi
    obtain ⟨A0, d0, rfl, hd0⟩ := own_shape hown
    go_wp2_with (first | (at_next; refine wpList_next_is _ rfl _ rfl pcK pcV pb w.heap.size _ left rfl hit ?_ ?_))
    · intro hl
      subst hl
      have hlb : l.length ≤ 1073741824 := by simp only [List.length_nil] at hll; omega
      go_wp2_with (first | (go_at_call 43; refine (HS.out _ w.heap.size A0 d0 l hown hb.size hlb).mono ?_; rintro e w2 ⟨rfl, l', hp', hsrt, hown2, hg2⟩))
      go_ret
      have hpl : l'.length = l.length := hp'.length_eq
      refine ⟨A0, d0, l', by rw [hpl]; rfl, ?_, hsrt, hown2, ⟨fun z hz => ?_, ?_⟩, below_grownOwn hb hown (Nat.le_refl _) hg2⟩
      · refine (hp'.map pzT).trans ?_
        simpa using hperm.out
      · have hz' := hp'.mem_iff.1 hz
        exact (hpo.own z hz').kept hg2 (own_ne_own (hpo.own z hz') hown (by decide))
      · refine (hp'.symm.pairwise_iff ?_).1 hpo.ne
        intro x y hxy k hk he
        exact hxy k he hk
    · intro q l1 l2 w1 hl hi1 hg1 hs1 hen
      have hq : q ∈ ps := hin q (by rw [hl]; simp)
      have hP := HP.out q hq
      have hbw1 : Below w.heap.size w w1 := hb.grown hg1 hb.size (fun k hk => by cases hk; exact Nat.le_refl _)
      have hPw := hP.ext hbw1
      have c0 := hPw.c0
      have hqlt := hPw.blk.lt
      have hlen : q.rows.length ≤ 1073741824 := by have := usedN_mem hq; unfold szR at this; omega
      have hk1 : (l1 ++ l2).length < gk := by rw [← hk, hl]; simp
      have hin' : ∀ p ∈ l1 ++ l2, p ∈ ps := fun p hp => hin p (by rw [hl]; rcases List.mem_append.1 hp with h | h <;> simp [h])
      obtain ⟨x1, x2, x3, x4, hobj⟩ := hit.obj
      have hitn : ∀ {e' : TypeId} {z n : Nat} {v : Value} {xs : List Value} {base : Nat}, wr.ownsRow base e' z v n xs → v.ownBlock = none ∨ v.ownBlock ≠ some w.heap.size := by
        intro e' z n v xs base h'
        rcases h'.2 with ⟨hv, _⟩ | ⟨g, c, cur, hv, _, hg, _⟩
        · left; rw [hv]; rfl
        · right; rw [hv]; simp only [Value.ownBlock, ne_eq, Option.some.injEq]; rintro rfl; rw [hobj] at hg; cases hg
      have hown1 : w1.ownsRow w.heap.size 47 4 (.slice A0 l.length d0) l.length (pzsC l) := hown.kept hg1 (hitn hown)
      have hpo1 : PzOwn w.heap.size w1 l := ⟨fun z hz => (hpo.own z hz).kept hg1 (hitn (hpo.own z hz)), hpo.ne⟩
      have HPO := Lib.hid hpo1
      have HI1 := Lib.hid hi1
      have HOW := Lib.hid hown1
      have HBW := Lib.hid hbw1
      have HPW := Lib.hid hPw
      have HLL := Lib.hid hl
      have HPE := Lib.hid hperm
      have hwl : w.heap.size ≤ w1.heap.size := hbw1.size
      clear hpo1 hi1 hown1 hbw1 hPw hl hpo hown hit hperm hb hg1 hitn hobj hP hs1
      simp only [pcV, pcK] at hen ⊢
      go_wp2
      go_region_held3 (fun w' => w'.cell? ⟨w1.heap.size, 0, none⟩ = some (.int .i64 q.id.b) ∧ w'.cell? ⟨w1.heap.size, 1, none⟩ = some (.int .i64 q.id.s) ∧ w'.cell? ⟨w1.heap.size, 2, none⟩ = some (.int .i64 q.id.p) ∧ w'.cell? ⟨q.hb, 0, none⟩ = some (.slice q.A q.rows.length q.cap)) (first | go_keep)
        (first
          | (go_at_call 40; refine (clone_row_c B _ q.A q.cap q.rows ((HPW.out.rows.alloc _).drew) (by omega)).mono ?_
             rintro e w2 ⟨A2, c2, rfl, hown2, hc2, hb2⟩
             have HK2 := Lib.hid (((Bk.new w1 24 #[.int .i64 q.id.b, .int .i64 q.id.s, .int .i64 q.id.p]).drew).ext hb2)
             have HP2 := Lib.hid ((HPW.out.blk.alloc (.cells #[.int .i64 q.id.b, .int .i64 q.id.s, .int .i64 q.id.p] 24)).drew.ext hb2)
             have HB2 := Lib.hid (show Below w1.heap.size w1 w2 from ext_trans (ext_alloc (Below.refl _ _) _).drew hb2)
             have HO2 := Lib.hid (HOW.out.kept (grownBy_of_below HB2.out) (by cases (Value.slice A0 l.length d0).ownBlock <;> simp))
             have k2 := HK2.out.cell
             have p2 : w2.cell? ⟨q.hb, 0, none⟩ = some (.slice q.A q.rows.length q.cap) := (by rw [HP2.out.cell]; rfl)
             have HW2 := Lib.hid hown2
             clear hb2 hown2)
          | (refine step_appE pz_app _ rfl (.tmp 16) (.tmp 24) rfl w.heap.size _ l (by rfl) (HO2.out.alloc _) ⟨q.id, A2, c2, q.rows⟩ _ (by rfl) (Bk.new _ _ _) (by omega) (by have := HB2.out.size; simp only [World.size_alloc]; omega) ?_
             intro A3 c3 w3 hown3 hg3 hc3
             have hbx3 : ∀ k t cs, k < w2.heap.size → Bk w2 k t cs → t ≠ 47 → Bk w3 k t cs := (fun k t cs hk hbk hne => (hbk.alloc _).grown hg3 (fun he => by
               rcases (HO2.out.alloc _).2 with ⟨hv, _⟩ | ⟨g, c, cur, hv, _, hgg, _⟩
               · rw [hv] at he; simp [Value.ownBlock] at he
               · rw [hv] at he
                 simp only [Value.ownBlock, Option.some.injEq] at he
                 subst he
                 have hh := hbk.alloc (.cells (pzC ⟨q.id, A2, c2, q.rows⟩).toArray 47)
                 unfold Bk at hh
                 rw [hgg] at hh
                 injection hh with hh
                 injection hh with _ ht
                 exact hne ht.symm))
             have k3 := (hbx3 _ _ _ HK2.out.lt HK2.out (by decide)).cell
             have p3 : w3.cell? ⟨q.hb, 0, none⟩ = some (.slice q.A q.rows.length q.cap) := (by rw [(hbx3 _ _ _ HP2.out.lt HP2.out (by decide)).cell]; rfl)))
      go_wp2
      have hOA := HO2.out.alloc (.cells (pzC ⟨q.id, A2, c2, q.rows⟩).toArray 47)
      go_roundg (l1 ++ l2).length
      case measure => exact hk1
      case rel =>
        refine ⟨l1 ++ l2, l ++ [⟨q.id, A2, c2, q.rows⟩], rfl, hin', (((by rw [List.map_append]; exact HI1.out.ext HB2.out : IterIs _ w2 _ _ _ _).ext ((Below.refl _ _).alloc (Nat.le_refl _) _)).grownOwn hOA hg3), (by have h := hown3; simp only [List.length_append, List.length_cons, List.length_nil, Nat.zero_add] at h ⊢; exact h), ?_, ⟨fun z hz => ?_, ?_⟩, ?_, below_grownOwn (ext_alloc (ext_trans HBW.out HB2.out) _) hOA (Nat.le_refl _) hg3⟩
        · have hp := HPE.out
          rw [HLL.out] at hp
          refine List.Perm.trans ?_ hp
          simp only [List.map_append, List.map_cons, List.map_nil, List.append_assoc, List.singleton_append]
          exact List.Perm.append_left _ List.perm_middle.symm
        · rcases List.mem_append.1 hz with hz | hz
          · have h1 := ((HPO.out.own z hz).kept (grownBy_of_below HB2.out) (by cases (pzS z).ownBlock <;> simp)).alloc (.cells (pzC ⟨q.id, A2, c2, q.rows⟩).toArray 47)
            exact h1.kept hg3 (own_ne_own h1 hOA (by decide))
          · rw [List.mem_singleton] at hz
            subst hz
            have h1 := (own_mono HW2.out (base' := w.heap.size) (by simp only [World.size_drew, World.size_alloc]; omega)).alloc (.cells (pzC ⟨q.id, A2, c2, q.rows⟩).toArray 47)
            exact h1.kept hg3 (own_ne_own h1 hOA (by decide))
        · rw [List.pairwise_append]
          refine ⟨HPO.out.ne, List.pairwise_singleton _ _, fun x hx y hy k hkx hky => ?_⟩
          rw [List.mem_singleton] at hy
          subst hy
          have h1 := ((HPO.out.own x hx).lt k hkx).2
          have h2 := (HW2.out.lt k hky).1
          simp only [World.size_drew, World.size_alloc] at h2
          omega
        · have hh := HLL.out
          rw [hh] at hll
          simp only [List.length_append, List.length_cons, List.length_nil] at hll ⊢
          omega
end Go.Proofs.YtgigdhfdpabmoaaDoor
