/- CkL, CkM, Lit, Free, CkT, AppG, Pre, Same2, Open, KpP, Ids, Swap, WhP: laid together. -/
import Derived.Test.YtipfoljmdeiggaaGreatDoorPwJ
import Derived.Test.YtipfoljmdeiggaaGreatDoorPwI
import Derived.Test.YtipfoljmdeiggaaGreatDoorPwH
import Derived.Test.YtipfoljmdeiggaaGreatDoorPwB
import Derived.Test.YtipfoljmdeiggaaGreatDoorPwE
import Derived.Test.YtipfoljmdeiggaaGreatDoorPwA
import Derived.ProofKit
import Derived.Deep.Slices
import Derived.WideShapes

/- The checkpoints' store: List of the program, given what the sort does. -/
namespace Go.Proofs.YtipfoljmdeiggaaGreatDoor
open Go.RowKit Go.Sort

/-- The rows of the pieces are the call's own, each in a block of its own. -/
structure PzOwn (base : Nat) (w : World) (l : List Pz) : Prop where
  own : ∀ z ∈ l, w.ownsRow base 74 2 (pzS z) z.rows.length (rwsC z.rows)
  ne : l.Pairwise fun x y => ∀ k, (pzS x).ownBlock = some k → (pzS y).ownBlock ≠ some k
def CkListPost (w : World) (ps : List (Id3 × List Rw)) (e : Ending) (w' : World) : Prop :=
  ∃ A c l, e = .returned (.slice A l.length c) ∧ (l.map pzT).Perm ps ∧ l.Pairwise (fun x y => bef y.id x.id = false) ∧ w'.ownsRow w.heap.size 83 4 (.slice A l.length c) l.length (pzsC l) ∧ PzOwn w.heap.size w' l ∧ Below w.heap.size w w'
section
variable {B db : Nat} {X : CkX} {p : PlanD} {A : Option Addr} {c : Nat} {d : DiskD} {ps : List (Id3 × List Rw)}
set_option maxRecDepth 100000 in
set_option maxHeartbeats 8000000 in
theorem ckList_c (hsort : SortC) (w : World) (h : CkAt B db X p A c d ps ps w) :
    Calls Tryz.prog 28 #[.pointer (some ⟨X.sb, 0, none⟩)] w (CkListPost w ps) := by
  have h1 : w.cell? ⟨X.sb, 6, none⟩ = some (.map (some X.mb)) := (h.bk.cell 6).trans rfl
  have hlt := h.bk.lt
  have hm := h.map
  have hzl : X.zs.length ≤ 65536 := by
    have h2 := h.ok.le
    have h3 := h.disk.room_le
    have h4 : X.zs.length = ps.length := by rw [← h.zz, List.length_map]
    omega
  have h64 : ∀ z ∈ X.zs, z.rows.length ≤ 64 := fun z hz => (h.ok.may (pzT z) (by rw [← h.zz]; exact List.mem_map_of_mem hz)).rows
  have H64 := Lib.hid h64
  have HRw := Lib.hid h.rows
  have HZZ := Lib.hid h.zz
  obtain ⟨zs, hzs⟩ : ∃ zs, zs = X.zs := ⟨_, rfl⟩
  rw [← hzs] at hm hzl H64 HRw HZZ
  clear h hzs h64
  have HS := Lib.hid hsort
  clear hsort
  go_enter Tryz.func28, Tryz.ntmps28
  go_wp2_with (first | (at_range; refine wpList_range_is _ rfl _ 185 rfl 56 Tryz.underlying185 X.mb _ rfl hm ?_; intro ob hi; go_frame))
  go_loopg [3] zs.length (fun k v3 wr => ∃ (left l : List Pz), left.length = k ∧ (∀ q ∈ left, q ∈ zs) ∧ IterIs idV wr w.heap.size X.mb (zs.map fun q => (q.id, pzS q)) (left.map fun q => (q.id, pzS q)) ∧
    wr.ownsRow w.heap.size 83 4 v3 l.length (pzsC l) ∧ Hid ((l.map pzT ++ left.map pzT).Perm (zs.map pzT)) ∧ PzOwn w.heap.size wr l ∧ l.length + left.length = zs.length ∧ Below w.heap.size w wr)
  case atStart => exact ⟨zs, [], rfl, fun _ h => h, hi, World.ownsRow_nil _ _ _ _, Lib.hid (List.Perm.refl _), ⟨by simp, List.Pairwise.nil⟩, by simp, ext_alloc (Below.refl _ _) _⟩
  case round =>
    obtain ⟨left, l, hk, hin, hit, hown, hperm, hpo, hll, hb⟩ := hrel
    clear hi
    obtain ⟨A0, d0, rfl, hd0⟩ := own_shape hown
    go_wp2_with (first | (at_next; refine wpList_next_is _ rfl _ rfl (fun q : Pz => q.id) pzS X.mb w.heap.size _ left rfl hit ?_ ?_))
    · intro hl
      subst hl
      have hlb : l.length ≤ 1073741824 := by simp only [List.length_nil] at hll; omega
      go_wp2_with (first | (go_at_call 122; refine (HS.out _ w.heap.size A0 d0 l hown hb.size hlb).mono ?_; rintro e w2 ⟨rfl, l', hp', hsrt, hown2, hg2⟩))
      go_ret
      have hpl : l'.length = l.length := hp'.length_eq
      refine ⟨A0, d0, l', by rw [hpl]; rfl, ?_, hsrt, hown2, ⟨fun z hz => ?_, ?_⟩, below_grownOwn hb hown (Nat.le_refl _) hg2⟩
      · rw [← HZZ.out]
        refine (hp'.map pzT).trans ?_
        simpa using hperm.out
      · have hz' := hp'.mem_iff.1 hz
        exact (hpo.own z hz').kept hg2 (own_ne_own (hpo.own z hz') hown (by decide))
      · refine (hp'.symm.pairwise_iff ?_).1 hpo.ne
        intro x y hxy k hk he
        exact hxy k he hk
    · intro q l1 l2 w1 hl hi1 hg1 hs1 hen
      have hq : q ∈ zs := hin q (by rw [hl]; simp)
      have hbw1 : Below w.heap.size w w1 := hb.grown hg1 hb.size (fun k hk => by cases hk; exact Nat.le_refl _)
      have hPw := (HRw.out q hq).ext hbw1
      have hlen : q.rows.length ≤ 1073741824 := by have := H64.out q hq; omega
      have hk1 : (l1 ++ l2).length < gk := by rw [← hk, hl]; simp
      have hin' : ∀ p ∈ l1 ++ l2, p ∈ zs := fun p hp => hin p (by rw [hl]; rcases List.mem_append.1 hp with h | h <;> simp [h])
      obtain ⟨x1, x2, x3, x4, hobj⟩ := hit.obj
      have hitn : ∀ {e' : TypeId} {z n : Nat} {v : Value} {xs : List Value} {base : Nat}, wr.ownsRow base e' z v n xs → v.ownBlock = none ∨ v.ownBlock ≠ some w.heap.size := by
        intro e' z n v xs base h'
        rcases h'.2 with ⟨hv, _⟩ | ⟨g, c, cur, hv, _, hg, _⟩
        · left; rw [hv]; rfl
        · right; rw [hv]; simp only [Value.ownBlock, ne_eq, Option.some.injEq]; rintro rfl; rw [hobj] at hg; cases hg
      have hown1 : w1.ownsRow w.heap.size 83 4 (.slice A0 l.length d0) l.length (pzsC l) := hown.kept hg1 (hitn hown)
      have hpo1 : PzOwn w.heap.size w1 l := ⟨fun z hz => (hpo.own z hz).kept hg1 (hitn (hpo.own z hz)), hpo.ne⟩
      have HPO := Lib.hid hpo1
      have HI1 := Lib.hid hi1
      have HOW := Lib.hid hown1
      have HBW := Lib.hid hbw1
      have HPW := Lib.hid hPw
      have HLL := Lib.hid hl
      have HPE := Lib.hid hperm.out
      have hwl : w.heap.size ≤ w1.heap.size := hbw1.size
      clear hpo1 hi1 hown1 hbw1 hPw hl hpo hown hit hperm hb hg1 hitn hobj hs1
      simp only [pzS, idV] at hen ⊢
      go_wp2
      go_region_held3 (fun w' => w'.cell? ⟨w1.heap.size, 0, none⟩ = some (.int .i64 q.id.b) ∧ w'.cell? ⟨w1.heap.size, 1, none⟩ = some (.int .i64 q.id.s) ∧ w'.cell? ⟨w1.heap.size, 2, none⟩ = some (.int .i64 q.id.p)) (first | go_keep)
        (first
          | (go_at_call 121; refine (clone_row_c _ _ q.A q.cap q.rows ((HPW.out.ext (ext_alloc (Below.refl _ _) _).drew).rd (Nat.le_refl _)) (by omega)).mono ?_
             rintro e w2 ⟨A2, c2, rfl, hown2, hc2, hb2⟩
             have HK2 := Lib.hid (((Bk.new w1 61 #[.int .i64 q.id.b, .int .i64 q.id.s, .int .i64 q.id.p]).drew).ext hb2)
             have HB2 := Lib.hid (show Below w1.heap.size w1 w2 from ext_trans (ext_alloc (Below.refl _ _) _).drew hb2)
             have HO2 := Lib.hid (HOW.out.kept (grownBy_of_below HB2.out) (by cases (Value.slice A0 l.length d0).ownBlock <;> simp))
             have k2 := HK2.out.cell
             have HW2 := Lib.hid hown2
             clear hb2 hown2)
          | (refine step_appE pz_app _ rfl (.tmp 16) (.tmp 21) rfl w.heap.size _ l (by rfl) (HO2.out.alloc _) ⟨q.id, A2, c2, q.rows⟩ _ (by rfl) (Bk.new _ _ _) (by omega) (by have := HB2.out.size; simp only [World.size_alloc]; omega) ?_
             intro A3 c3 w3 hown3 hg3 hc3
             have hbx3 : ∀ k t cs, k < w2.heap.size → Bk w2 k t cs → t ≠ 83 → Bk w3 k t cs := (fun k t cs hk hbk hne => (hbk.alloc _).grown hg3 (fun he => by
               rcases (HO2.out.alloc _).2 with ⟨hv, _⟩ | ⟨g, c, cur, hv, _, hgg, _⟩
               · rw [hv] at he; simp [Value.ownBlock] at he
               · rw [hv] at he
                 simp only [Value.ownBlock, Option.some.injEq] at he
                 subst he
                 have hh := hbk.alloc (.cells (pzC ⟨q.id, A2, c2, q.rows⟩).toArray 83)
                 unfold Bk at hh
                 rw [hgg] at hh
                 injection hh with hh
                 injection hh with _ ht
                 exact hne ht.symm))
             have k3 := (hbx3 _ _ _ HK2.out.lt HK2.out (by decide)).cell))
      go_wp2
      have hOA := HO2.out.alloc (.cells (pzC ⟨q.id, A2, c2, q.rows⟩).toArray 83)
      go_roundg (l1 ++ l2).length
      case measure => exact hk1
      case rel =>
        refine ⟨l1 ++ l2, l ++ [⟨q.id, A2, c2, q.rows⟩], rfl, hin', (((by rw [List.map_append]; exact HI1.out.ext HB2.out : IterIs _ w2 _ _ _ _).ext ((Below.refl _ _).alloc (Nat.le_refl _) _)).grownOwn hOA hg3), (by have h := hown3; simp only [List.length_append, List.length_cons, List.length_nil, Nat.zero_add] at h ⊢; exact h), Lib.hid ?_, ⟨fun z hz => ?_, ?_⟩, ?_, below_grownOwn (ext_alloc (ext_trans HBW.out HB2.out) _) hOA (Nat.le_refl _) hg3⟩
        · have hp := HPE.out
          rw [HLL.out] at hp
          refine List.Perm.trans ?_ hp
          simp only [List.map_append, List.map_cons, List.map_nil, List.append_assoc, List.singleton_append]
          exact List.Perm.append_left _ List.perm_middle.symm
        · rcases List.mem_append.1 hz with hz | hz
          · have h1 := ((HPO.out.own z hz).kept (grownBy_of_below HB2.out) (by cases (pzS z).ownBlock <;> simp)).alloc (.cells (pzC ⟨q.id, A2, c2, q.rows⟩).toArray 83)
            exact h1.kept hg3 (own_ne_own h1 hOA (by decide))
          · rw [List.mem_singleton] at hz
            subst hz
            have h1 := (own_mono HW2.out (base' := w.heap.size) (by simp only [World.size_drew, World.size_alloc]; omega)).alloc (.cells (pzC ⟨q.id, A2, c2, q.rows⟩).toArray 83)
            exact h1.kept hg3 (own_ne_own h1 hOA (by decide))
        · rw [List.pairwise_append]
          refine ⟨HPO.out.ne, List.pairwise_singleton _ _, fun x hx y hy k hkx hky => ?_⟩
          rw [List.mem_singleton] at hy
          subst hy
          have h1 := ((HPO.out.own x hx).lt k hkx).2
          have h2 := (HW2.out.lt k hky).1
          simp only [World.size_drew, World.size_alloc] at h2
          omega
        · have hh := HLL.out
          rw [hh] at hll
          simp only [List.length_append, List.length_cons, List.length_nil] at hll ⊢
          omega
end
end Go.Proofs.YtipfoljmdeiggaaGreatDoor

/- A store that was opened behind a world: what its calls leave. -/
namespace Go.Proofs.YtipfoljmdeiggaaGreatDoor
open Go.RowKit Go.Sort

theorem CkAt.diskT {B db : Nat} {X : CkX} {p : PlanD} {A : Option Addr} {c : Nat} {d d' : DiskD} {full ps : List (Id3 × List Rw)} {w w' : World} {e : Ending} (h : CkAt B db X p A c d full ps w) (ht : DTurn B db X.R d' w e w') (hb : d'.blk = d.blk) (hr : d'.room = d.room) : CkAt B db X p A c d' full ps w' :=
  ⟨ht.2.1, h.bk.fr ht.2.2 h.offs.1, Bk.fr h.log ht.2.2 h.offs.2.1, h.map.fr ht.2.2 h.offs.2.2, h.zz, fun z hz => (h.rows z hz).fr ht.2.2 (fun _ hk hR => hk.2 (.inl hR)), h.st.fr ht.2.2 (fun _ hk hR => hk.2 (.inl hR)), h.offs, h.bd, h.ok.same hb hr, h.plan, h.sub, h.qb.1, fun k hk => Nat.lt_of_lt_of_le (h.qb.2 k hk) ht.2.2.size⟩
/-- A store and its disk, made behind the world w0, and none of the blocks of K. -/
def CIs (sb db : Nat) (p : PlanD) (A : Option Addr) (c life : Nat) (d : DiskD) (ps : List (Id3 × List Rw)) (K : Nat → Prop) (w0 w : World) : Prop :=
  ∃ X : CkX, CkAt w0.heap.size db X p A c d ps ps w ∧ X.sb = sb ∧ X.life = life ∧ (∀ k, X.Q k → w0.heap.size ≤ k) ∧ Below w0.heap.size w0 w ∧ ∀ g, K g → ¬ X.Q g ∧ g < w.heap.size
/-- The blocks of K are as they were. -/
def KeptB (K : Nat → Prop) (w w' : World) : Prop := ∀ g, K g → w'.heap[g]? = w.heap[g]?
theorem KeptB.bk {K : Nat → Prop} {w w' : World} {g : Nat} {t : TypeId} {cs : Array Value} (h : KeptB K w w') (hg : K g) (hb : Bk w g t cs) : Bk w' g t cs := (h g hg).trans hb
theorem KeptB.own {K : Nat → Prop} {w w' : World} {base n z : Nat} {e : TypeId} {v : Value} {xs : List Value} (h : KeptB K w w') (ho : w.ownsRow base e z v n xs) (hk : ∀ k, v.ownBlock = some k → K k) : w'.ownsRow base e z v n xs := by
  rcases ho with ⟨h1, ho⟩
  refine ⟨h1, ?_⟩
  rcases ho with ho | ⟨g, c, cur, hv, hb, hg, hr⟩
  · exact .inl ho
  · exact .inr ⟨g, c, cur, hv, hb, (h g (hk g (by rw [hv]; rfl))).trans hg, hr⟩
theorem KeptB.of_below {K : Nat → Prop} {w w' : World} (hb : Below w.heap.size w w') (hk : ∀ g, K g → g < w.heap.size) : KeptB K w w' := fun g hg => hb.block g (hk g hg)
theorem KeptB.trans {K : Nat → Prop} {w w1 w' : World} (h : KeptB K w w1) (h' : KeptB K w1 w') : KeptB K w w' := fun g hg => (h' g hg).trans (h g hg)
/-- What Put does. -/
def putD (p : PlanD) (life : Nat) (d : DiskD) (ps : List (Id3 × List Rw)) (q : Id3 × List Rw) : Option Int × DiskD × List (Id3 × List Rw) :=
  if mayD p q.1 q.2.length = false then (some 1, d, ps) else if q.1 ∈ ps.map (·.1) then (none, d, ps)
  else ((appendD d life ps.length (posC ps) (recB q)).2, (appendD d life ps.length (posC ps) (recB q)).1, if (appendD d life ps.length (posC ps) (recB q)).2 = none then ps ++ [q] else ps)
section
variable {sb db : Nat} {p : PlanD} {A : Option Addr} {c life : Nat} {d d' : DiskD} {ps : List (Id3 × List Rw)} {K : Nat → Prop} {w0 w w' : World}
theorem CIs.ext (h : CIs sb db p A c life d ps K w0 w) (hb : Below w.heap.size w w') : CIs sb db p A c life d ps K w0 w' := by
  obtain ⟨X, h1, h2, h3, h4, h5, h6⟩ := h
  exact ⟨X, h1.ext hb, h2, h3, h4, ext_trans h5 hb, fun g hg => ⟨(h6 g hg).1, Nat.lt_of_lt_of_le (h6 g hg).2 hb.size⟩⟩
theorem CIs.more {K' : Nat → Prop} (h : CIs sb db p A c life d ps K w0 w) (hb : Below w.heap.size w w') (hk : ∀ g, K' g → (K g ∨ w.heap.size ≤ g) ∧ g < w'.heap.size) : CIs sb db p A c life d ps K' w0 w' := by
  obtain ⟨X, h1, h2, h3, h4, h5, h6⟩ := h
  exact ⟨X, h1.ext hb, h2, h3, h4, ext_trans h5 hb, fun g hg => ⟨fun ha => (hk g hg).1.elim (fun h => (h6 g h).1 ha) (fun h => by have := h1.qb.2 g ha; omega), (hk g hg).2⟩⟩
/-- Who turns blocks of K leaves the store. -/
theorem CIs.turnK (h : CIs sb db p A c life d ps K w0 w) (hf : Fr K w w') (hK : ∀ k, K k → w0.heap.size ≤ k) : CIs sb db p A c life d ps K w0 w' := by
  obtain ⟨X, h1, h2, h3, h4, h5, h6⟩ := h
  exact ⟨X, h1.fr hf (fun k hk hs => (h6 k hs).1 hk), h2, h3, h4, h5.trans (hf.below hK h5.size), fun g hg => ⟨(h6 g hg).1, Nat.lt_of_lt_of_le (h6 g hg).2 hf.size⟩⟩
theorem CIs.below (h : CIs sb db p A c life d ps K w0 w) : Below w0.heap.size w0 w := by
  obtain ⟨X, h1, h2, h3, h4, h5, h6⟩ := h
  exact h5
theorem CIs.klt (h : CIs sb db p A c life d ps K w0 w) : ∀ g, K g → g < w.heap.size := by
  obtain ⟨X, h1, h2, h3, h4, h5, h6⟩ := h
  exact fun g hg => (h6 g hg).2
theorem CIs.tv (h : CIs sb db p A c life d ps K w0 w) (ht : TypeVar w0) : TypeVar w := TypeVar.fr (S := No) ht (Fr.of_below h.below) (fun h => h)
theorem CIs.ok (h : CIs sb db p A c life d ps K w0 w) : CkOk p d ps := by
  obtain ⟨X, h1, h2, h3, h4, h5, h6⟩ := h
  exact h1.ok
theorem CIs.plan (h : CIs sb db p A c life d ps K w0 w) : checkD p = none := by
  obtain ⟨X, h1, h2, h3, h4, h5, h6⟩ := h
  exact h1.plan
theorem CIs.room (h : CIs sb db p A c life d ps K w0 w) : 1 ≤ d.room ∧ d.room ≤ 65536 ∧ d.life ≤ 1000000 := by
  obtain ⟨X, h1, h2, h3, h4, h5, h6⟩ := h
  exact h1.disk.room_le
theorem CIs.sblt (h : CIs sb db p A c life d ps K w0 w) : sb < w.heap.size := by
  obtain ⟨X, h1, rfl, h3, h4, h5, h6⟩ := h
  exact h1.bk.lt
theorem has_s (x : Id3) (w : World) (h : CIs sb db p A c life d ps K w0 w) : Calls Tryz.prog 34 #[.pointer (some ⟨sb, 0, none⟩), idV x] w (BoolPost w (decide (x ∈ ps.map (·.1)))) := by
  obtain ⟨X, h1, rfl, h3, h4, h5, h6⟩ := h
  exact ckHas_c x w h1
theorem whole_s (b : Int) (w : World) (h : CIs sb db p A c life d ps K w0 w) : Calls Tryz.prog 33 #[.pointer (some ⟨sb, 0, none⟩), .int .i64 b] w (BoolPost w (wholeD p (ps.map (·.1)) b)) := by
  obtain ⟨X, h1, rfl, h3, h4, h5, h6⟩ := h
  exact ckWhole_c b w h1
theorem list_s (hs : SortC) (w : World) (h : CIs sb db p A c life d ps K w0 w) : Calls Tryz.prog 28 #[.pointer (some ⟨sb, 0, none⟩)] w (CkListPost w ps) := by
  obtain ⟨X, h1, rfl, h3, h4, h5, h6⟩ := h
  exact ckList_c hs w h1
theorem get_s (q : Id3 × List Rw) (w : World) (h : CIs sb db p A c life d ps K w0 w) (hq : q ∈ ps) (hd : d.down = false) (hl : d.life = life) : Calls Tryz.prog 35 #[.pointer (some ⟨sb, 0, none⟩), idV q.1] w (GetPost q.2 w) := by
  obtain ⟨X, h1, rfl, h3, h4, h5, h6⟩ := h
  exact get_c q w h1 hq hd (hl.trans h3.symm)
theorem CIs.turn {X : CkX} {ps' : List (Id3 × List Rw)} (hs : X.sb = sb) (hl : X.life = life) (h4 : ∀ k, X.Q k → w0.heap.size ≤ k) (h5 : Below w0.heap.size w0 w) (h6 : ∀ g, K g → ¬ X.Q g ∧ g < w.heap.size) (hsub : ∀ k, X.mu k → X.Q k) (ht : CkTurn w0.heap.size db X p A c d' ps' w w') : CIs sb db p A c life d' ps' K w0 w' ∧ KeptB K w w' := by
  obtain ⟨⟨X', k1, k2, k3, k4⟩, k5⟩ := ht
  have hz := h5.size
  exact ⟨⟨X', k1, k2.trans hs, k3.trans hl, fun k hk => (k4 k hk).elim (h4 k) (fun h => by omega), h5.trans (k5.below (fun k hk => h4 k (hsub k hk)) hz), fun g hg => ⟨fun ha => (k4 g ha).elim (h6 g hg).1 (fun h => by have := (h6 g hg).2; omega), Nat.lt_of_lt_of_le (h6 g hg).2 k5.size⟩⟩, fun g hg => k5.block g (h6 g hg).2 (fun hm => (h6 g hg).1 (hsub g hm))⟩
def PutPost (sb db : Nat) (p : PlanD) (A : Option Addr) (c life : Nat) (z : Option Int × DiskD × List (Id3 × List Rw)) (K : Nat → Prop) (w0 w : World) (e : Ending) (w' : World) : Prop :=
  (z.1 = none → e = .returned .nilIface) ∧ (∀ code, z.1 = some code → ∃ v, e = .returned v ∧ ErrAt w' v 0 code) ∧ CIs sb db p A c life z.2.1 z.2.2 K w0 w' ∧ KeptB K w w'
theorem put_s (S : Nat → Prop) (x : Id3) (l : List Rw) (n : Nat) (hn : l.length = n) (Al : Option Addr) (cl : Nat) (w : World) (h : CIs sb db p A c life d ps K w0 w) (hr : RdS w S 2 Al n (rwsC l)) (hS : ∀ k, S k → k < w0.heap.size ∨ K k) (hro : RowsOk l) (htv : TypeVar w0) (hlf : d.life + 1 ≤ 1000000) :
    Calls Tryz.prog 32 #[.pointer (some ⟨sb, 0, none⟩), idV x, .slice Al n cl] w (PutPost sb db p A c life (putD p life d ps (x, l)) K w0 w) := by
  subst hn
  have htw := h.tv htv
  have hty : 0 < w0.heap.size := World.block_lt_of_cell? w0 _ htv
  have hI := h
  obtain ⟨X, h1, h2, h3, h4, h5, h6⟩ := h
  rw [← h2]
  cases hm : mayD p x l.length with
  | false =>
    have hp : putD p life d ps (x, l) = (some 1, d, ps) := by unfold putD; rw [if_pos hm]
    rw [hp]
    refine (put_bad x l Al cl w h1 hm).mono ?_
    rintro e w' ⟨v, rfl, hE, hb⟩
    exact ⟨(fun h => by cases h), (fun code hc => by cases hc; exact ⟨v, rfl, hE⟩), h2 ▸ hI.ext hb, KeptB.of_below hb hI.klt⟩
  | true =>
    by_cases hx : x ∈ ps.map (·.1)
    · have hp : putD p life d ps (x, l) = (none, d, ps) := by unfold putD; rw [if_neg (by simp only [hm]; simp), if_pos hx]
      rw [hp]
      refine (put_had x l Al cl w h1 hm hx).mono ?_
      rintro e w' ⟨rfl, hb⟩
      exact ⟨fun _ => rfl, (fun code hc => by cases hc), h2 ▸ hI.ext hb, KeptB.of_below hb hI.klt⟩
    · have hp : putD p life d ps (x, l) = ((appendD d life ps.length (posC ps) (recB (x, l))).2, (appendD d life ps.length (posC ps) (recB (x, l))).1, if (appendD d life ps.length (posC ps) (recB (x, l))).2 = none then ps ++ [(x, l)] else ps) := by
        unfold putD; rw [if_neg (by simp only [hm]; simp), if_neg hx]
      rw [hp]
      refine (put_app x l Al cl w h1 hm hx (hr.mono (fun k hk hmu => (hS k hk).elim (fun h => by have := h4 k (h1.sub k hmu); omega) (fun h => (h6 k h).1 (h1.sub k hmu)))) hro htw hty hlf).mono ?_
      rw [h3]
      rintro e w' ⟨k1, k2⟩
      cases hy : (appendD d life ps.length (posC ps) (recB (x, l))).2 with
      | none =>
        obtain ⟨rfl, ht⟩ := k1 hy
        obtain ⟨j1, j2⟩ := CIs.turn (sb := X.sb) rfl h3 h4 h5 h6 h1.sub ht
        exact ⟨fun _ => rfl, (fun code hc => by cases hc), by simp only [if_true]; exact j1, j2⟩
      | some code =>
        obtain ⟨⟨v, rfl, hE⟩, ht⟩ := k2 code hy
        obtain ⟨j1, j2⟩ := CIs.turn (sb := X.sb) rfl h3 h4 h5 h6 h1.sub ht
        exact ⟨(fun h => by cases h), (fun code' hc => by cases hc; exact ⟨v, rfl, hE⟩), by rw [if_neg (by simp)]; exact j1, j2⟩
def DiskPost (sb db : Nat) (p : PlanD) (A : Option Addr) (c life : Nat) (d : DiskD) (ps : List (Id3 × List Rw)) (K : Nat → Prop) (w0 w : World) (e : Ending) (w' : World) : Prop :=
  e = .returned (.tuple #[]) ∧ CIs sb db p A c life d ps K w0 w' ∧ KeptB K w w'
theorem CIs.disk {X : CkX} {e : Ending} (h1 : CkAt w0.heap.size db X p A c d ps ps w) (hs : X.sb = sb) (hl : X.life = life) (h4 : ∀ k, X.Q k → w0.heap.size ≤ k) (h5 : Below w0.heap.size w0 w) (h6 : ∀ g, K g → ¬ X.Q g ∧ g < w.heap.size) (ht : DTurn w0.heap.size db X.R d' w e w') (hb : d'.blk = d.blk) (hr : d'.room = d.room) : DiskPost sb db p A c life d' ps K w0 w e w' :=
  ⟨ht.1, ⟨X, h1.diskT ht hb hr, hs, hl, h4, h5.trans (ht.2.2.below (fun k hk => h4 k (h1.sub k (.inl hk))) h5.size), fun g hg => ⟨(h6 g hg).1, Nat.lt_of_lt_of_le (h6 g hg).2 ht.2.2.size⟩⟩, fun g hg => ht.2.2.block g (h6 g hg).2 (fun hk => (h6 g hg).1 (h1.sub g (.inl hk)))⟩
theorem arm_s (n : Int) (w : World) (h : CIs sb db p A c life d ps K w0 w) (hn : n ≤ 9223372036854775807) : Calls Tryz.prog 39 #[.pointer (some ⟨db, 0, none⟩), .int .i64 n] w (DiskPost sb db p A c life (d.arm n) ps K w0 w) := by
  obtain ⟨X, h1, h2, h3, h4, h5, h6⟩ := h
  refine (dArm_c n w h1.disk hn).mono fun e w' ht => CIs.disk h1 h2 h3 h4 h5 h6 ht ?_ ?_ <;> (unfold DiskD.arm; split <;> rfl)
theorem dcut_s (w : World) (h : CIs sb db p A c life d ps K w0 w) (hl : d.life + 1 ≤ 1000000) : Calls Tryz.prog 41 #[.pointer (some ⟨db, 0, none⟩)] w (DiskPost sb db p A c life d.cut ps K w0 w) := by
  obtain ⟨X, h1, h2, h3, h4, h5, h6⟩ := h
  exact (dCut_c w h1.disk hl).mono fun e w' ht => CIs.disk h1 h2 h3 h4 h5 h6 ht rfl rfl
theorem restart_s (w : World) (h : CIs sb db p A c life d ps K w0 w) : Calls Tryz.prog 43 #[.pointer (some ⟨db, 0, none⟩)] w (DiskPost sb db p A c life d.restart ps K w0 w) := by
  obtain ⟨X, h1, h2, h3, h4, h5, h6⟩ := h
  exact (dRestart_c w h1.disk).mono fun e w' ht => CIs.disk h1 h2 h3 h4 h5 h6 ht rfl rfl
/-- Opened anew over the same disk. -/
theorem reopen_s (Bp : Nat) (w : World) (h : CIs sb db p A c life d ps K w0 w) (hd : d.down = false) (hr : RdS w (· < Bp) 5 A p.ops.length (opsC p.ops)) (hB : Bp ≤ w.heap.size) :
    Calls Tryz.prog 21 #[.pointer (some ⟨db, 0, none⟩), planV p A c] w (fun e w' => ∃ sb', e = .returned (.tuple #[.pointer (some ⟨sb', 0, none⟩), .nilIface]) ∧ CIs sb' db p A c d.life d ps K w0 w' ∧ KeptB K w w') := by
  obtain ⟨X, h1, h2, h3, h4, h5, h6⟩ := h
  have hz := h5.size
  refine (ckOpen_c Bp w h1.disk hd h1.ok h1.plan hr hB).mono ?_
  rintro e w' ⟨X', rfl, k1, k2, k3, k4, k5⟩
  have hq : ∀ k, X'.Q k → X.Q k ∨ w.heap.size ≤ k := fun k hk => (k4 k hk).imp (fun hk => h1.sub k (.inl hk)) id
  exact ⟨X'.sb, rfl, ⟨X', k1, rfl, k3, fun k hk => (hq k hk).elim (h4 k) (fun h => by omega), ext_trans h5 k5, fun g hg => ⟨fun ha => (hq g ha).elim (h6 g hg).1 (fun h => by have := (h6 g hg).2; omega), Nat.lt_of_lt_of_le (h6 g hg).2 k5.size⟩⟩, KeptB.of_below k5 (fun g hg => (h6 g hg).2)⟩
/-- Opened over a new disk. -/
theorem open_s {room : Nat} {R : Nat → Prop} (Bp : Nat) (w : World) (hD : DiskIs w0.heap.size db R (DiskD.new room) w) (hb : Below w0.heap.size w0 w) (hp : checkD p = none) (hr : RdS w (· < Bp) 5 A p.ops.length (opsC p.ops)) (hB : Bp ≤ w.heap.size) :
    Calls Tryz.prog 21 #[.pointer (some ⟨db, 0, none⟩), planV p A c] w (fun e w' => ∃ sb, e = .returned (.tuple #[.pointer (some ⟨sb, 0, none⟩), .nilIface]) ∧ CIs sb db p A c 0 (DiskD.new room) [] No w0 w' ∧ Below w.heap.size w w') := by
  have hz := hb.size
  refine (ckOpen_c Bp w hD rfl (ckOk_new p room) hp hr hB).mono ?_
  rintro e w' ⟨X', rfl, k1, k2, k3, k4, k5⟩
  exact ⟨X'.sb, rfl, ⟨X', k1, rfl, k3, fun k hk => (k4 k hk).elim (fun h => (hD.bd k h).1) (fun h => by omega), ext_trans hb k5, fun g hg => hg.elim⟩, k5⟩
end
end Go.Proofs.YtipfoljmdeiggaaGreatDoor

/- The little plan of the laws. -/
namespace Go.Proofs.YtipfoljmdeiggaaGreatDoor
open Go.RowKit Go.Sort

def littleP : PlanD := ⟨2, [⟨1, 0, 0, 0, 0⟩, ⟨2, 0, 0, 4, 2⟩, ⟨8, 1, 0, 0, 0⟩, ⟨3, 2, 0, 1, 3⟩]⟩
theorem little_c (w : World) : Calls Tryz.prog 23 #[] w (fun e w' => ∃ A, e = .returned (planV littleP A 4) ∧ RdS w' (fun k => w.heap.size ≤ k ∧ k < w'.heap.size) 5 A 4 (opsC littleP.ops) ∧ Below w.heap.size w w') := by
  go_enter Tryz.func23, Tryz.ntmps23
  go_wp2_with fail
  obtain ⟨W, hW⟩ : ∃ W, W = w.alloc (.cells #[.int .i64 2, .slice (some ⟨w.heap.size + 1, 0, none⟩) 4 4] 24 (0, 0)) := ⟨_, rfl⟩
  have hsz : W.heap.size = w.heap.size + 1 := by rw [hW]; simp
  have hb1 : Below w.heap.size w W := by rw [hW]; exact ext_alloc (Below.refl _ _) _
  have hk1 : Bk W w.heap.size 24 #[.int .i64 2, .slice (some ⟨w.heap.size + 1, 0, none⟩) 4 4] := by rw [hW]; exact Bk.new _ _ _
  rw [← hW]
  have hk2 := Bk.new W 138 (opsC littleP.ops).toArray
  have hb2 := ext_alloc (Below.refl W.heap.size W) (.cells (opsC littleP.ops).toArray 138 (0, 0))
  rw [hsz] at hk2
  refine bodyPost_ret (results_cell_row (g := w.heap.size) (t := 24) (cs := #[.int .i64 2, .slice (some ⟨w.heap.size + 1, 0, none⟩) 4 4]) (fr := (0, 0)) rfl _ _ _ rfl (hk1.ext hb2) Tryz.underlying24 rfl (by kernel_rfl)) rfl ?_
  refine ⟨some ⟨w.heap.size + 1, 0, none⟩, rfl, ⟨rfl, fun _ => ⟨_, rfl, ⟨by show w.heap.size ≤ w.heap.size + 1; omega, by show w.heap.size + 1 < _; rw [World.size_alloc, hsz]; omega⟩, by show w.heap.size + 1 < _; rw [World.size_alloc, hsz]; omega, fun j u hu => ?_⟩⟩, ext_trans hb1 hb2⟩
  exact World.news_of_block hk2 j u hu
theorem little_check : checkD littleP = none := by decide
theorem little_states : statesL littleP.ops = [2] := by decide
end Go.Proofs.YtipfoljmdeiggaaGreatDoor

/- Nothing hinders a record on a disk with power that is not armed. -/
namespace Go.Proofs.YtipfoljmdeiggaaGreatDoor
open Go.RowKit Go.Sort

theorem writeAll_free {r p : Nat} {b : List Nat} : ∀ (m k : Nat) (d : DiskD), d.down = false → d.armed = 0 → (writeAll r p b m k d).2 = true ∧ (writeAll r p b m k d).1.down = false ∧ (writeAll r p b m k d).1.armed = 0 ∧ (writeAll r p b m k d).1.room = d.room ∧ (writeAll r p b m k d).1.life = d.life
  | 0, k, d, h1, h2 => ⟨rfl, h1, h2, rfl, rfl⟩
  | m + 1, k, d, h1, h2 => by
    have hw : d.write (p + k) (blockB r b k) = (⟨d.room, fun n => if n = p + k then some (blockB r b k) else d.blk n, false, d.armed - 1, d.life⟩, true) := by
      unfold DiskD.write
      rw [if_neg (by rw [h1]; simp), if_neg (by omega)]
    rw [writeAll, hw, if_pos rfl]
    exact writeAll_free m (k + 1) _ rfl (by show d.armed - 1 = 0; omega)
/-- Nothing hinders a record on a disk with power that is not armed, where there is room. -/
theorem append_free {d : DiskD} {n next : Nat} {b : List Nat} (h1 : d.down = false) (h2 : d.armed = 0) (h3 : blocksN b.length ≤ d.room - next) : (appendD d d.life n next b).2 = none ∧ (appendD d d.life n next b).1.down = false ∧ (appendD d d.life n next b).1.armed = 0 ∧ (appendD d d.life n next b).1.room = d.room ∧ (appendD d d.life n next b).1.life = d.life := by
  have hg : goneD d d.life = false := by unfold goneD; rw [h1]; simp
  unfold appendD
  rw [hg, if_neg (by simp), if_neg (by omega)]
  obtain ⟨i1, i2, i3⟩ := writeAll_free (r := n + 1) (p := next) (b := b) (blocksN b.length) 0 d h1 h2
  simp only [i1, if_true]
  exact ⟨trivial, i2, i3⟩
/-- A disk with power, not armed. -/
def Free (d : DiskD) (room life : Nat) : Prop := d.down = false ∧ d.armed = 0 ∧ d.room = room ∧ d.life = life
end Go.Proofs.YtipfoljmdeiggaaGreatDoor

/- The law's own functions: code, told. -/
namespace Go.Proofs.YtipfoljmdeiggaaGreatDoor
open Go.RowKit Go.Sort

theorem put_free {p : PlanD} {d : DiskD} {ps : List (Id3 × List Rw)} {q : Id3 × List Rw} {room life : Nat} (hF : Free d room life) (hm : mayD p q.1 q.2.length = true) (hx : q.1 ∉ ps.map (·.1)) (hr : blocksN (recB q).length ≤ room - posC ps) :
    ∃ d', putD p life d ps q = (none, d', ps ++ [q]) ∧ Free d' room life := by
  obtain ⟨f1, f2, f3, f4⟩ := hF
  have h := append_free (d := d) (n := ps.length) (next := posC ps) (b := recB q) f1 f2 (by rw [f3]; exact hr)
  rw [f4] at h
  obtain ⟨h1, h2, h3, h4, h5⟩ := h
  refine ⟨(appendD d life ps.length (posC ps) (recB q)).1, ?_, h2, h3, h4.trans f3, h5⟩
  unfold putD
  rw [if_neg (by rw [hm]; simp), if_neg hx, h1, if_pos rfl]
theorem posC_snoc (ps : List (Id3 × List Rw)) (q : Id3 × List Rw) : posC (ps ++ [q]) = posC ps + blocksN (recB q).length := by
  unfold posC
  rw [List.map_append]
  exact posOf_snoc _ _
theorem posC_nil : posC [] = 0 := rfl
theorem recB_blocks {q : Id3 × List Rw} (hn : NameOk q.1) (hl : q.2.length ≤ 64) (hr : RowsOk q.2) : blocksN (recB q).length ≤ 1 + q.2.length := by
  have h := (recB_ok hn hl hr).len
  unfold blocksN
  omega
/-- What the law's told does to a fresh store. -/
theorem told14_puts : ∃ d1 d2 : DiskD, putD littleP 0 (DiskD.new 20) [] (⟨1, 2, 0⟩, [⟨1, 7⟩]) = (none, d1, [(⟨1, 2, 0⟩, [⟨1, 7⟩])]) ∧ putD littleP 0 d1 [(⟨1, 2, 0⟩, [⟨1, 7⟩])] (⟨1, 2, 1⟩, []) = (none, d2, [(⟨1, 2, 0⟩, [⟨1, 7⟩]), (⟨1, 2, 1⟩, [])]) ∧
    putD littleP 0 d2 [(⟨1, 2, 0⟩, [⟨1, 7⟩]), (⟨1, 2, 1⟩, [])] (⟨1, 1, 0⟩, []) = (some 1, d2, [(⟨1, 2, 0⟩, [⟨1, 7⟩]), (⟨1, 2, 1⟩, [])]) ∧ Free d1 20 0 ∧ Free d2 20 0 := by
  have hn0 : NameOk ⟨1, 2, 0⟩ := ⟨⟨by decide, by decide⟩, ⟨by decide, by decide⟩, ⟨by decide, by decide⟩⟩
  have hn1 : NameOk ⟨1, 2, 1⟩ := ⟨⟨by decide, by decide⟩, ⟨by decide, by decide⟩, ⟨by decide, by decide⟩⟩
  have hr0 : RowsOk [⟨1, 7⟩] := fun r hr => by
    rw [List.mem_singleton] at hr
    subst hr
    exact ⟨⟨by decide, by decide⟩, ⟨by decide, by decide⟩⟩
  have b0 := recB_blocks (q := (⟨1, 2, 0⟩, [⟨1, 7⟩])) hn0 (by decide) hr0
  have b1 := recB_blocks (q := (⟨1, 2, 1⟩, [])) hn1 (by decide) (fun r hr => by cases hr)
  simp only [List.length_cons, List.length_nil] at b0 b1
  have p0 := posC_nil
  have p1 := posC_snoc [] (⟨1, 2, 0⟩, [⟨1, 7⟩])
  rw [List.nil_append] at p1
  obtain ⟨d1, e1, f1⟩ := put_free (p := littleP) (d := DiskD.new 20) (ps := []) (q := (⟨1, 2, 0⟩, [⟨1, 7⟩])) (room := 20) (life := 0) ⟨rfl, rfl, rfl, rfl⟩ (by decide) (by simp) (by omega)
  obtain ⟨d2, e2, f2⟩ := put_free (p := littleP) (d := d1) (ps := [(⟨1, 2, 0⟩, [⟨1, 7⟩])]) (q := (⟨1, 2, 1⟩, [])) (room := 20) (life := 0) f1 (by decide) (by decide) (by omega)
  refine ⟨d1, d2, e1, e2, ?_, f1, f2⟩
  unfold putD
  rw [if_pos (by decide)]
theorem ckCode_nil (w : World) : Calls Tryz.prog 25 #[.nilIface] w (IntPost w 0) := by
  go_enter Tryz.func25, Tryz.ntmps25
  go_wp2_with (first | (go_at_call 120; refine (Code_nil _).mono ?_; rintro e w1 ⟨rfl, hb⟩; have HB := Lib.hid hb; clear hb))
  go_ret
  exact ⟨rfl, HB.out⟩
theorem ckCode_c (n : Nat) (T : TypeId) (y : Value) (c : Int) (w : World) (h : ErrN w n (.iface T y) c) (hg : TypeVar w) : Calls Tryz.prog 25 #[.iface T y] w (IntPost w c) := by
  have HE := Lib.hid (Code_c n _ c w h hg)
  clear h hg
  go_enter Tryz.func25, Tryz.ntmps25
  go_wp2_with (first | (go_at_call 120; refine HE.out.mono ?_; rintro e w1 ⟨rfl, hb⟩; have HB := Lib.hid hb; clear hb))
  go_ret
  exact ⟨rfl, HB.out⟩
theorem rd_of_bk {w : World} {g n z : Nat} {t : TypeId} {cs : Array Value} {xs : List Value} {S : Nat → Prop} (h : Bk w g t cs) (hx : xs = cs.toList) (hl : xs.length = n * z) (hS : S g) : RdS w S z (some ⟨g, 0, none⟩) n xs := by
  refine ⟨hl, fun _ => ⟨_, rfl, hS, h.lt, fun j u hu => ?_⟩⟩
  rw [hx] at hu
  have hh : w.heap[g]? = some (.cells cs.toList.toArray t (0, 0)) := by rw [Array.toArray_toList]; exact h
  exact World.news_of_block hh j u hu
set_option maxRecDepth 100000 in
set_option maxHeartbeats 16000000 in
theorem told14_c (w : World) (htv : TypeVar w) : Calls Tryz.prog 24 #[] w (BoolPost w true) := by
  have HTv := Lib.hid htv
  obtain ⟨d1, d2, z1, z2, z3, f1, f2⟩ := told14_puts
  have Z1 := Lib.hid z1
  have Z2 := Lib.hid z2
  have Z3 := Lib.hid z3
  have F2 := Lib.hid f2
  have hl1 : d1.life = 0 := f1.2.2.2
  have hl2 : d2.life = 0 := f2.2.2.2
  have HL1 := Lib.hid hl1
  have HL2 := Lib.hid hl2
  have HW1 := Lib.hid (show wholeD littleP [⟨1, 2, 0⟩, ⟨1, 2, 1⟩] 1 = true from by decide)
  have HW2 := Lib.hid (show wholeD littleP [⟨1, 2, 0⟩, ⟨1, 2, 1⟩] 2 = false from by decide)
  have HHs := Lib.hid (show decide ((⟨1, 2, 0⟩ : Id3) ∈ [(⟨1, 2, 0⟩ : Id3), ⟨1, 2, 1⟩]) = true from by decide)
  clear htv z1 z2 z3 f1 f2 hl1 hl2
  go_enter Tryz.func24, Tryz.ntmps24
  go_wp2_with (first
    | (go_at_call 25; refine (ckCode_c n12 _ _ 1 _ E12.out (H12.out.tv HTv.out)).mono ?_; rintro e w13 ⟨rfl, hb⟩; have HB13 := Lib.hid (ext_trans H12.out.below hb); clear hb)
    | (go_at_call 32; refine (put_s No ⟨1, 1, 0⟩ [] 0 rfl none 0 _ H9.out RdS.none_ (fun k hk => hk.elim) (fun r hr => by cases hr) HTv.out (by rw [HL2.out]; omega)).mono ?_; rw [Z3.out]; rintro e w12 ⟨_, k2, hC, _⟩
       obtain ⟨v12, rfl, hE⟩ := k2 1 rfl; obtain ⟨n12, hn12⟩ := hE.errN; obtain ⟨T12, y12, rfl⟩ := hn12.iface
       have H12 := Lib.hid hC; have E12 := Lib.hid hn12; clear k2 hC hE hn12)
    | (go_at_call 34; refine (has_s ⟨1, 2, 0⟩ _ H8.out).mono ?_; simp only [List.map_cons, List.map_nil]; rw [HHs.out]; rintro e w9 ⟨rfl, hb⟩; have H9 := Lib.hid (H8.out.ext hb); clear hb)
    | (go_at_call 33; refine (whole_s 2 _ H7.out).mono ?_; simp only [List.map_cons, List.map_nil]; rw [HW2.out]; rintro e w8 ⟨rfl, hb⟩; have H8 := Lib.hid (H7.out.ext hb)
       have HX8 := Lib.hid (HX7.out.ext hb)
       have u0 : w8.cell? ⟨w3.heap.size, 0, none⟩ = some (.int .i64 1) := (HX8.out.cell 0).trans rfl
       have u1 : w8.cell? ⟨w3.heap.size, 1, none⟩ = some (.int .i64 2) := (HX8.out.cell 1).trans rfl
       have u2 : w8.cell? ⟨w3.heap.size, 2, none⟩ = some (.int .i64 0) := (HX8.out.cell 2).trans rfl
       have ul := HX8.out.lt
       clear hb)
    | (go_at_call 33; refine (whole_s 1 _ H6.out).mono ?_; simp only [List.map_cons, List.map_nil]; rw [HW1.out]; rintro e w7 ⟨rfl, hb⟩; have H7 := Lib.hid (H6.out.ext hb); have HX7 := Lib.hid (HX6.out.ext hb); clear hb)
    | (go_at_call 35; refine (get_s (⟨1, 2, 0⟩, [⟨1, 7⟩]) _ H5.out (List.mem_cons_self ..) F2.out.1 HL2.out).mono ?_; rintro e w6 ⟨A6, c6, rfl, _, hb⟩; have H6 := Lib.hid (H5.out.ext hb); have HX6 := Lib.hid (HX5.out.ext hb); clear hb)
    | (go_at_call 32; refine (put_s No ⟨1, 2, 1⟩ [] 0 rfl none 0 _ H4.out RdS.none_ (fun k hk => hk.elim) (fun r hr => by cases hr) HTv.out (by rw [HL1.out]; omega)).mono ?_; rw [Z2.out]; rintro e w5 ⟨k1, _, hC, hk⟩
       obtain rfl := k1 rfl
       have H5 := Lib.hid hC
       have HX5 := Lib.hid (hk.bk (.inl rfl) HX4.out)
       have u0 : w5.cell? ⟨w3.heap.size, 0, none⟩ = some (.int .i64 1) := (HX5.out.cell 0).trans rfl
       have u1 : w5.cell? ⟨w3.heap.size, 1, none⟩ = some (.int .i64 2) := (HX5.out.cell 1).trans rfl
       have u2 : w5.cell? ⟨w3.heap.size, 2, none⟩ = some (.int .i64 0) := (HX5.out.cell 2).trans rfl
       have ul := HX5.out.lt
       clear hC hk k1)
    | (go_at_call 32
       refine (put_s (K := fun k => k = w3.heap.size ∨ k = w3.heap.size + 1) (fun k => k = w3.heap.size + 1) ⟨1, 2, 0⟩ [⟨1, 7⟩] 1 rfl (some ⟨w3.heap.size + 1, 0, none⟩) 1 _ (H3.out.more (ext_alloc (ext_alloc (Below.refl _ _) _) _) (fun g hg => by simp only [World.size_alloc]; omega)) (rd_of_bk (Bk.newAt (by simp)) rfl rfl rfl) (fun k hk => .inr (.inr hk)) (fun r hr => by
         rw [List.mem_singleton] at hr
         subst hr
         exact ⟨⟨by decide, by decide⟩, ⟨by decide, by decide⟩⟩) HTv.out (by show 0 + 1 ≤ 1000000; omega)).mono ?_
       rw [Z1.out]; rintro e w4 ⟨k1, _, hC, hk⟩
       obtain rfl := k1 rfl
       have H4 := Lib.hid hC
       have HX4 := Lib.hid (hk.bk (.inl rfl) ((Bk.new w3 61 #[.int .i64 1, .int .i64 2, .int .i64 0]).alloc _))
       clear hC hk k1)
    | (go_at_call 21; refine (open_s (w0 := w) w2.heap.size _ (HD.out.ext HB2.out) (ext_trans HB.out HB2.out) little_check (RdS.mono HR.out (fun k hk => hk.2)) (Nat.le_refl _)).mono ?_; rintro e w3 ⟨sb, rfl, h, hb⟩; have H3 := Lib.hid h; clear h hb)
    | (go_at_call 23; refine (little_c _).mono ?_; rintro e w2 ⟨A, rfl, hr, hb⟩; have HR := Lib.hid hr; have HB2 := Lib.hid hb; clear hr hb)
    | (go_at_call 15; refine (dNew_c 20 _ (by omega) (by omega)).mono ?_; rintro e w1 ⟨db, Rd, rfl, hD, hb⟩; have HD := Lib.hid hD; have HB := Lib.hid hb; clear hD hb))
  go_ret
  exact ⟨rfl, HB13.out⟩
end Go.Proofs.YtipfoljmdeiggaaGreatDoor

/- One element more, and where it lies. -/
namespace Go.Proofs.YtipfoljmdeiggaaGreatDoor
open Go.RowKit Go.Sort

section
variable {α : Type} {enc : α → List Value} {te e : TypeId} {z bytes : Nat} {zero : Value}
/-- One element more; where it lies: in the old array or in a new one. -/
theorem wp_appG (C : AppC enc te e z bytes zero) {o : Oper} {a : Act} {K : Act → World → Prop} {Q : Exit → Act → World → Prop} (W : World) (s x : Operand)
    (ho : o.op = .call { callee := .builtin .append, args := #[s, x], argTypes := #[te, te] }) (base : Nat) (v : Value) (l : List α) (hs : a.eval s = v)
    (hown : W.ownsRow base e z v l.length (l.flatMap enc)) (y : α) (g : Nat) (hx : a.eval x = .slice (some ⟨g, 0, none⟩) 1 1) (hg : Bk W g e (enc y).toArray) (hlen : l.length ≤ 1073741824) (hbase : base ≤ W.heap.size)
    (h : ∀ A c w', w'.ownsRow base e z (.slice A (l ++ [y]).length c) (l ++ [y]).length ((l ++ [y]).flatMap enc) → W.grownBy w' v.ownBlock → (l ++ [y]).length ≤ c → ((Value.slice A (l ++ [y]).length c).ownBlock = v.ownBlock ∨ (Value.slice A (l ++ [y]).length c).ownBlock = some W.heap.size) → K (a.put o.dst (.slice A (l ++ [y]).length c)) w') :
    o.wp Tryz.prog a W K Q := by
  obtain ⟨i0, hi0, hz0, hz1, hz2⟩ := info_parts C.info
  have hbb : (l.length + 1) * bytes ≤ 140737488355328 := Nat.le_trans (Nat.mul_le_mul (show l.length + 1 ≤ 1073741825 by omega) C.small) (by omega)
  obtain ⟨v', w', hr, h1, h2, _, h3⟩ := run_append_own_at (P := Tryz.prog) W base te o.type e i0 _ z bytes C.te hi0 hz0 hz1 hz2 C.zz C.z0 v l.length (l.flatMap enc) hown ⟨g, 0, none⟩ 1 1 (enc y) (by rw [C.len]; omega)
    (World.news_of_block (cs := (enc y).toArray) (t := e) (fr := (0, 0)) hg) (C.one y) (by simp only [maxLen]; omega) hbb hbase
  unfold Oper.wp execOp
  simp only [ho, resolve, invoke, builtin, Sem.run_bind, Sem.run_pure, Result.andThen_ok, List.map_toArray, List.map_cons, List.map_nil, hs, hx, hr]
  have h1' : w'.ownsRow base e z v' (l ++ [y]).length ((l ++ [y]).flatMap enc) := by
    rw [List.flatMap_append, List.length_append, List.flatMap_singleton]
    exact h1
  have h1'' := h1'
  rcases h1''.2 with ⟨_, hn⟩ | ⟨b, c, cur, hv, _, _, hc, _⟩
  · simp at hn
  · rw [hv] at h1' h3 ⊢
    exact h _ c w' h1' h2 hc h3
theorem step_appG (C : AppC enc te e z bytes zero) {ops : Array Oper} {o : Oper} {a : Act} {K : Act → World → Prop} {Q : Exit → Act → World → Prop} {E : Prop} (W : World) (hgd : o.guard = none) (s x : Operand)
    (ho : o.op = .call { callee := .builtin .append, args := #[s, x], argTypes := #[te, te] }) (base : Nat) (v : Value) (l : List α) (hs : a.eval s = v)
    (hown : W.ownsRow base e z v l.length (l.flatMap enc)) (y : α) (g : Nat) (hx : a.eval x = .slice (some ⟨g, 0, none⟩) 1 1) (hg : Bk W g e (enc y).toArray) (hlen : l.length ≤ 1073741824) (hbase : base ≤ W.heap.size)
    (h : ∀ A c w', w'.ownsRow base e z (.slice A (l ++ [y]).length c) (l ++ [y]).length ((l ++ [y]).flatMap enc) → W.grownBy w' v.ownBlock → (l ++ [y]).length ≤ c → ((Value.slice A (l ++ [y]).length c).ownBlock = v.ownBlock ∨ (Value.slice A (l ++ [y]).length c).ownBlock = some W.heap.size) → K (a.put o.dst (.slice A (l ++ [y]).length c)) w') :
    if Region.wanted o (yielded ops a.tmps) = true then Oper.wp Tryz.prog o a W K Q else E := by
  rw [if_pos (by simp [Region.wanted, hgd])]
  exact wp_appG C W s x ho base v l hs hown y g hx hg hlen hbase h
theorem wpList_appG (C : AppC enc te e z bytes zero) {ops : Array Oper} {rest : List Oper} {o : Oper} {a : Act} {Q : Exit → Act → World → Prop} (W : World) (hgd : o.guard = none) (s x : Operand)
    (ho : o.op = .call { callee := .builtin .append, args := #[s, x], argTypes := #[te, te] }) (base : Nat) (v : Value) (l : List α) (hs : a.eval s = v)
    (hown : W.ownsRow base e z v l.length (l.flatMap enc)) (y : α) (g : Nat) (hx : a.eval x = .slice (some ⟨g, 0, none⟩) 1 1) (hg : Bk W g e (enc y).toArray) (hlen : l.length ≤ 1073741824) (hbase : base ≤ W.heap.size)
    (h : ∀ A c w', w'.ownsRow base e z (.slice A (l ++ [y]).length c) (l ++ [y]).length ((l ++ [y]).flatMap enc) → W.grownBy w' v.ownBlock → (l ++ [y]).length ≤ c → ((Value.slice A (l ++ [y]).length c).ownBlock = v.ownBlock ∨ (Value.slice A (l ++ [y]).length c).ownBlock = some W.heap.size) → wpList Tryz.prog ops Q rest (a.put o.dst (.slice A (l ++ [y]).length c)) w') :
    wpList Tryz.prog ops Q (o :: rest) a W :=
  wpList_plain hgd fun _ hK => wp_appG C W s x ho base v l hs hown y g hx hg hlen hbase fun A c w' h1 h2 h3 h4 => hK _ _ (h A c w' h1 h2 h3 h4)
end
end Go.Proofs.YtipfoljmdeiggaaGreatDoor

/- The first of a slice's rows; a masked number. -/
namespace Go.Proofs.YtipfoljmdeiggaaGreatDoor
open Go.RowKit Go.Sort

theorem RdS.pre {S : Nat → Prop} {w : World} {z n m : Nat} {A : Option Addr} {xs : List Value} (h : RdS w S z A n xs) (hm : m ≤ n) : RdS w S z A m (xs.take (m * z)) := by
  refine ⟨?_, fun h0 => ?_⟩
  · rw [List.length_take, h.1]
    exact Nat.min_eq_left (Nat.mul_le_mul_right z hm)
  · obtain ⟨ad, h1, h2, h3, h4⟩ := h.2 (by omega)
    refine ⟨ad, h1, h2, h3, fun j u hu => h4 j u ?_⟩
    rw [List.getElem?_take] at hu
    split at hu
    · exact hu
    · cases hu
theorem take_rows {l : List Rw} {m : Nat} (hm : m ≤ l.length) : (l.flatMap rwC).take (m * 2) = (l.take m).flatMap rwC := by
  induction l generalizing m with
  | nil => simp
  | cons a l ih =>
    cases m with
    | zero => simp
    | succ m =>
      rw [List.flatMap_cons, List.take_succ_cons, List.flatMap_cons, ← ih (by simpa using hm), show (m + 1) * 2 = m * 2 + 2 by omega, show m * 2 + 2 = (rwC a).length + m * 2 by show m * 2 + 2 = 2 + m * 2; omega, List.take_length_add_append]
theorem mask_i64 (x : Int) (m : Nat) (hm : m < 9223372036854775808) : ∃ n : Nat, bits .and .i64 x (m : Int) = n ∧ n ≤ m := by
  unfold bits
  simp only
  have h : (BitVec.ofInt 64 x &&& BitVec.ofInt 64 (m : Int)).toNat ≤ m := by
    rw [BitVec.toNat_and]
    refine Nat.le_trans Nat.and_le_right ?_
    simp
    omega
  exact ⟨(BitVec.ofInt 64 x &&& BitVec.ofInt 64 m).toNat, IntWalk.i64_in (((BitVec.ofInt 64 x &&& BitVec.ofInt 64 (m : Int)).toNat : Nat) : Int) (by omega), h⟩
end Go.Proofs.YtipfoljmdeiggaaGreatDoor

/- The document's Same of rows. -/
namespace Go.Proofs.YtipfoljmdeiggaaGreatDoor
open Go.RowKit Go.Sort
attribute [local go_sem high] row_eqI

theorem rw_ne_bool {x y : Rw} (h : ¬ y = x) : (!decide (y.k = x.k) || !decide (y.v = x.v)) = true := by
  cases x; cases y
  simp only [Rw.mk.injEq] at h
  simp
  omega
set_option maxHeartbeats 1000000 in
theorem same_c (B : Nat) (w : World) (A A' : Option Addr) (c c' : Nat) (l l' : List Rw) (h : Rd w B 74 2 A l.length (rwsC l)) (h' : Rd w B 74 2 A' l'.length (rwsC l')) (hl : l.length ≤ 2147483648) :
    Calls Tryz.prog 36 #[.slice A l.length c, .slice A' l'.length c'] w (BoolPost w (decide (l = l'))) := by
  have hlb := hl
  by_cases hlen : l.length = l'.length
  · have hT : ((l.length : Int) != (l'.length : Int)) = false := by simp [hlen]
    have hT2 : (l.length == l'.length) = true := by simp [hlen]
    have HL := Lib.hid hlen
    have H := Lib.hid h
    have H' := Lib.hid h'
    clear h h' hlen
    go_enter Tryz.func36, Tryz.ntmps36
    go_wp2
    go_loopg [5] l.length (fun k v5 wr => ∃ i n, i + k = l.length ∧ v5 = .int .i64 (i : Nat) ∧ l.take i = l'.take i ∧ wr = w.drewN n)
    case atStart => exact ⟨0, 0, by simp, rfl, by simp, rfl⟩
    case round =>
      obtain ⟨i, n, hk, rfl, hpre, rfl⟩ := hrel
      have HP := Lib.hid hpre
      clear hpre
      by_cases hi : i < l.length
      · have hi' : i < l'.length := by have := HL.out; omega
        have hy : l[i]? = some (l[i]) := List.getElem?_eq_getElem hi
        have hy' : l'[i]? = some (l'[i]) := List.getElem?_eq_getElem hi'
        generalize l[i] = y at hy
        generalize l'[i] = y' at hy'
        obtain ⟨ad, rfl, d0, d1⟩ := H.out.rws hy hi
        obtain ⟨ad', rfl, e0, e1⟩ := H'.out.rws hy' hi'
        have HY := Lib.hid hy
        have HY' := Lib.hid hy'
        clear hy hy'
        by_cases hyy : y = y'
        · have hN : (!decide (y.k = y'.k) || !decide (y.v = y'.v)) = false := by rw [hyy]; simp
          have HE := Lib.hid hyy
          clear hyy
          go_wp2
          go_quiet (fail)
          go_wp2
          go_roundg (gk - 1)
          case measure => omega
          case rel => exact ⟨i + 1, n + nq, by omega, by go_num, by rw [take_succ_of HY.out, take_succ_of HY'.out, HP.out, HE.out], rfl⟩
        · have hN := rw_ne_bool hyy
          have HE := Lib.hid hyy
          clear hyy
          go_wp2
          go_quiet (fail)
          go_wp2
          go_ret
          have hne : l ≠ l' := by
            intro e
            have h1 := HY.out
            have h2 := HY'.out
            rw [e, h2] at h1
            exact HE.out (Option.some.inj h1).symm
          exact ⟨by simp [hne], below_drewN (below_drewN (Below.refl _ _) _) _⟩
      · have hil : i = l.length := by omega
        subst hil
        have heq : l = l' := by
          have h1 := HP.out
          rw [List.take_length, HL.out, List.take_length] at h1
          exact h1
        have HQ := Lib.hid heq
        clear heq
        go_wp2
        go_ret
        exact ⟨by simp [HQ.out], below_drewN (Below.refl _ _) _⟩
  · have hT : ((l.length : Int) != (l'.length : Int)) = true := by simp; omega
    have hT2 : (l.length == l'.length) = false := by simp [hlen]
    have hne : l ≠ l' := fun e => hlen (by rw [e])
    have HN := Lib.hid hne
    clear hlen hne h h'
    go_enter Tryz.func36, Tryz.ntmps36
    go_wp2
    go_ret
    exact ⟨by simp [HN.out], Below.refl _ _⟩

end Go.Proofs.YtipfoljmdeiggaaGreatDoor

/- An argument that came in, opened type by type: what its cells are. -/
namespace Go.Proofs.YtipfoljmdeiggaaGreatDoor
open Go.ChangeShapes Go.WideShapes Go.RowKit Go.Deep

/-- Whatever reads as a t is the cells of some a that is 'ok'. -/
def Opens {H : Type} (enc : TypeId × Value → H) (P : Program) (w : World) (t : TypeId) {α : Type} (cells : α → List Value) (ok : α → Prop) : Prop :=
  ∀ fuel cs x, DataW.trod enc P w 0 (fun _ => true) true fuel t cs = some x → ∃ a, cs = cells a ∧ ok a
/-- The same of a struct's fields, from the offset 'off' on. -/
def FOpens {H : Type} (enc : TypeId × Value → H) (P : Program) (w : World) (fs : List Field) (off : Nat) {α : Type} (cells : α → List Value) (ok : α → Prop) : Prop :=
  ∀ (cs : List Value) (n : Nat), cs.length = (fs.map fun f => P.cellsOf f.type).sum → (∀ f ∈ fs, ∃ y, DataW.trod enc P w 0 (fun _ => true) true n f.type ((cs.drop (f.offset - off)).take (P.cellsOf f.type)) = some y) → ∃ a, cs = cells a ∧ ok a
/-- A slice that came in. -/
structure Sl (α : Type) where
  A : Option Addr
  cap : Nat
  l : List α

section
variable {H : Type} {enc : TypeId × Value → H} {P : Program} {w : World} {t e : TypeId} {α β : Type} {cells : α → List Value} {ok : α → Prop}
theorem Opens.int {k : IntKind} (ht : P.underlying t = some (.int k)) : Opens enc P w t (fun n : Int => [.int k n]) (fun n => (Lit.int k n).wf = true) := by
  intro fuel cs x h
  obtain ⟨n, rfl, _, hw⟩ := DataW.trod_int ht h
  exact ⟨n, rfl, hw⟩
theorem Opens.bool (ht : P.underlying t = some .bool) : Opens enc P w t (fun b : Bool => [.bool b]) (fun _ => True) := by
  intro fuel cs x h
  obtain ⟨b, rfl, _⟩ := DataW.trod_bool ht h
  exact ⟨b, rfl, trivial⟩
theorem Opens.string (ht : P.underlying t = some .string) : Opens enc P w t (fun s : ByteArray => [.string s]) (fun s => s.size ≤ maxLen) := by
  intro fuel cs x h
  obtain ⟨s, rfl, _, hs⟩ := DataW.trod_string ht h
  exact ⟨s, rfl, hs⟩
theorem Opens.map {cells' : β → List Value} {ok' : β → Prop} (h : Opens enc P w t cells ok) (f : α → β) (hc : ∀ a, cells a = cells' (f a)) (hk : ∀ a, ok a → ok' (f a)) : Opens enc P w t cells' ok' := by
  intro fuel cs x hx
  obtain ⟨a, rfl, ha⟩ := h fuel cs x hx
  exact ⟨f a, hc a, hk a ha⟩
theorem FOpens.nil (off : Nat) : FOpens enc P w [] off (fun _ : Unit => []) (fun _ => True) := by
  intro cs n hl _
  exact ⟨(), List.eq_nil_of_length_eq_zero hl, trivial⟩
theorem FOpens.cons {f : Field} {fs : List Field} {off : Nat} {cells' : β → List Value} {ok' : β → Prop} (h : Opens enc P w f.type cells ok) (hck : (decide (f.offset = off) && fs.all fun g => decide (off + P.cellsOf f.type ≤ g.offset)) = true) (hfs : FOpens enc P w fs (off + P.cellsOf f.type) cells' ok') : FOpens enc P w (f :: fs) off (fun a : α × β => cells a.1 ++ cells' a.2) (fun a => ok a.1 ∧ ok' a.2) := by
  rw [Bool.and_eq_true, decide_eq_true_eq, List.all_eq_true] at hck
  obtain ⟨ho, hge0⟩ := hck
  have hge : ∀ g ∈ fs, off + P.cellsOf f.type ≤ g.offset := fun g hg => by simpa using hge0 g hg
  intro cs n hl hf
  rw [List.map_cons, List.sum_cons] at hl
  obtain ⟨y, hy⟩ := hf f (by simp)
  rw [ho, Nat.sub_self, List.drop_zero] at hy
  obtain ⟨a, ha, hka⟩ := h _ _ _ hy
  obtain ⟨b, hb, hkb⟩ := hfs (cs.drop (P.cellsOf f.type)) n (by rw [List.length_drop]; omega) (fun g hg => by
    obtain ⟨z, hz⟩ := hf g (List.mem_cons_of_mem _ hg)
    refine ⟨z, ?_⟩
    rw [List.drop_drop, show P.cellsOf f.type + (g.offset - (off + P.cellsOf f.type)) = g.offset - off by have := hge g hg; omega]
    exact hz)
  exact ⟨(a, b), by show cs = cells a ++ cells' b; rw [← ha, ← hb, List.take_append_drop], hka, hkb⟩
theorem Opens.struct {fs : Array Field} (ht : P.underlying t = some (.struct fs)) (hs : P.cellsOf t = (fs.toList.map fun f => P.cellsOf f.type).sum) (h : FOpens enc P w fs.toList 0 cells ok) : Opens enc P w t cells ok := by
  intro fuel cs x hx
  obtain ⟨xs, n, _, _, hl, hlen, hf⟩ := DataW.trod_struct ht hx
  refine h cs n (hl.trans hs) fun f hf' => ?_
  obtain ⟨i, hi⟩ := List.mem_iff_getElem?.1 hf'
  have hi' : fs[i]? = some f := by simpa using hi
  have hlt : i < xs.length := by rw [hlen]; rcases Nat.lt_or_ge i fs.size with h | h; exact h; rw [Array.getElem?_eq_none h] at hi'; cases hi'
  refine ⟨xs[i], ?_⟩
  rw [Nat.sub_zero, hf i f hi', List.getElem?_eq_getElem hlt]
theorem Opens.slice {z : Nat} (ht : P.underlying t = some (.slice e)) (hz : P.cellsOf e = z) (h0 : 0 < z) (hc : ∀ a, (cells a).length = z) (h : Opens enc P w e cells ok) :
    Opens enc P w t (fun s : Sl α => [.slice s.A s.l.length s.cap]) (fun s => s.l.length ≤ s.cap ∧ s.cap ≤ maxLen ∧ Rd w w.heap.size e z s.A s.l.length (s.l.flatMap cells) ∧ ∀ a ∈ s.l, ok a) := by
  intro fuel cs x hx
  rcases open_slice ht hx with ⟨rfl, _⟩ | ⟨a, len, cap, m, n, D, Pl, rfl, _, hl, hm, hmm, _, hi⟩
  · exact ⟨⟨none, 0, []⟩, rfl, Nat.zero_le _, Nat.zero_le _, Rd.none_, by simp⟩
  rw [hz] at hi
  have hml : len ≤ m := by rw [hmm]; simp only [if_true]; exact hl
  have hall : ∀ k, k ≤ len → ∃ l : List α, l.length = k ∧ (∀ j u, (l.flatMap cells)[j]? = some u → w.cell? (a.add j) = some u) ∧ ∀ x ∈ l, ok x := by
    intro k
    induction k with
    | zero => intro _; exact ⟨[], rfl, by simp, by simp⟩
    | succ k ih =>
      intro hk
      obtain ⟨l, hll, hlc, hlo⟩ := ih (by omega)
      obtain ⟨cs', h1, h2⟩ := hi k (by omega)
      obtain ⟨_, hlen, hcell⟩ := World.cells?_some h1
      obtain ⟨b, rfl, hb⟩ := h _ _ _ h2
      refine ⟨l ++ [b], by simp [hll], fun j u hu => ?_, fun x hx => ?_⟩
      · rw [List.flatMap_append, List.flatMap_singleton] at hu
        have hfl : (l.flatMap cells).length = k * z := by
          rw [← hll]
          clear hll hlc hlo hu
          induction l with
          | nil => simp
          | cons y l ih' => rw [List.flatMap_cons, List.length_append, hc, ih', List.length_cons, Nat.add_mul]; omega
        rcases Nat.lt_or_ge j (k * z) with hj | hj
        · rw [List.getElem?_append_left (by omega)] at hu
          exact hlc j u hu
        · rw [List.getElem?_append_right (by omega), hfl] at hu
          have hjz : j - k * z < z := by
            rcases Nat.lt_or_ge (j - k * z) z with h | h
            · exact h
            · rw [List.getElem?_eq_none (by rw [hc]; exact h)] at hu; cases hu
          have := hcell (j - k * z) hjz
          rw [Go.Proofs.YtipfoljmdeiggaaGreatDoor.add_of_add, show k * z + (j - k * z) = j by omega, hu] at this
          exact this
      · rcases List.mem_append.1 hx with hx | hx
        · exact hlo x hx
        · rw [List.mem_singleton] at hx; rw [hx]; exact hb
  obtain ⟨l, hll, hlc, hlo⟩ := hall len (Nat.le_refl _)
  have hfl : (l.flatMap cells).length = l.length * z := by
    clear hll hlc hlo
    induction l with
    | nil => simp
    | cons y l ih' => rw [List.flatMap_cons, List.length_append, hc, ih', List.length_cons, Nat.add_mul]; omega
  refine ⟨⟨some a, cap, l⟩, by simp [hll], by simp only [hll]; exact hl, hm, ⟨hfl, fun hn => ⟨a, rfl, .inl ?_, hlc⟩⟩, hlo⟩
  have hp : 0 < (l.flatMap cells).length := by rw [hfl]; exact Nat.mul_pos hn h0
  have := World.block_lt_of_cell? w _ (hlc 0 _ (List.getElem?_eq_getElem hp))
  rwa [block_of_add] at this

theorem Opens.Trod {v : Value} {d : DataW H} {p : List MemPlace} (h : Opens enc P w t cells ok) (hd : DataW.Trod enc P w 0 (fun _ => true) true t v d p) : ∃ a, v.cells.toList = cells a ∧ ok a := by
  obtain ⟨fuel, hf⟩ := hd
  exact h _ _ _ hf
theorem cells_slice {v : Value} {A : Option Addr} {n c : Nat} (h : v.cells.toList = [.slice A n c]) (hv : ∀ cs, v ≠ .agg cs) : v = .slice A n c := by
  cases v <;> simp_all [Value.cells]
end
end Go.Proofs.YtipfoljmdeiggaaGreatDoor

/- What a store keeps, and what the law keeps of it. -/
namespace Go.Proofs.YtipfoljmdeiggaaGreatDoor
open Go.RowKit Go.Sort

theorem putD_had {p : PlanD} {life : Nat} {d : DiskD} {ps : List (Id3 × List Rw)} {q : Id3 × List Rw} (h : q.1 ∈ ps.map (·.1)) : (putD p life d ps q).2 = (d, ps) := by
  unfold putD
  split <;> rfl
theorem putD_err {p : PlanD} {life : Nat} {d : DiskD} {ps : List (Id3 × List Rw)} {q : Id3 × List Rw} {code : Int} (h : (putD p life d ps q).1 = some code) : (putD p life d ps q).2.2 = ps := by
  unfold putD at h ⊢
  split
  · rfl
  · next hm =>
    rw [if_neg hm] at h
    split
    · rfl
    · next hx =>
      rw [if_neg hx] at h
      simp only at h ⊢
      rw [h, if_neg (by simp)]
theorem putD_new {p : PlanD} {life : Nat} {d : DiskD} {ps : List (Id3 × List Rw)} {q : Id3 × List Rw} (h : (putD p life d ps q).1 = none) (hx : q.1 ∉ ps.map (·.1)) : (putD p life d ps q).2.2 = ps ++ [q] := by
  unfold putD at h ⊢
  split
  · next hm => rw [if_pos hm] at h; cases h
  · next hm =>
    rw [if_neg hm, if_neg hx] at h
    simp only at h ⊢
    rw [if_pos h]
theorem putD_life {p : PlanD} {life : Nat} {d : DiskD} {ps : List (Id3 × List Rw)} {q : Id3 × List Rw} (h : CkOk p d ps) (hr : d.room ≤ 65536) : (putD p life d ps q).2.1.life ≤ d.life + 1 := by
  unfold putD
  split
  · exact Nat.le_succ _
  · split
    · exact Nat.le_succ _
    · have := (appendD_law (b := recB q) (life := life) h.log hr).2.2.2
      rw [List.length_map] at this
      exact this
/-- The blocks of the list and of its rows. -/
def KL (v : Value) (L : List Pz) (k : Nat) : Prop := v.ownBlock = some k ∨ ∃ z ∈ L, (pzS z).ownBlock = some k
theorem KL.ge {w : World} {base : Nat} {v : Value} {L : List Pz} (h : w.ownsRow base 83 4 v L.length (pzsC L)) (hr : ∀ z ∈ L, w.ownsRow base 74 2 (pzS z) z.rows.length (rwsC z.rows)) : ∀ k, KL v L k → base ≤ k ∧ k < w.heap.size := by
  intro k hk
  rcases hk with hk | ⟨z, hz, hk⟩
  · exact h.lt k hk
  · exact (hr z hz).lt k hk
section
variable {sb db : Nat} {p : PlanD} {A : Option Addr} {c life : Nat} {d : DiskD} {ps : List (Id3 × List Rw)} {K K' : Nat → Prop} {w0 w w' : World}
theorem CIs.step (h : CIs sb db p A c life d ps K w0 w) (hf : Fr K w w') (hK : ∀ k, K k → w0.heap.size ≤ k) (hK' : ∀ g, K' g → (K g ∨ w.heap.size ≤ g) ∧ g < w'.heap.size) : CIs sb db p A c life d ps K' w0 w' := by
  obtain ⟨X, h1, h2, h3, h4, h5, h6⟩ := h
  exact ⟨X, h1.fr hf (fun k hk hs => (h6 k hs).1 hk), h2, h3, h4, h5.trans (hf.below hK h5.size), fun g hg => ⟨fun ha => (hK' g hg).1.elim (fun h => (h6 g h).1 ha) (fun h => by have := h1.qb.2 g ha; omega), (hK' g hg).2⟩⟩
theorem CIs.less (h : CIs sb db p A c life d ps K w0 w) (hK' : ∀ g, K' g → K g) : CIs sb db p A c life d ps K' w0 w := by
  obtain ⟨X, h1, h2, h3, h4, h5, h6⟩ := h
  exact ⟨X, h1, h2, h3, h4, h5, fun g hg => h6 g (hK' g hg)⟩
theorem kp_grow {v : Value} {L : List Pz} {w2 w8 : World} {o : Obj} {x : Id3} {A2 A8 : Option Addr} {c2 c8 : Nat} {rl : List Rw} (hC : CIs sb db p A c life d ps K w0 w) (hK : ∀ g, KL v L g → K g) (hown : w.ownsRow w0.heap.size 83 4 v L.length (pzsC L))
    (hrows : ∀ z ∈ L, w.ownsRow w0.heap.size 74 2 (pzS z) z.rows.length (rwsC z.rows)) (hb : Below w.heap.size w w2) (hr2 : w2.ownsRow w.heap.size 74 2 (.slice A2 rl.length c2) rl.length (rwsC rl)) (hg : (w2.alloc o).grownBy w8 v.ownBlock)
    (h8 : w8.ownsRow w0.heap.size 83 4 (.slice A8 (L ++ [(⟨x, A2, c2, rl⟩ : Pz)]).length c8) (L ++ [(⟨x, A2, c2, rl⟩ : Pz)]).length (pzsC (L ++ [(⟨x, A2, c2, rl⟩ : Pz)])))
    (hn : (Value.slice A8 (L ++ [(⟨x, A2, c2, rl⟩ : Pz)]).length c8).ownBlock = v.ownBlock ∨ (Value.slice A8 (L ++ [(⟨x, A2, c2, rl⟩ : Pz)]).length c8).ownBlock = some (w2.alloc o).heap.size) :
    CIs sb db p A c life d ps (KL (.slice A8 (L ++ [(⟨x, A2, c2, rl⟩ : Pz)]).length c8) (L ++ [(⟨x, A2, c2, rl⟩ : Pz)])) w0 w8 ∧ ∀ z ∈ L ++ [(⟨x, A2, c2, rl⟩ : Pz)], w8.ownsRow w0.heap.size 74 2 (pzS z) z.rows.length (rwsC z.rows) := by
  have hC' := hC.less hK
  have hge := KL.ge hown hrows
  have hb2 : Below w.heap.size w (w2.alloc o) := ext_alloc hb o
  have hz2 := hb2.size
  have hz0 := hC.below.size
  have hownA := own_ext hown hb2
  have hall : ∀ z ∈ L ++ [(⟨x, A2, c2, rl⟩ : Pz)], w8.ownsRow w0.heap.size 74 2 (pzS z) z.rows.length (rwsC z.rows) := by
    intro z hz
    rcases List.mem_append.1 hz with hz | hz
    · have h1 := own_ext (hrows z hz) hb2
      exact h1.kept hg (own_ne_own h1 hownA (by decide))
    · rw [List.mem_singleton] at hz
      subst hz
      have h1 := own_ext (own_mono hr2 (base' := w0.heap.size) hz0) (ext_alloc (Below.refl _ _) o)
      exact h1.kept hg (own_ne_own h1 hownA (by decide))
  refine ⟨hC'.step (((Fr.of_below hb2).grown hg (fun k hk => .inl (.inl hk)))) (fun k hk => (hge k hk).1) (fun g hg' => ?_), hall⟩
  have hlt := KL.ge h8 hall g hg'
  refine ⟨?_, hlt.2⟩
  rcases hg' with hg' | ⟨z, hz, hg'⟩
  · rcases hn with hn | hn
    · rw [hn] at hg'
      exact .inl (.inl hg')
    · rw [hn] at hg'
      injection hg' with hg'
      exact .inr (by omega)
  · rcases List.mem_append.1 hz with hz | hz
    · exact .inl (.inr ⟨z, hz, hg'⟩)
    · rw [List.mem_singleton] at hz
      subst hz
      exact .inr (hr2.lt g hg').1
/-- What goes on holding: the store holds just what was kept. -/
def KpIs (sb db : Nat) (p : PlanD) (A : Option Addr) (c i : Nat) (v : Value) (w0 w : World) : Prop := ∃ (life : Nat) (d : DiskD) (L : List Pz),
  CIs sb db p A c life d (L.map pzT) (KL v L) w0 w ∧ w.ownsRow w0.heap.size 83 4 v L.length (pzsC L) ∧ (∀ z ∈ L, w.ownsRow w0.heap.size 74 2 (pzS z) z.rows.length (rwsC z.rows)) ∧ d.life ≤ i ∧ L.length ≤ i
theorem kp_more {i j : Nat} {v : Value} (hij : i ≤ j) (h : KpIs sb db p A c i v w0 w) : KpIs sb db p A c j v w0 w := by
  obtain ⟨life, d, L, h1, h2, h3, h4, h5⟩ := h
  exact ⟨life, d, L, h1, h2, h3, by omega, by omega⟩
theorem arm_life (d : DiskD) (n : Int) : (d.arm n).life = d.life := by unfold DiskD.arm; split <;> rfl
theorem cut_life (d : DiskD) : d.cut.life ≤ d.life + 1 := by
  show (if d.down then d.life else d.life + 1) ≤ d.life + 1
  split <;> omega
/-- What the store's calls leave of what was kept. -/
theorem kp_kept {v : Value} {L : List Pz} {w' : World} (hK : ∀ g, KL v L g → K g) (hk : KeptB K w w') (hown : w.ownsRow w0.heap.size 83 4 v L.length (pzsC L)) (hrows : ∀ z ∈ L, w.ownsRow w0.heap.size 74 2 (pzS z) z.rows.length (rwsC z.rows)) :
    w'.ownsRow w0.heap.size 83 4 v L.length (pzsC L) ∧ ∀ z ∈ L, w'.ownsRow w0.heap.size 74 2 (pzS z) z.rows.length (rwsC z.rows) :=
  ⟨hk.own hown (fun k h => hK k (.inl h)), fun z hz => hk.own (hrows z hz) (fun k h => hK k (.inr ⟨z, hz, h⟩))⟩
end
theorem Rd.pzs {w : World} {B : Nat} {e : TypeId} {A : Option Addr} {n : Nat} {l : List Pz} (h : Rd w B e 4 A n (pzsC l)) {i : Nat} {y : Pz} (hy : l[i]? = some y) (hn : i < n) :
    ∃ ad, A = some ad ∧ w.cell? (ad.add (i * 4)) = some (.int .i64 y.id.b) ∧ w.cell? ⟨(ad.add (i * 4)).block, (ad.add (i * 4)).off + 1, none⟩ = some (.int .i64 y.id.s) ∧ w.cell? ⟨(ad.add (i * 4)).block, (ad.add (i * 4)).off + 2, none⟩ = some (.int .i64 y.id.p) ∧ w.cell? ⟨(ad.add (i * 4)).block, (ad.add (i * 4)).off + 3, none⟩ = some (pzS y) := by
  obtain ⟨ad, hA, hc⟩ := h.cell (by omega)
  refine ⟨ad, hA, ?_, ?_, ?_, ?_⟩
  · exact hc (i * 4) _ (by rw [show i * 4 = i * 4 + 0 from rfl]; exact (flat_at pzC 4 (fun _ => rfl) l i y hy 0 (by omega)))
  · rw [← add_succ]; exact hc _ _ (flat_at pzC 4 (fun _ => rfl) l i y hy 1 (by omega))
  · rw [← add_succ]; exact hc _ _ (flat_at pzC 4 (fun _ => rfl) l i y hy 2 (by omega))
  · rw [← add_succ]; exact hc _ _ (flat_at pzC 4 (fun _ => rfl) l i y hy 3 (by omega))
/-! ### an act of the store's laws, in cells -/
structure ActC where
  kind : Int
  n : Int
  id : Id3
  r : Sl Rw
def actC (a : ActC) : List Value := [.int .i64 a.kind, .int .i64 a.n, .int .i64 a.id.b, .int .i64 a.id.s, .int .i64 a.id.p, .slice a.r.A a.r.l.length a.r.cap]
structure ActCOk (W : World) (a : ActC) : Prop where
  n : I64 a.n
  rl : a.r.l.length ≤ a.r.cap
  rr : RdS W (· < W.heap.size) 2 a.r.A a.r.l.length (rwsC a.r.l)
  r64 : RowsOk a.r.l
theorem Rd.actsC {w : World} {B : Nat} {e : TypeId} {A : Option Addr} {n : Nat} {l : List ActC} (h : Rd w B e 6 A n (l.flatMap actC)) {i : Nat} {y : ActC} (hy : l[i]? = some y) (hn : i < n) :
    ∃ ad, A = some ad ∧ ∀ (j : Nat) u, (#[.int .i64 y.kind, .int .i64 y.n, .int .i64 y.id.b, .int .i64 y.id.s, .int .i64 y.id.p, .slice y.r.A y.r.l.length y.r.cap] : Array Value)[j]? = some u → w.cell? ((ad.add (i * 6)).add j) = some u := by
  obtain ⟨ad, hA, hc⟩ := h.cell (by omega)
  refine ⟨ad, hA, fun j u hu => ?_⟩
  have hj : j < 6 := (Array.getElem?_eq_some_iff.1 hu).1
  rw [add_of_add]
  refine hc _ _ ?_
  rw [flat_at actC 6 (fun _ => rfl) l i y hy j hj]
  have h2 : (actC y)[j]? = (#[.int .i64 y.kind, .int .i64 y.n, .int .i64 y.id.b, .int .i64 y.id.s, .int .i64 y.id.p, .slice y.r.A y.r.l.length y.r.cap] : Array Value).toList[j]? := rfl
  rw [h2, Array.getElem?_toList]
  exact hu
end Go.Proofs.YtipfoljmdeiggaaGreatDoor

/- The State pieces of a batch, in order. -/
namespace Go.Proofs.YtipfoljmdeiggaaGreatDoor
open Go.RowKit Go.Sort

/-- The State pieces of a batch, in order. -/
def idsOf (b : Int) (M st : Nat) : List Id3 := (List.range M).map fun q => ⟨b, (st : Nat), (q : Nat)⟩
def idsL (p : PlanD) (b : Int) : List Id3 := (statesL p.ops).flatMap fun st => idsOf b p.parts.toNat st
theorem idsOf_succ (b : Int) (M st : Nat) : idsOf b (M + 1) st = idsOf b M st ++ [⟨b, (st : Nat), (M : Nat)⟩] := by
  unfold idsOf
  rw [List.range_succ, List.map_append]
  rfl
theorem idsOf_len (b : Int) (M st : Nat) : (idsOf b M st).length = M := by
  unfold idsOf
  simp
theorem mask_mod (x : Int) (k : Nat) (hk : 0 < k) : ∃ n : Nat, (bits .and .i64 x 65535).tmod (k : Int) = n ∧ n < k := by
  obtain ⟨n, hn, _⟩ := mask_i64 x 65535 (by omega)
  have hn' : bits .and .i64 x 65535 = n := hn
  exact ⟨n % k, by rw [hn']; exact (Int.ofNat_tmod n k).symm, Nat.mod_lt _ hk⟩
theorem idsL_len (p : PlanD) (b : Int) : (idsL p b).length = (statesL p.ops).length * p.parts.toNat := by
  unfold idsL
  generalize statesL p.ops = l
  induction l with
  | nil => simp
  | cons a l ih => rw [List.flatMap_cons, List.length_append, idsOf_len, ih, List.length_cons, Nat.succ_mul]; omega
theorem swap_perm {l : List Id3} {m m1 : Nat} {x0 x1 : Id3} (h0 : l[m]? = some x0) (h1 : l[m1]? = some x1) : ((l.set m x1).set m1 x0).Perm l := by
  obtain ⟨a0, e0⟩ := List.getElem?_eq_some_iff.1 h0
  obtain ⟨a1, e1⟩ := List.getElem?_eq_some_iff.1 h1
  subst e0 e1
  exact List.set_set_perm a0 a1
def ordC (l : List Int) : List Value := l.map fun n => .int .i64 n
theorem flatMap_take_succ {α β : Type} (f : α → List β) {l : List α} {i : Nat} {y : α} (h : l[i]? = some y) : (l.take (i + 1)).flatMap f = (l.take i).flatMap f ++ f y := by
  rw [take_succ_of h, List.flatMap_append, List.flatMap_singleton]
end Go.Proofs.YtipfoljmdeiggaaGreatDoor

/- A name stored into an element of a slice of the function's own. -/
namespace Go.Proofs.YtipfoljmdeiggaaGreatDoor
open Go.RowKit Go.Sort

theorem add0 (g n : Nat) : (⟨g, 0, none⟩ : Addr).add n = ⟨g, n, none⟩ := by
  unfold Addr.add
  simp
  exact fun h => h.symm
theorem run_storeAt_id (w : World) (a : Addr) (x : Id3) (c0 c1 c2 : Value) (h0 : w.cell? a = some c0) (f0 : w.frozen? a = false) (f1 : w.frozen? ⟨a.block, a.off + 1, none⟩ = false) (f2 : w.frozen? ⟨a.block, a.off + 2, none⟩ = false)
    (h1 : ∀ u, (w.setCell a u).cell? ⟨a.block, a.off + 1, none⟩ = some c1) (h2 : ∀ u v, ((w.setCell a u).setCell ⟨a.block, a.off + 1, none⟩ v).cell? ⟨a.block, a.off + 2, none⟩ = some c2) :
    (Instr.storeAt 61 (.pointer (some a)) (.agg #[.int .i64 x.b, .int .i64 x.s, .int .i64 x.p])).run Tryz.prog w = .ok () (((w.setCell a (.int .i64 x.b)).setCell ⟨a.block, a.off + 1, none⟩ (.int .i64 x.s)).setCell ⟨a.block, a.off + 2, none⟩ (.int .i64 x.p)) := by
  go_simp
theorem set_flat {l : List Id3} {k : Nat} {x : Id3} (hk : k < l.length) : ((((l.flatMap idC).set (k * 3) (.int .i64 x.b)).set (k * 3 + 1) (.int .i64 x.s)).set (k * 3 + 2) (.int .i64 x.p)) = (l.set k x).flatMap idC := by
  induction l generalizing k with
  | nil => simp at hk
  | cons a l ih =>
    cases k with
    | zero =>
      simp only [List.flatMap_cons, List.set_cons_zero]
      rfl
    | succ k =>
      have h := ih (k := k) (by simpa using hk)
      rw [List.set_cons_succ, List.flatMap_cons, List.flatMap_cons, ← h]
      show List.set (List.set (List.set (idC a ++ l.flatMap idC) ((k + 1) * 3) _) ((k + 1) * 3 + 1) _) ((k + 1) * 3 + 2) _ = _
      rw [show (k + 1) * 3 = (idC a).length + k * 3 by show (k + 1) * 3 = 3 + k * 3; omega]
      rw [show (idC a).length + k * 3 + 1 = (idC a).length + (k * 3 + 1) by omega, show (idC a).length + k * 3 + 2 = (idC a).length + (k * 3 + 2) by omega]
      rw [List.set_append_right _ _ (by omega), List.set_append_right _ _ (by omega), List.set_append_right _ _ (by omega)]
      simp only [Nat.add_sub_cancel_left]
theorem own_store_id {w : World} {base n cap : Nat} {ad : Addr} {l : List Id3} (h : w.ownsRow base 61 3 (.slice (some ad) n cap) n (l.flatMap idC)) (hl : l.length = n) {k : Nat} (hk : k < n) (x : Id3) :
    ∃ w', (Instr.storeAt 61 (.pointer (some (ad.add (k * 3)))) (.agg #[.int .i64 x.b, .int .i64 x.s, .int .i64 x.p])).run Tryz.prog w = .ok () w' ∧ w'.ownsRow base 61 3 (.slice (some ad) n cap) n ((l.set k x).flatMap idC) ∧ w.grownBy w' (some ad.block) ∧ w'.heap.size = w.heap.size := by
  obtain ⟨g, hg, hb, _⟩ := own_some h (by omega)
  injection hg with hg
  subst hg
  obtain ⟨y, hy⟩ : ∃ y, l[k]? = some y := ⟨_, List.getElem?_eq_getElem (by omega)⟩
  obtain ⟨ad', hA, hc⟩ := (Rd.of_own (B := 0) h).cell (by omega)
  injection hA with hA
  subst hA
  have hat : ∀ j, j < 3 → w.cell? ⟨g, k * 3 + j, none⟩ = some ((idC y).getD j (.int .i64 0)) := fun j hj => by
    rw [← add0 g]
    refine hc (k * 3 + j) _ ?_
    have h1 := idsC_at hy (j := j) hj
    rw [show idsC l = l.flatMap idC from rfl] at h1
    rw [h1, List.getElem?_eq_getElem (by exact hj), List.getD_eq_getElem?_getD, List.getElem?_eq_getElem (by exact hj)]
    rfl
  have hfr := own_frozen h
  refine ⟨_, run_storeAt_id w ((⟨g, 0, none⟩ : Addr).add (k * 3)) x _ _ _ (by rw [add0]; exact hat 0 (by omega)) (by rw [add0]; exact hfr _) (by rw [add0]; exact hfr _) (by rw [add0]; exact hfr _) (fun u => by rw [World.cell?_setCell_other _ _ _ _ (by rw [add0]; simp), add0]; exact hat 1 (by omega)) (fun u v => by rw [World.cell?_setCell_other _ _ _ _ (by rw [add0]; simp), World.cell?_setCell_other _ _ _ _ (by rw [add0]; simp), add0]; exact hat 2 (by omega)), ?_, ?_, by simp [World.setCell]⟩
  · rw [add0, ← set_flat (by omega)]
    exact own_set (own_set (own_set h _ _) _ _) _ _
  · rw [add0]
    exact ((grownBy_set w g _ _).trans (grownBy_set _ g _ _)).trans (grownBy_set _ g _ _)
theorem step_storeAt {P : Program} {ops : Array Oper} {o : Oper} {a : Act} {Q : Exit → Act → World → Prop} {K : Act → World → Prop} {E : Prop} (hg : o.guard = none) (t : TypeId) (pa px : Operand) (hop : o.op = Op.store t pa px) (va vx : Value) (ha : a.eval pa = va) (hx : a.eval px = vx) {w w' : World}
    (hrun : (Instr.storeAt t va vx).run P w = .ok () w') (h : K (a.put o.dst undef) w') : if Region.wanted o (yielded ops a.tmps) = true then Oper.wp P o a w K Q else E := by
  rw [if_pos (by simp [Region.wanted, hg])]
  unfold Oper.wp
  simp [execOp, hop, ha, hx, hrun, Result.andThen]
  exact h
end Go.Proofs.YtipfoljmdeiggaaGreatDoor

/- A checkpoint that is put piece by piece, in plain Lean. -/
namespace Go.Proofs.YtipfoljmdeiggaaGreatDoor
open Go.RowKit Go.Sort

theorem ids_mem {p : PlanD} {b : Int} {x : Id3} (h : x ∈ idsL p b) : ∃ st ∈ statesL p.ops, ∃ q : Nat, q < p.parts.toNat ∧ x = ⟨b, (st : Nat), (q : Nat)⟩ := by
  unfold idsL idsOf at h
  obtain ⟨st, hst, hx⟩ := List.mem_flatMap.1 h
  obtain ⟨q, hq, rfl⟩ := List.mem_map.1 hx
  exact ⟨st, hst, q, List.mem_range.1 hq, rfl⟩
theorem mem_ids {p : PlanD} {b : Int} {st q : Nat} (h : st ∈ statesL p.ops) (hq : q < p.parts.toNat) : (⟨b, (st : Nat), (q : Nat)⟩ : Id3) ∈ idsL p b :=
  List.mem_flatMap.2 ⟨st, h, List.mem_map.2 ⟨q, List.mem_range.2 hq, rfl⟩⟩
theorem may_ids {p : PlanD} {b : Int} {x : Id3} {n : Nat} (h : x ∈ idsL p b) (h1 : 1 ≤ b) (h60 : b ≤ 60) (hn : n ≤ 64) : mayD p x n = true := by
  obtain ⟨st, hst, q, hq, rfl⟩ := ids_mem h
  exact mayD_iff.2 ⟨⟨st, hst, rfl⟩, ⟨by show (0 : Int) ≤ (q : Nat); omega, by show ((q : Nat) : Int) < p.parts; omega⟩, ⟨h1, h60⟩, hn⟩
theorem statesL_le (ops : List OpD) : (statesL ops).length ≤ ops.length := by
  unfold statesL
  have := List.length_filter_le (isSt ops) (List.range ops.length)
  simpa using this
theorem statesL_nodup (ops : List OpD) : (statesL ops).Nodup := by
  unfold statesL
  exact List.nodup_range.filter _
/-- The next one is none of those ahead. -/
theorem ids_next {l : List Nat} (hn : l.Nodup) {i st M q : Nat} {b : Int} (hi : l[i]? = some st) : (⟨b, (st : Nat), (q : Nat)⟩ : Id3) ∉ ((l.take i).flatMap fun s => idsOf b M s) ++ idsOf b q st := by
  intro h
  rcases List.mem_append.1 h with h | h
  · obtain ⟨s, hs, hx⟩ := List.mem_flatMap.1 h
    unfold idsOf at hx
    obtain ⟨k, _, e⟩ := List.mem_map.1 hx
    injection e with _ e _
    have : s = st := by omega
    subst this
    exact not_in_take hn hi hs
  · unfold idsOf at h
    obtain ⟨k, hk, e⟩ := List.mem_map.1 h
    injection e with _ _ e
    have := List.mem_range.1 hk
    omega
theorem idsL_nodup (p : PlanD) (b : Int) : (idsL p b).Nodup := by
  unfold idsL
  refine List.pairwise_flatMap.2 ⟨fun st _ => ?_, (statesL_nodup p.ops).imp fun hne => ?_⟩
  · unfold idsOf
    refine List.Pairwise.map _ (fun a b h e => ?_) List.nodup_range
    injection e with _ _ e
    exact h (by omega)
  · intro x hx y hy e
    unfold idsOf at hx hy
    obtain ⟨k, _, rfl⟩ := List.mem_map.1 hx
    obtain ⟨k', _, rfl⟩ := List.mem_map.1 hy
    injection e with _ e _
    exact hne (by omega)
theorem ids_batch {p : PlanD} {b : Int} {x : Id3} (h : x ∈ idsL p b) : x.b = b := by
  obtain ⟨_, _, _, _, rfl⟩ := ids_mem h
  rfl
theorem recB_24 {q : Id3 × List Rw} (hn : NameOk q.1) (hl : q.2.length ≤ 64) (hr : RowsOk q.2) : blocksN (recB q).length ≤ 24 := by
  have h := (recB_ok hn hl hr).len
  unfold blocksN
  omega
theorem recB_1 {q : Id3 × List Rw} (hn : NameOk q.1) (hl : q.2 = []) : blocksN (recB q).length ≤ 1 := by
  have h := (recB_ok hn (by rw [hl]; simp) (by rw [hl]; intro r hr; cases hr)).len
  rw [hl] at h
  simp only [List.length_nil] at h
  unfold blocksN
  omega
/-- A piece is put where there is room. -/
theorem put_room {p : PlanD} {d : DiskD} {ps : List (Id3 × List Rw)} {q : Id3 × List Rw} {room life m k : Nat} (hF : Free d room life) (hm : mayD p q.1 q.2.length = true) (hx : q.1 ∉ ps.map (·.1)) (hp : posC ps ≤ m) (hk : blocksN (recB q).length ≤ k) (hr : m + k ≤ room) :
    ∃ d', putD p life d ps q = (none, d', ps ++ [q]) ∧ Free d' room life ∧ posC (ps ++ [q]) ≤ m + k := by
  obtain ⟨d', h1, h2⟩ := put_free hF hm hx (by omega)
  exact ⟨d', h1, h2, by rw [posC_snoc]; omega⟩
/-- Not whole as long as one of its pieces is not there. -/
theorem whole_no {p : PlanD} {ns : List Id3} {b : Int} {x : Id3} (h : x ∈ idsL p b) (hx : x ∉ ns) : wholeD p ns b = false := by
  cases hw : wholeD p ns b with
  | false => rfl
  | true =>
    obtain ⟨st, hst, q, hq, rfl⟩ := ids_mem h
    exact absurd ((wholeD_iff.1 hw).2 st hst q hq) hx
theorem whole_yes {p : PlanD} {ns : List Id3} {b : Int} (h : ∀ x ∈ idsL p b, x ∈ ns) (h1 : 1 ≤ b) (h60 : b ≤ 60) : wholeD p ns b = true :=
  wholeD_iff.2 ⟨⟨h1, h60⟩, fun _ hs _ hm => h _ (mem_ids hs hm)⟩
/-- The blocks of two lists. -/
def KI (s v : Value) (k : Nat) : Prop := s.ownBlock = some k ∨ v.ownBlock = some k
section
variable {sb db : Nat} {p : PlanD} {A : Option Addr} {c life : Nat} {d : DiskD} {ps : List (Id3 × List Rw)} {K : Nat → Prop} {w0 w w2 w8 : World}
/-- One name more in the list. -/
theorem id_grow {s v v8 : Value} {n m : Nat} {xs ys : List Value} (hC : CIs sb db p A c life d ps (KI s v) w0 w) (hown : w.ownsRow w0.heap.size 61 3 v n xs) (hb : Below w.heap.size w w2) (hg : w2.grownBy w8 v.ownBlock)
    (h8 : w8.ownsRow w0.heap.size 61 3 v8 m ys) (hn : v8.ownBlock = v.ownBlock ∨ v8.ownBlock = some w2.heap.size) (hs : ∀ k, s.ownBlock = some k → w0.heap.size ≤ k) : CIs sb db p A c life d ps (KI s v8) w0 w8 := by
  have hz2 := hb.size
  have hz8 := hg.size
  have hkl := hC.klt
  refine hC.step ((Fr.of_below hb).grown hg (fun k hk => .inl (.inr hk))) (fun k hk => hk.elim (hs k) (fun hk => (hown.lt k hk).1)) (fun g hg' => ?_)
  rcases hg' with hg' | hg'
  · exact ⟨.inl (.inl hg'), by have := hkl g (.inl hg'); omega⟩
  · have hlt := (h8.lt g hg').2
    refine ⟨?_, hlt⟩
    rcases hn with hn | hn
    · rw [hn] at hg'
      exact .inl (.inr hg')
    · rw [hn] at hg'
      injection hg' with hg'
      exact .inr (by omega)
theorem id_kept {s v : Value} {n m : Nat} {e : TypeId} {z : Nat} {xs ys : List Value} {w' : World} (hk : KeptB (KI s v) w w') (h1 : w.ownsRow w0.heap.size e z s n xs) (h2 : w.ownsRow w0.heap.size 61 3 v m ys) : w'.ownsRow w0.heap.size e z s n xs ∧ w'.ownsRow w0.heap.size 61 3 v m ys :=
  ⟨hk.own h1 (fun _ h => .inl h), hk.own h2 (fun _ h => .inr h)⟩
/-- Nothing but names yet: the names in a list, and their neighbours in the store. -/
structure WhSt (sb db : Nat) (p : PlanD) (A : Option Addr) (c : Nat) (d : DiskD) (s v : Value) (acc acc2 : List Id3) (w0 w : World) : Prop where
  is_ : CIs sb db p A c 0 d (acc2.map fun x => (x, [])) (KI s v) w0 w
  st : w.ownsRow w0.heap.size 3 1 s (statesL p.ops).length (intsC (statesL p.ops))
  ids : w.ownsRow w0.heap.size 61 3 v acc.length (acc.flatMap idC)
  free : Free d 2000 0
  pos : posC (acc2.map fun x => (x, [])) ≤ acc2.length
theorem map_nil_fst (l : List Id3) : (l.map fun x => (x, ([] : List Rw))).map (·.1) = l := by
  rw [List.map_map]
  exact List.map_id _
theorem WhSt.put {s v : Value} {acc acc2 : List Id3} {b1 : Int} {x : Id3} (h : WhSt sb db p A c d s v acc acc2 w0 w) (hx : x ∈ idsL p b1) (h1 : 1 ≤ b1) (h60 : b1 ≤ 60) (hn : x ∉ acc2) (hl : acc2.length < 2000) (htv : TypeVar w0) :
    ∃ d', Free d' 2000 0 ∧ posC ((acc2 ++ [x]).map fun x => (x, [])) ≤ (acc2 ++ [x]).length ∧ ∀ (w8 : World) (v8 : Value), CIs sb db p A c 0 d (acc2.map fun x => (x, [])) (KI s v8) w0 w8 → Calls Tryz.prog 32 #[.pointer (some ⟨sb, 0, none⟩), idV x, .slice none 0 0] w8 (fun e w' => e = .returned .nilIface ∧ CIs sb db p A c 0 d' ((acc2 ++ [x]).map fun x => (x, [])) (KI s v8) w0 w' ∧ KeptB (KI s v8) w8 w') := by
  have hm := may_ids (n := 0) hx h1 h60 (by omega)
  have hsh := shaped_check h.is_.plan
  have hnm : NameOk x := (mayD_iff.1 hm).name (by have := hsh.n12; omega) (by have := hsh.p4; omega)
  obtain ⟨d', e1, e2, e3⟩ := put_room (p := p) (ps := acc2.map fun x => (x, [])) (q := (x, [])) h.free hm (by rw [map_nil_fst]; exact hn) h.pos (recB_1 (q := (x, [])) hnm rfl) (by omega)
  have hl0 : d.life = 0 := h.free.2.2.2
  refine ⟨d', e2, by rw [List.map_append, List.length_append]; exact e3, fun w8 v8 h8 => ?_⟩
  refine (put_s No x [] 0 rfl none 0 w8 h8 RdS.none_ (fun k hk => hk.elim) (fun r hr => by cases hr) htv (by omega)).mono ?_
  rw [e1]
  rintro e w' ⟨k1, _, k3, k4⟩
  exact ⟨k1 rfl, by rw [List.map_append]; exact k3, k4⟩
/-- What lies in the store when so many of the batch's pieces were put. -/
def whP (L2 l' : List Id3) (rl : List Rw) (i : Nat) : List (Id3 × List Rw) := (L2.map fun x => (x, [])) ++ (l'.take i).map fun x => (x, rl)
theorem whP_fst (L2 l' : List Id3) (rl : List Rw) (i : Nat) : (whP L2 l' rl i).map (·.1) = L2 ++ l'.take i := by
  unfold whP
  rw [List.map_append, map_nil_fst, List.map_map]
  congr 1
  exact List.map_id _
theorem whP_zero (L2 l' : List Id3) (rl : List Rw) : whP L2 l' rl 0 = L2.map fun x => (x, []) := by
  unfold whP
  rw [List.take_zero, List.map_nil, List.append_nil]
theorem whP_succ {L2 l' : List Id3} {rl : List Rw} {i : Nat} {x : Id3} (h : l'[i]? = some x) : whP L2 l' rl (i + 1) = whP L2 l' rl i ++ [(x, rl)] := by
  unfold whP
  rw [take_succ_of h, List.map_append, List.append_assoc]
  rfl
theorem whP_len (L2 l' : List Id3) (rl : List Rw) : (whP L2 l' rl l'.length).length = L2.length + l'.length := by
  unfold whP
  rw [List.length_append, List.length_map, List.length_map, List.take_length]
structure WhT (sb db : Nat) (p : PlanD) (A : Option Addr) (c : Nat) (d : DiskD) (v : Value) (L2 l' : List Id3) (rl : List Rw) (i : Nat) (w0 w : World) : Prop where
  is_ : CIs sb db p A c 0 d (whP L2 l' rl i) (fun k => v.ownBlock = some k) w0 w
  ids : w.ownsRow w0.heap.size 61 3 v l'.length (l'.flatMap idC)
  free : Free d 2000 0
  pos : posC (whP L2 l' rl i) ≤ L2.length + 24 * i
theorem WhT.ext {v : Value} {L2 l' : List Id3} {rl : List Rw} {i : Nat} {w' : World} (h : WhT sb db p A c d v L2 l' rl i w0 w) (hb : Below w.heap.size w w') : WhT sb db p A c d v L2 l' rl i w0 w' := ⟨h.is_.ext hb, own_ext h.ids hb, h.free, h.pos⟩
theorem WhT.fresh {v : Value} {L2 l' : List Id3} {rl : List Rw} {i : Nat} {x : Id3} {b b1 : Int} (_ : WhT sb db p A c d v L2 l' rl i w0 w) (hx : l'[i]? = some x) (hP : l'.Perm (idsL p b)) (h2 : L2 = idsL p b1) (hne : b ≠ b1) : x ∉ (whP L2 l' rl i).map (·.1) := by
  rw [whP_fst]
  intro hm
  have hxb := ids_batch (hP.mem_iff.1 (List.mem_of_getElem? hx))
  rcases List.mem_append.1 hm with hm | hm
  · rw [h2] at hm
    exact hne (hxb.symm.trans (ids_batch hm))
  · exact not_in_take (hP.nodup_iff.2 (idsL_nodup p b)) hx hm
theorem WhT.put {v : Value} {L2 l' : List Id3} {rl : List Rw} {i : Nat} {x : Id3} {b b1 : Int} (h : WhT sb db p A c d v L2 l' rl i w0 w) (hx : l'[i]? = some x) (hP : l'.Perm (idsL p b)) (h2 : L2 = idsL p b1) (hne : b ≠ b1) (h1 : 1 ≤ b) (h60 : b ≤ 60) (hrl : rl.length ≤ 64) (hro : RowsOk rl) (hl : L2.length + 24 * i + 24 ≤ 2000) :
    ∃ d', putD p 0 d (whP L2 l' rl i) (x, rl) = (none, d', whP L2 l' rl (i + 1)) ∧ Free d' 2000 0 ∧ posC (whP L2 l' rl (i + 1)) ≤ L2.length + 24 * (i + 1) := by
  have hm := may_ids (n := rl.length) (hP.mem_iff.1 (List.mem_of_getElem? hx)) h1 h60 hrl
  have hsh := shaped_check h.is_.plan
  have hnm : NameOk x := (mayD_iff.1 hm).name (by have := hsh.n12; omega) (by have := hsh.p4; omega)
  obtain ⟨d', e1, e2, e3⟩ := put_room (p := p) (ps := whP L2 l' rl i) (q := (x, rl)) h.free hm (h.fresh hx hP h2 hne) h.pos (recB_24 (q := (x, rl)) hnm hrl hro) hl
  rw [← whP_succ hx] at e1 e3
  exact ⟨d', e1, e2, by omega⟩
end
end Go.Proofs.YtipfoljmdeiggaaGreatDoor
