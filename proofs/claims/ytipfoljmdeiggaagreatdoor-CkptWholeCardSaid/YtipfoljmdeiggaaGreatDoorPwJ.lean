/- CkE, CkF, CkG, CkH, CkI, CkJ: laid together. -/
import Derived.Test.YtipfoljmdeiggaaGreatDoorPwI

/- The checkpoints' store: fault, Put of the program. -/
namespace Go.Proofs.YtipfoljmdeiggaaGreatDoor
open Go.RowKit Go.Sort

theorem ckFault_c (at_ : Int) (n : Nat) (v : Value) (code : Int) (w : World) (h : ErrN w n v code) : Calls Tryz.prog 113 #[.int .i64 at_, v] w (FaultPost w at_ code) := by
  obtain ⟨T, y, rfl⟩ := h.iface
  have HE := Lib.hid h
  clear h
  go_enter Tryz.func113, Tryz.ntmps113
  go_wp2
  go_ret
  exact ⟨_, rfl, ⟨_, _, _, n, rfl, Bk.new _ _ _, HE.out.ext (ext_alloc (Below.refl _ _) _)⟩, ext_alloc (Below.refl _ _) _⟩
theorem RdS.turn {w w' : World} {S S' T : Nat → Prop} {size n : Nat} {A : Option Addr} {xs : List Value} (h : RdS w S size A n xs) (hf : Fr T w w') (hd : ∀ k, k < w.heap.size → S k → ¬ T k) (hS : ∀ k, k < w.heap.size → S k → S' k) : RdS w' S' size A n xs :=
  ⟨h.1, fun hn => by
    obtain ⟨ad, hA, h1, hl, hc⟩ := h.2 hn
    refine ⟨ad, hA, hS _ hl h1, Nat.lt_of_lt_of_le hl hf.size, fun j u hu => ?_⟩
    rw [World.cell?_of_block (w := w) (by rw [block_of_add]; exact hf.block _ hl (hd _ hl h1))]
    exact hc j u hu⟩
def CkX.turn (X : CkX) (R' : Nat → Prop) : CkX := ⟨X.sb, X.lb, X.mb, R', X.As, X.cs, X.zs, X.life, fun k => X.Q k ∨ R' k⟩
def CkX.more (X : CkX) (z : Pz) (a b : Nat) : CkX := ⟨X.sb, X.lb, X.mb, X.R, X.As, X.cs, X.zs ++ [z], X.life, fun k => X.Q k ∨ (a ≤ k ∧ k < b)⟩
/-- What a call that turns the store leaves. -/
structure CkTurn (B db : Nat) (X : CkX) (p : PlanD) (A : Option Addr) (c : Nat) (d' : DiskD) (ps' : List (Id3 × List Rw)) (w w' : World) : Prop where
  st : ∃ X', CkAt B db X' p A c d' ps' ps' w' ∧ X'.sb = X.sb ∧ X'.life = X.life ∧ ∀ k, X'.Q k → X.Q k ∨ w.heap.size ≤ k
  fr : Fr X.mu w w'
section
variable {B db : Nat} {X : CkX} {p : PlanD} {A : Option Addr} {c : Nat} {d d' : DiskD} {ps : List (Id3 × List Rw)}
theorem CkAt.keep {w w' : World} (h : CkAt B db X p A c d ps ps w) (hb : Below w.heap.size w w') : CkTurn B db X p A c d ps w w' :=
  ⟨⟨X, h.ext hb, rfl, rfl, fun _ hk => .inl hk⟩, Fr.of_below hb⟩
/-- The disk turns, and what lies in the log's block may. -/
theorem CkAt.disk_ {w w' : World} {R' : Nat → Prop} (h : CkAt B db X p A c d ps ps w) (hf : Fr (fun k => X.R k ∨ k = X.lb) w w') (_ : DiskIs B db R' d' w') (hR : ∀ k, R' k → X.R k ∨ w.heap.size ≤ k) :
    Bk w' X.sb 187 #[.pointer (some ⟨db, 0, none⟩), .int .i64 (X.life : Nat), .pointer (some ⟨X.lb, 0, none⟩), .int .i64 p.parts, .slice A p.ops.length c, .slice X.As (statesL p.ops).length X.cs, .map (some X.mb)] ∧
    MapIs idV w' X.mb (X.zs.map pzK) ∧ (∀ z ∈ X.zs, RdS w' (fun k => (X.turn R').Q k ∧ ¬ (X.turn R').mu k) 2 z.A z.rows.length (rwsC z.rows)) ∧ RdS w' (fun k => (X.turn R').Q k ∧ ¬ (X.turn R').mu k) 1 X.As (statesL p.ops).length (intsC (statesL p.ops)) ∧ (¬ R' X.sb ∧ ¬ R' X.lb ∧ ¬ R' X.mb) := by
  have hlt := h.log.lt
  have hml := h.map.lt
  have hsl := h.bk.lt
  have hne : X.sb ≠ X.lb := h.bk.ne_ h.log (by decide)
  have hmu : ∀ k, k < w.heap.size → ¬ X.mu k → ¬ (X.turn R').mu k := by
    intro k hk hn hm
    rcases hm with hm | hm | hm
    · rcases hR k hm with h1 | h1
      · exact hn (.inl h1)
      · omega
    · exact hn (.inr (.inl hm))
    · exact hn (.inr (.inr hm))
  have hd : ∀ k, k < w.heap.size → (X.Q k ∧ ¬ X.mu k) → ¬ (X.R k ∨ k = X.lb) := fun k _ hn hm => hm.elim (fun h1 => hn.2 (.inl h1)) (fun h1 => hn.2 (.inr (.inl h1)))
  have hmu2 : ∀ k, k < w.heap.size → (X.Q k ∧ ¬ X.mu k) → ((X.turn R').Q k ∧ ¬ (X.turn R').mu k) := fun k hk hn => ⟨.inl hn.1, hmu k hk hn.2⟩
  have hoff : ∀ k, k < w.heap.size → ¬ X.R k → ¬ R' k := fun k hk hn hm => (hR k hm).elim hn (fun h1 => by omega)
  refine ⟨h.bk.fr hf (fun hm => hm.elim h.offs.1 hne), h.map.fr hf (fun hm => hm.elim h.offs.2.2 (fun e => ?_)), fun z hz => (h.rows z hz).turn hf hd hmu2, h.st.turn hf hd hmu2, hoff _ hsl h.offs.1, hoff _ hlt h.offs.2.1, hoff _ hml h.offs.2.2⟩
  exact h.map.ne_cells h.log e
theorem CkAt.turned {w w' : World} {R' : Nat → Prop} (h : CkAt B db X p A c d ps ps w) (hf : Fr (fun k => X.R k ∨ k = X.lb) w w') (hD : DiskIs B db R' d' w') (hR : ∀ k, R' k → X.R k ∨ w.heap.size ≤ k)
    (hL : LogAt w' X.lb db X.life ps.length (posC ps)) (hok : CkOk p d' ps) : CkTurn B db X p A c d' ps w w' := by
  obtain ⟨h1, h2, h3, h4, h5⟩ := h.disk_ hf hD hR
  refine ⟨⟨X.turn R', ⟨hD, h1, hL, h2, h.zz, h3, h4, h5, h.bd, hok, h.plan, fun k hk => ?_, .inl h.qb.1, fun k hk => hk.elim (fun hk => Nat.lt_of_lt_of_le (h.qb.2 k hk) hf.size) (fun hk => (hD.bd k hk).2)⟩, rfl, rfl, ?_⟩, hf.mono (fun k _ hk => hk.elim .inl (fun h => .inr (.inl h)))⟩
  · exact hk.elim .inr (fun hk => .inl (h.sub k (.inr hk)))
  · intro k hk
    exact hk.elim .inl (fun hk => (hR k hk).imp (fun hk => h.sub k (.inl hk)) id)
theorem CkTurn.trans_below {w w1 w' : World} {ps' : List (Id3 × List Rw)} (hb : Below w.heap.size w w1) (h : CkTurn B db X p A c d' ps' w1 w') : CkTurn B db X p A c d' ps' w w' := by
  obtain ⟨⟨X', h1, h2, h3, h4⟩, h5⟩ := h
  have := hb.size
  exact ⟨⟨X', h1, h2, h3, fun k hk => (h4 k hk).imp id (fun h => by omega)⟩, (Fr.of_below hb).trans h5 (fun k hk => .inl hk)⟩
theorem CkTurn.ext {w w1 w' : World} {ps' : List (Id3 × List Rw)} (h : CkTurn B db X p A c d' ps' w w1) (hb : Below w1.heap.size w1 w') : CkTurn B db X p A c d' ps' w w' := by
  obtain ⟨⟨X', h1, h2, h3, h4⟩, h5⟩ := h
  exact ⟨⟨X', h1.ext hb, h2, h3, h4⟩, h5.ext hb⟩
/-- A piece is laid into the map. -/
theorem CkAt.lay {w w1 w2 w3 : World} {R' : Nat → Prop} {q : Id3 × List Rw} {A2 : Option Addr} {c2 base nb : Nat} (h : CkAt B db X p A c d ps ps w) (hf : Fr (fun k => X.R k ∨ k = X.lb) w w1) (hD : DiskIs B db R' d' w1) (hR : ∀ k, R' k → X.R k ∨ w.heap.size ≤ k)
    (hL : LogAt w1 X.lb db X.life (ps.length + 1) (posC ps + nb)) (hps : posC (ps ++ [q]) = posC ps + nb) (hok : CkOk p d' (ps ++ [q])) (hq : q.1 ∉ ps.map (·.1)) (hb : Below w1.heap.size w1 w2) (hown : w2.ownsRow base 74 2 (.slice A2 q.2.length c2) q.2.length (rwsC q.2)) (hbase : w1.heap.size ≤ base)
    (hm : MapIs idV w3 X.mb (mset (X.zs.map pzK) q.1 (.slice A2 q.2.length c2))) (hg : w2.grownBy w3 (some X.mb)) : CkTurn B db X p A c d' (ps ++ [q]) w w3 := by
  obtain ⟨h1, h2, h3, h4, h5⟩ := h.disk_ hf hD hR
  have hml := h.map.lt
  have hw1 := hf.size
  have hw2 := hb.size
  have hF : Fr (fun k => k = X.mb) w2 w3 := Fr.map_ hg
  have hmb2 : MapIs idV w2 X.mb (X.zs.map pzK) := h2.ext hb
  have hms : mset (X.zs.map pzK) q.1 (.slice A2 q.2.length c2) = (X.zs ++ [(⟨q.1, A2, c2, q.2⟩ : Pz)]).map pzK := by
    unfold mset
    rw [if_neg, List.map_append]
    · rfl
    · rw [List.map_map]
      rw [← h.zz, List.map_map] at hq
      exact hq
  rw [hms] at hm
  have hnm : ∀ k, ((X.turn R').Q k ∧ ¬ (X.turn R').mu k) → k ≠ X.mb := fun k hn e => hn.2 (.inr (.inr e))
  have hmul : ∀ k, (X.turn R').mu k → k < w1.heap.size := by
    intro k hk
    rcases hk with hk | hk | hk
    · exact (hD.bd k hk).2
    · have := hL.lt; rw [hk]; exact this
    · rw [hk]; exact h2.lt
  have hw3 := hg.size
  refine ⟨⟨(X.turn R').more ⟨q.1, A2, c2, q.2⟩ w1.heap.size w2.heap.size, ⟨(hD.ext hb).fr hF (fun k hk e => ?_), (h1.ext hb).fr hF (fun e => ?_), ?_, hm, ?_, ?_, ?_, h5, h.bd, hok, h.plan, fun k hk => ?_, .inl (.inl h.qb.1), fun k hk => ?_⟩, rfl, rfl, fun k hk => ?_⟩, ?_⟩
  · rw [e] at hk
    exact h5.2.2 hk
  · exact h2.ne_cells h1 e.symm
  · rw [List.length_append, List.length_singleton, hps]
    refine Bk.fr (Bk.ext hL hb) hF (fun e => ?_)
    exact h2.ne_cells hL e.symm
  · show (X.zs ++ [(⟨q.1, A2, c2, q.2⟩ : Pz)]).map pzT = _
    rw [List.map_append, h.zz]
    rfl
  · intro z hz
    rcases List.mem_append.1 hz with hz | hz
    · exact ((h3 z hz).ext hb).turn hF (fun k _ hk => hnm k hk) (fun _ _ hk => ⟨.inl hk.1, hk.2⟩)
    · rw [List.mem_singleton] at hz
      subst hz
      refine (RdS.of_own (S := fun k => w1.heap.size ≤ k ∧ k < w2.heap.size) hown (fun k hk => ⟨Nat.le_trans hbase (hown.lt k hk).1, (hown.lt k hk).2⟩)).turn hF (fun k _ hk e => ?_) (fun k _ hk => ⟨.inr hk, fun hm => ?_⟩)
      · rw [e] at hk; omega
      · have := hmul k hm; omega
  · exact (h4.ext hb).turn hF (fun k _ hk => hnm k hk) (fun _ _ hk => ⟨.inl hk.1, hk.2⟩)
  · rcases hk with hk | hk | hk
    · exact .inl (.inr hk)
    · exact .inl (.inl (h.sub k (.inr (.inl hk))))
    · exact .inl (.inl (h.sub k (.inr (.inr hk))))
  · rcases hk with (hk | hk) | hk
    · have := h.qb.2 k hk; omega
    · have := (hD.bd k hk).2; omega
    · omega
  · rcases hk with (hk | hk) | hk
    · exact .inl hk
    · exact (hR k hk).imp (fun hk => h.sub k (.inl hk)) id
    · exact .inr (by omega)
  · exact ((hf.mono (S' := X.mu) (fun k _ hk => hk.elim .inl (fun h => .inr (.inl h)))).ext hb).trans hF (fun k hk => .inl (.inr (.inr hk)))
end
end Go.Proofs.YtipfoljmdeiggaaGreatDoor

/- The checkpoints' store: Put of the program, by what becomes of it. -/
namespace Go.Proofs.YtipfoljmdeiggaaGreatDoor
open Go.RowKit Go.Sort

section
variable {B db : Nat} {X : CkX} {p : PlanD} {A : Option Addr} {c : Nat} {d : DiskD} {ps : List (Id3 × List Rw)}
set_option maxRecDepth 100000 in
set_option maxHeartbeats 8000000 in
theorem put_bad (x : Id3) (l : List Rw) (Al : Option Addr) (cl : Nat) (w : World) (h : CkAt B db X p A c d ps ps w) (hm : mayD p x l.length = false) :
    Calls Tryz.prog 32 #[.pointer (some ⟨X.sb, 0, none⟩), idV x, .slice Al l.length cl] w (FaultPost w 0 1) := by
  obtain ⟨xb, xs, xp⟩ := x
  have H := Lib.hid h
  have HM := Lib.hid hm
  clear h hm
  go_enter Tryz.func32, Tryz.ntmps32
  go_wp2_with (first
    | (go_at_call 115; refine (ckMay_c ⟨xb, xs, xp⟩ Al l.length cl _ (H.out.ext (ext_alloc (Below.refl _ _) _))).mono ?_; rw [HM.out]; rintro e w1 ⟨rfl, hb⟩; have HB1 := Lib.hid (ext_trans (ext_alloc (Below.refl _ _) _) hb); clear hb)
    | (go_at_call 113; refine (ckFault_c 0 0 _ 1 _ rfl).mono ?_; rintro e w2 ⟨v, rfl, hE, hb⟩; have HE := Lib.hid hE; have HB2 := Lib.hid (ext_trans HB1.out hb); clear hE hb))
  go_ret
  exact ⟨v, rfl, HE.out, HB2.out⟩
set_option maxRecDepth 100000 in
set_option maxHeartbeats 8000000 in
theorem put_had (x : Id3) (l : List Rw) (Al : Option Addr) (cl : Nat) (w : World) (h : CkAt B db X p A c d ps ps w) (hm : mayD p x l.length = true) (hx : x ∈ ps.map (·.1)) :
    Calls Tryz.prog 32 #[.pointer (some ⟨X.sb, 0, none⟩), idV x, .slice Al l.length cl] w (fun e w' => e = .returned .nilIface ∧ Below w.heap.size w w') := by
  obtain ⟨xb, xs, xp⟩ := x
  have H := Lib.hid h
  have HM := Lib.hid hm
  have HX := Lib.hid (decide_eq_true hx)
  clear h hm hx
  go_enter Tryz.func32, Tryz.ntmps32
  go_wp2_with (first
    | (go_at_call 115; refine (ckMay_c ⟨xb, xs, xp⟩ Al l.length cl _ (H.out.ext (ext_alloc (Below.refl _ _) _))).mono ?_; rw [HM.out]; rintro e w1 ⟨rfl, hb⟩; have HB1 := Lib.hid (ext_trans (ext_alloc (Below.refl _ _) _) hb)
       have HC1 := Lib.hid ((Bk.new w 61 #[.int .i64 xb, .int .i64 xs, .int .i64 xp]).ext hb)
       have x0 : w1.cell? ⟨w.heap.size, 0, none⟩ = some (.int .i64 xb) := (HC1.out.cell 0).trans rfl
       have x1 : w1.cell? ⟨w.heap.size, 1, none⟩ = some (.int .i64 xs) := (HC1.out.cell 1).trans rfl
       have x2 : w1.cell? ⟨w.heap.size, 2, none⟩ = some (.int .i64 xp) := (HC1.out.cell 2).trans rfl
       have xl := HC1.out.lt
       clear hb)
    | (go_at_call 34; refine (ckHas_c ⟨xb, xs, xp⟩ _ (H.out.ext HB1.out)).mono ?_; rw [HX.out]; rintro e w2 ⟨rfl, hb⟩; have HB2 := Lib.hid (ext_trans HB1.out hb); clear hb))
  go_ret
  exact ⟨rfl, HB2.out⟩
set_option maxRecDepth 100000 in
set_option maxHeartbeats 16000000 in
theorem put_app (x : Id3) (l : List Rw) (Al : Option Addr) (cl : Nat) (w : World) (h : CkAt B db X p A c d ps ps w) (hm : mayD p x l.length = true) (hx : x ∉ ps.map (·.1)) (hr : RdS w (fun k => ¬ X.mu k) 2 Al l.length (rwsC l)) (hro : RowsOk l)
    (hg : TypeVar w) (hgB : 0 < B) (hlf : d.life + 1 ≤ 1000000) :
    Calls Tryz.prog 32 #[.pointer (some ⟨X.sb, 0, none⟩), idV x, .slice Al l.length cl] w (fun e w' =>
      ((appendD d X.life ps.length (posC ps) (recB (x, l))).2 = none → e = .returned .nilIface ∧ CkTurn B db X p A c (appendD d X.life ps.length (posC ps) (recB (x, l))).1 (ps ++ [(x, l)]) w w') ∧
      (∀ code, (appendD d X.life ps.length (posC ps) (recB (x, l))).2 = some code → (∃ v, e = .returned v ∧ ErrAt w' v 0 code) ∧ CkTurn B db X p A c (appendD d X.life ps.length (posC ps) (recB (x, l))).1 ps w w')) := by
  obtain ⟨xb, xs, xp⟩ := x
  have hmd := mayD_iff.1 hm
  have hsh := shaped_check h.plan
  have hnm : NameOk ⟨xb, xs, xp⟩ := hmd.name (by have := hsh.n12; omega) (by have := hsh.p4; omega)
  have hl64 : l.length ≤ 64 := hmd.rows
  have hrec := recB_ok (q := (⟨xb, xs, xp⟩, l)) hnm hl64 hro
  have hroom := h.disk.room_le
  have hle := h.ok.le
  have HAP := Lib.hid (h.ok.app (q := (⟨xb, xs, xp⟩, l)) (life := X.life) hroom.2.1 hmd hro hx)
  have H := Lib.hid h
  have HM := Lib.hid hm
  have HX := Lib.hid (decide_eq_false hx)
  have HXn := Lib.hid hx
  have HR := Lib.hid hr
  have HRo := Lib.hid hro
  have HG := Lib.hid hg
  have HNm := Lib.hid hnm
  have HRc := Lib.hid hrec
  have hid30 := idB_len hnm
  have hrb := rowsB_len' hl64 hro
  have hgw : 0 < w.heap.size := World.block_lt_of_cell? w _ hg
  have hmul : ∀ k, X.mu k → k < w.heap.size := fun k hk => (h.mu_lt hk).2
  have HMu := Lib.hid hmul
  have hlbw : X.lb < w.heap.size := h.log.lt
  have hsbw : X.sb < w.heap.size := h.bk.lt
  obtain ⟨y, hy⟩ : ∃ y, y = appendD d X.life ps.length (posC ps) (recB (⟨xb, xs, xp⟩, l)) := ⟨_, rfl⟩
  rw [← hy] at HAP ⊢
  have HY := Lib.hid hy
  clear h hm hx hr hro hg hnm hrec hmd hmul hy
  go_enter Tryz.func32, Tryz.ntmps32
  go_upto_region 5 with (first
    | (go_at_call 115; refine (ckMay_c ⟨xb, xs, xp⟩ Al l.length cl _ (H.out.ext (ext_alloc (Below.refl _ _) _))).mono ?_; rw [HM.out]; rintro e w1 ⟨rfl, hb⟩; have HB1 := Lib.hid (ext_trans (ext_alloc (Below.refl _ _) _) hb)
       have HC1 := Lib.hid ((Bk.new w 61 #[.int .i64 xb, .int .i64 xs, .int .i64 xp]).ext hb)
       have x0 : w1.cell? ⟨w.heap.size, 0, none⟩ = some (.int .i64 xb) := (HC1.out.cell 0).trans rfl
       have x1 : w1.cell? ⟨w.heap.size, 1, none⟩ = some (.int .i64 xs) := (HC1.out.cell 1).trans rfl
       have x2 : w1.cell? ⟨w.heap.size, 2, none⟩ = some (.int .i64 xp) := (HC1.out.cell 2).trans rfl
       have xl := HC1.out.lt
       clear hb)
    | (go_at_call 34; refine (ckHas_c ⟨xb, xs, xp⟩ _ (H.out.ext HB1.out)).mono ?_; rw [HX.out]; rintro e w2 ⟨rfl, hb⟩
       have HB0 := Lib.hid (ext_trans HB1.out hb)
       have HC0 := Lib.hid (HC1.out.ext hb)
       clear x0 x1 x2 xl hb))
  have HB := Lib.hid (show Below w.heap.size w w2.drew from HB0.out.drew)
  have HC := Lib.hid (show Bk w2.drew w.heap.size 61 #[.int .i64 xb, .int .i64 xs, .int .i64 xp] from HC0.out)
  clear HB1 HC1 HB0 HC0
  have x0 : w2.cell? ⟨w.heap.size, 0, none⟩ = some (.int .i64 xb) := (HC.out.cell 0).trans rfl
  have x1 : w2.cell? ⟨w.heap.size, 1, none⟩ = some (.int .i64 xs) := (HC.out.cell 1).trans rfl
  have x2 : w2.cell? ⟨w.heap.size, 2, none⟩ = some (.int .i64 xp) := (HC.out.cell 2).trans rfl
  have x3 : w2.cell? ⟨X.sb, 2, none⟩ = some (.pointer (some ⟨X.lb, 0, none⟩)) := ((H.out.ext HB.out).bk.cell 2).trans rfl
  go_region_held3 (fun w' => w'.cell? ⟨w.heap.size, 0, none⟩ = some (.int .i64 xb) ∧ w'.cell? ⟨w.heap.size, 1, none⟩ = some (.int .i64 xs) ∧ w'.cell? ⟨w.heap.size, 2, none⟩ = some (.int .i64 xp) ∧ w'.cell? ⟨X.sb, 2, none⟩ = some (.pointer (some ⟨X.lb, 0, none⟩)))
    (first | exact ⟨(HC.out.cell 0).trans rfl, (HC.out.cell 1).trans rfl, (HC.out.cell 2).trans rfl, (((H.out.ext HB.out).bk.cell 2).trans rfl)⟩ | exact ⟨(HC9.out.cell 0).trans rfl, (HC9.out.cell 1).trans rfl, (HC9.out.cell 2).trans rfl, (HS9.out.cell 2).trans rfl⟩ | go_keep)
    (first
      | (go_at_call 126; refine (wID_c (⟨xb, xs, xp⟩ : Id3) _ HNm.out.b HNm.out.s HNm.out.p).mono ?_
         rintro e wk ⟨Ak, ck, rfl, hok, hbk⟩
         have HC := Lib.hid (HC.out.ext hbk)
         have HO := Lib.hid (own_mono hok (base' := w.heap.size) HB.out.size)
         have HB := Lib.hid (ext_trans HB.out hbk)
         clear hok hbk)
      | (go_at_call 127; refine (wRows_c _ l Al cl _ ((HR.out.ext HB.out).rd (Nat.le_refl _)) hl64 HRo.out).mono ?_
         rintro e wv ⟨Av, cv, rfl, hov, hbv⟩
         have HC := Lib.hid (HC.out.ext hbv)
         have HO := Lib.hid (own_ext HO.out hbv)
         have HB := Lib.hid (ext_trans HB.out hbv)
         have HV := Lib.hid hov
         clear hov hbv)
      | (refine step_appR byte_app _ rfl (.tmp 23) (.tmp 25) rfl w.heap.size (.slice Ak (idB ⟨xb, xs, xp⟩).length ck) (idB ⟨xb, xs, xp⟩) (by rfl) HO.out (rowsB l) 0 Av (rowsB l).length cv (by rfl) rfl (Rd.of_own HV.out) (by omega) (by have := HB.out.size; omega) ?_
         intro A4 c4 w4 hown4 hg4 hc4
         generalize hb4 : idB ⟨xb, xs, xp⟩ ++ rowsB l = b4 at hown4 hc4 ⊢
         have HB4 := Lib.hid (show recB (⟨xb, xs, xp⟩, l) = b4 from hb4)
         clear hb4
         have HC := Lib.hid (HC.out.grown hg4 (fun e => own_blk_ne' HO.out HC.out (by decide) e.symm))
         have HB := Lib.hid (below_grownOwn HB.out HO.out (Nat.le_refl _) hg4)
         have HO := Lib.hid hown4
         clear hown4 hg4)
      | (go_at_call 19
         refine (lAppend_c (B := B) (db := db) (lb := X.lb) (life := X.life) (n := ps.length) (next := posC ps) (R := X.R) (d := d) (fun k => w.heap.size ≤ k) b4 A4 c4 _ (H.out.ext HB.out).disk (H.out.ext HB.out).log H.out.offs.2.1 H.out.bd.1 (TypeVar.fr (S := No) HG.out (Fr.of_below HB.out) (fun h => h)) hgB
           (by rw [← bytesC_flat]; exact RdS.of_own HO.out (fun k hk => (HO.out.lt k hk).1)) (fun k hk => ⟨fun hR => by have := HMu.out k (.inl hR); omega, fun e => by omega⟩) (by rw [← HB4.out]; exact HRc.out.byte) (by rw [← HB4.out]; exact HRc.out.pos) (by rw [← HB4.out]; have h3 : (recB (⟨xb, xs, xp⟩, l)).length ≤ 40 + 20 * l.length := HRc.out.len; omega) hc4 (by omega) hle.2 hlf).mono ?_
         rintro e w9 ⟨hp1, hp2, R9, hD9, hF9, hR9⟩
         have hLA := HY.out
         rw [HB4.out] at hLA
         rw [← hLA] at hp1 hp2 hD9
         have HS9 := Lib.hid ((H.out.ext HB.out).disk_ hF9 hD9 (fun k hk => (hR9 k hk))).1
         have HC9 := Lib.hid (HC.out.fr hF9 (fun hk => hk.elim (fun hR => by have := HMu.out _ (.inl hR); omega) (fun e => by omega)))
         have HF9 := Lib.hid hF9
         have HD9 := Lib.hid hD9
         have HR9 := Lib.hid hR9
         obtain ⟨v, rfl⟩ : ∃ v, e = .returned v := by
           cases hy2 : y.2 with
           | none => exact ⟨_, (hp1 hy2).1⟩
           | some code => obtain ⟨v, _, h1, _⟩ := hp2 code hy2; exact ⟨v, h1⟩
         have HP1 := Lib.hid hp1
         have HP2 := Lib.hid hp2
         clear hp1 hp2 hF9 hD9 hR9 hLA))
  cases hy2 : y.2 with
  | some code =>
    obtain ⟨v', at_, hv, hE, hL⟩ := HP2.out code hy2
    injection hv with hv
    subst hv
    obtain ⟨n7, hn7⟩ := hE.errN
    obtain ⟨T7, y7, rfl⟩ := hn7.iface
    have HE := Lib.hid hE
    have HT := Lib.hid ((H.out.ext HB.out).turned HF9.out HD9.out HR9.out hL (HAP.out.2.1 code hy2).1)
    have HN7 := Lib.hid hn7
    have HY2 := Lib.hid hy2
    clear hE hL hn7 hy2 HC9 HS9
    go_wp2_with (first
      | (go_at_call 113; refine (ckFault_c 0 n7 _ code _ HN7.out).mono ?_; rintro e w10 ⟨v, rfl, hE, hb⟩; have HEz := Lib.hid hE; have HB10 := Lib.hid hb; clear hE hb))
    go_ret
    refine ⟨(fun h => by rw [HY2.out] at h; cases h), (fun code' h => ?_)⟩
    rw [HY2.out] at h
    cases h
    exact ⟨⟨v, rfl, HEz.out⟩, (CkTurn.trans_below HB.out HT.out).ext HB10.out⟩
  | none =>
    obtain ⟨hv, hL⟩ := HP1.out hy2
    injection hv with hv
    subst hv
    have HL9 := Lib.hid hL
    have HM9 := Lib.hid ((H.out.ext HB.out).disk_ HF9.out HD9.out HR9.out).2.1
    have HR9' := Lib.hid ((HR.out.ext HB.out).fr HF9.out (fun k hk hm => hk (hm.elim .inl (fun e => .inr (.inl e)))))
    have HY2 := Lib.hid hy2
    obtain ⟨hok, hps, _⟩ := HAP.out.1 hy2
    have HOk := Lib.hid hok
    have HPs := Lib.hid hps
    have c0 : w9.cell? ⟨w.heap.size, 0, none⟩ = some (.int .i64 xb) := (HC9.out.cell 0).trans rfl
    have c1 : w9.cell? ⟨w.heap.size, 1, none⟩ = some (.int .i64 xs) := (HC9.out.cell 1).trans rfl
    have c2 : w9.cell? ⟨w.heap.size, 2, none⟩ = some (.int .i64 xp) := (HC9.out.cell 2).trans rfl
    have c3 : w9.cell? ⟨X.sb, 6, none⟩ = some (.map (some X.mb)) := (HS9.out.cell 6).trans rfl
    have l0 := HC9.out.lt
    have l1 := HS9.out.lt
    clear hL hy2 hok hps x0 x1 x2 x3
    go_upto_region 8 with fail
    refine wp_region_held_drew (S := (fun w' => w'.cell? ⟨w.heap.size, 0, none⟩ = some (.int .i64 xb) ∧ w'.cell? ⟨w.heap.size, 1, none⟩ = some (.int .i64 xs) ∧ w'.cell? ⟨w.heap.size, 2, none⟩ = some (.int .i64 xp) ∧ w'.cell? ⟨X.sb, 6, none⟩ = some (.map (some X.mb)))) (by kernel_rfl) ?_ (fun hHeld => ?_)
    · (first | exact ⟨(HCz.out.cell 0).trans rfl, (HCz.out.cell 1).trans rfl, (HCz.out.cell 2).trans rfl, (HSz.out.cell 6).trans rfl⟩ | exact ⟨c0, c1, c2, c3⟩ | go_keep)
    refine wpAnyH_take (i := 0) (oi := { dst := some 32, op := Go.Op.move (Go.Operand.tmp 0), type := 42, pos := "ckpt.go:74", after := #[], guard := none }) (v := ?v1z0) rfl (by kernel_rfl) (by kernel_rfl) (by kernel_rfl) (fun _ _ _ h => h) (Or.inl ⟨by rfl, ?hy1z0⟩) (by assumption) ?rest1z0
    case hy1z0 => (intro w hSw; (try dsimp only at hSw); go_simp; try (with_reducible rfl))
    simp only [Act.put, List.setIfInBounds_toArray, List.set_cons_zero, List.set_cons_succ]
    refine wpAnyH_take (i := 1) (oi := { dst := some 33, op := Go.Op.nilCheck (Go.Operand.tmp 32), type := 0, pos := "ckpt.go:74", after := #[{ on := 0, ground := Go.Ground.data }], guard := none }) (v := ?v1z1) rfl (by kernel_rfl) (by kernel_rfl) (by kernel_rfl) (fun _ _ _ h => h) (Or.inl ⟨by rfl, ?hy1z1⟩) (by assumption) ?rest1z1
    case hy1z1 => (intro w hSw; (try dsimp only at hSw); go_simp; try (with_reducible rfl))
    simp only [Act.put, List.setIfInBounds_toArray, List.set_cons_zero, List.set_cons_succ]
    refine wpAnyH_take (i := 2) (oi := { dst := some 34, op := Go.Op.fieldAddr 187 (Go.Operand.tmp 33) 5, type := 0, pos := "ckpt.go:74", after := #[{ on := 1, ground := Go.Ground.data }], guard := none }) (v := ?v1z2) rfl (by kernel_rfl) (by kernel_rfl) (by kernel_rfl) (fun _ _ _ h => h) (Or.inl ⟨by rfl, ?hy1z2⟩) (by assumption) ?rest1z2
    case hy1z2 => (intro w hSw; (try dsimp only at hSw); go_simp; try (with_reducible rfl))
    simp only [Act.put, List.setIfInBounds_toArray, List.set_cons_zero, List.set_cons_succ]
    refine wpAnyH_take (i := 3) (oi := { dst := some 35, op := Go.Op.load 185 (Go.Operand.tmp 34), type := 185, pos := "ckpt.go:74", after := #[{ on := 2, ground := Go.Ground.data }], guard := none }) (v := ?v1z3) rfl (by kernel_rfl) (by kernel_rfl) (by kernel_rfl) (fun _ _ _ h => h) (Or.inl ⟨by rfl, ?hy1z3⟩) (by assumption) ?rest1z3
    case hy1z3 => (intro w hSw; (try dsimp only at hSw); go_simp; try (with_reducible rfl))
    simp only [Act.put, List.setIfInBounds_toArray, List.set_cons_zero, List.set_cons_succ]
    refine wpAnyH_take (i := 4) (oi := { dst := some 36, op := Go.Op.load 61 (Go.Operand.tmp 4), type := 61, pos := "ckpt.go:74", after := #[], guard := none }) (v := ?v1z4) rfl (by kernel_rfl) (by kernel_rfl) (by kernel_rfl) (fun _ _ _ h => h) (Or.inl ⟨by rfl, ?hy1z4⟩) (by assumption) ?rest1z4
    case hy1z4 => (intro w hSw; (try dsimp only at hSw); go_simp; try (with_reducible rfl))
    simp only [Act.put, List.setIfInBounds_toArray, List.set_cons_zero, List.set_cons_succ]
    refine wpAnyH_take (i := 5) (oi := { dst := some 37, op := Go.Op.move (Go.Operand.tmp 2), type := 56, pos := "ckpt.go:74", after := #[], guard := none }) (v := ?v1z5) rfl (by kernel_rfl) (by kernel_rfl) (by kernel_rfl) (fun _ _ _ h => h) (Or.inl ⟨by rfl, ?hy1z5⟩) (by assumption) ?rest1z5
    case hy1z5 => (intro w hSw; (try dsimp only at hSw); go_simp; try (with_reducible rfl))
    simp only [Act.put, List.setIfInBounds_toArray, List.set_cons_zero, List.set_cons_succ]
    refine wpAnyH_ready (rs := [6]) (by kernel_rfl) (by simp) ?_
    refine AllReadyH.cons (o := { dst := some 38, op := Go.Op.call { callee := Go.Callee.value (Go.Operand.func 121), args := #[Go.Operand.tmp 37], argTypes := #[56] }, type := 56, pos := "ckpt.go:74", after := #[{ on := 5, ground := Go.Ground.data }], guard := none }) rfl (fun K hK => ?_) ?_
    ·
      go_simp
      go_at_call 121
      refine (clone_row_c _ _ Al cl l ((HR9'.out.ext (below_drewN (Below.refl _ _) 1)).rd (Nat.le_refl _)) (by omega)).mono ?_
      rintro e w10 ⟨A2, cc2, rfl, hown, hc2, hb10⟩
      have HBz := Lib.hid (show Below w9.heap.size w9 w10 from ext_trans (below_drewN (Below.refl _ _) 1) hb10)
      have HCz := Lib.hid (HC9.out.ext HBz.out)
      have HSz := Lib.hid (HS9.out.ext HBz.out)
      have HMz := Lib.hid (HM9.out.ext HBz.out)
      have HOz := Lib.hid hown
      clear hown hb10
      refine hK.out _ _ ?_ (fun hHeld => ?_)
      · (first | exact ⟨(HCz.out.cell 0).trans rfl, (HCz.out.cell 1).trans rfl, (HCz.out.cell 2).trans rfl, (HSz.out.cell 6).trans rfl⟩ | exact ⟨c0, c1, c2, c3⟩ | go_keep)
      clear hK K
      try simp only [Act.put, List.setIfInBounds_toArray, List.set_cons_zero, List.set_cons_succ]
      refine wpAnyH_ready (rs := [7]) (by kernel_rfl) (by simp) ?_
      refine AllReadyH.cons (o := { dst := none, op := Go.Op.mapUpdate 185 (Go.Operand.tmp 35) (Go.Operand.tmp 36) (Go.Operand.tmp 38), type := 0, pos := "ckpt.go:74", after := #[{ on := 3, ground := Go.Ground.data }, { on := 4, ground := Go.Ground.data }, { on := 6, ground := Go.Ground.data }, { on := 6, ground := Go.Ground.chain }, { on := 0, ground := Go.Ground.phase }, { on := 1, ground := Go.Ground.phase }, { on := 2, ground := Go.Ground.phase }, { on := 3, ground := Go.Ground.phase }, { on := 4, ground := Go.Ground.phase }, { on := 5, ground := Go.Ground.phase }, { on := 6, ground := Go.Ground.phase }], guard := none }) rfl (fun K hK => ?_) ?_
      ·
        refine step_store_is _ rfl (.tmp 35) (.tmp 36) (.tmp 38) 185 rfl idKey 56 (by kernel_rfl) X.mb _ (by rfl) HMz.out (⟨xb, xs, xp⟩ : Id3) (.slice A2 l.length cc2) (by rfl) (by rfl) ?_
        intro w11 hm11 hg11 hs11
        have HM11 := Lib.hid hm11
        have HG11 := Lib.hid hg11
        have HCy := Lib.hid HCz.out
        have HSy := Lib.hid HSz.out
        have HCz := Lib.hid (HCy.out.grown hg11 (fun e => HMz.out.ne_cells HCy.out (by injection e with e; exact e.symm)))
        have HSz := Lib.hid (HSy.out.grown hg11 (fun e => HMz.out.ne_cells HSy.out (by injection e with e; exact e.symm)))
        clear hm11 hg11 hs11
        refine hK.out _ _ ?_ (fun hHeld => ?_)
        · (first | exact ⟨(HCz.out.cell 0).trans rfl, (HCz.out.cell 1).trans rfl, (HCz.out.cell 2).trans rfl, (HSz.out.cell 6).trans rfl⟩ | exact ⟨c0, c1, c2, c3⟩ | go_keep)
        clear hK K
        try simp only [Act.put]
        refine wpAnyH_done (by kernel_rfl) ?_ _
        go_wp2_with fail
        go_ret
        refine ⟨fun _ => ⟨rfl, ?_⟩, fun code h => by rw [HY2.out] at h; cases h⟩
        exact CkTurn.trans_below HB.out (CkAt.lay (q := (⟨xb, xs, xp⟩, l)) (H.out.ext HB.out) HF9.out HD9.out HR9.out HL9.out (by rw [HPs.out, HB4.out]) HOk.out HXn.out HBz.out HOz.out (Nat.le_refl _) HM11.out HG11.out)
      exact AllReadyH.nil
    exact AllReadyH.nil
end
end Go.Proofs.YtipfoljmdeiggaaGreatDoor

/- The checkpoints' store: Get of what is there, read of a record of its own. -/
namespace Go.Proofs.YtipfoljmdeiggaaGreatDoor
open Go.RowKit Go.Sort

def GetPost (l : List Rw) (w : World) (e : Ending) (w' : World) : Prop :=
  ∃ A c, e = .returned (.tuple #[.slice A l.length c, .nilIface]) ∧ w'.ownsRow w.heap.size 74 2 (.slice A l.length c) l.length (rwsC l) ∧ Below w.heap.size w w'
section
variable {B db : Nat} {X : CkX} {p : PlanD} {A : Option Addr} {c : Nat} {d : DiskD} {ps : List (Id3 × List Rw)}
set_option maxRecDepth 100000 in
set_option maxHeartbeats 8000000 in
theorem get_c (q : Id3 × List Rw) (w : World) (h : CkAt B db X p A c d ps ps w) (hq : q ∈ ps) (hd : d.down = false) (hlf : d.life = X.life) :
    Calls Tryz.prog 35 #[.pointer (some ⟨X.sb, 0, none⟩), idV q.1] w (GetPost q.2 w) := by
  obtain ⟨⟨xb, xs, xp⟩, l⟩ := q
  obtain ⟨z, hz, hz1, hz2, hz3⟩ := h.hit hq
  have hl64 : l.length ≤ 64 := (h.ok.may _ hq).rows
  obtain ⟨zi, zA, zc, zl⟩ := z
  simp only at hz1 hz2 hz3
  subst hz1 hz2
  have hrw := h.rows _ hz
  simp only at hrw
  obtain ⟨W, hW⟩ : ∃ W, W = w.alloc (.cells #[.int .i64 xb, .int .i64 xs, .int .i64 xp] 61 (0, 0)) := ⟨_, rfl⟩
  have HBW := Lib.hid (show Below w.heap.size w W from by rw [hW]; exact ext_alloc (Below.refl _ _) _)
  have HXW := Lib.hid (show Bk W w.heap.size 61 #[.int .i64 xb, .int .i64 xs, .int .i64 xp] from by rw [hW]; exact Bk.new _ _ _)
  have H := Lib.hid (h.ext HBW.out)
  have HRw := Lib.hid (hrw.ext HBW.out)
  have HWW := Lib.hid hW
  have hlk := fun n => (H.out.map.drewN n).lookup_ok idKey (t := 185) (e := 56) (by kernel_rfl) (zero_rows _) (⟨xb, xs, xp⟩ : Id3)
  simp only [hz3, Option.getD_some, Option.isSome_some, idV, pzS] at hlk
  have c0 : W.cell? ⟨w.heap.size, 0, none⟩ = some (.int .i64 xb) := (HXW.out.cell 0).trans rfl
  have c1 : W.cell? ⟨w.heap.size, 1, none⟩ = some (.int .i64 xs) := (HXW.out.cell 1).trans rfl
  have c2 : W.cell? ⟨w.heap.size, 2, none⟩ = some (.int .i64 xp) := (HXW.out.cell 2).trans rfl
  have s0 : W.cell? ⟨X.sb, 0, none⟩ = some (.pointer (some ⟨db, 0, none⟩)) := (H.out.bk.cell 0).trans rfl
  have s1 : W.cell? ⟨X.sb, 1, none⟩ = some (.int .i64 (X.life : Nat)) := (H.out.bk.cell 1).trans rfl
  have s6 : W.cell? ⟨X.sb, 6, none⟩ = some (.map (some X.mb)) := (H.out.bk.cell 6).trans rfl
  have l0 := HXW.out.lt
  have l1 := H.out.bk.lt
  have HD := Lib.hid (fun m => dDown_c (B := B) (db := db) (R := X.R) (d := d) (W.drewN m) ((H.out.disk).ext (below_drewN (Below.refl _ _) m)))
  have HL := Lib.hid (fun m => dLife_c (B := B) (db := db) (R := X.R) (d := d) (W.drewN m) ((H.out.disk).ext (below_drewN (Below.refl _ _) m)))
  rw [hd] at HD
  rw [hlf] at HL
  clear h hz hz3 hrw hW hd hlf hq
  go_enter Tryz.func35, Tryz.ntmps35
  go_wp2_with fail
  rw [← HWW.out]
  go_quiet (first | (go_at_call 96; exact quiet_val (HD.out _)) | (go_at_call 97; exact quiet_val (HL.out _)))
  go_wp2_with fail
  go_quiet (fail)
  go_wp2_with (first
    | (go_at_call 121; refine (clone_row_c _ _ zA zc zl ((HRw.out.ext (below_drewN (Below.refl _ _) _)).rd (Nat.le_refl _)) (by omega)).mono ?_; rintro e w2 ⟨A2, c2', rfl, hown, hc2, hb⟩; have HO := Lib.hid hown; have HB := Lib.hid hb; clear hown hb))
  go_ret2
  exact ⟨A2, c2', rfl, own_mono HO.out (by show w.heap.size ≤ (W.drewN _).heap.size; exact (below_drewN HBW.out _).size), ext_trans (below_drewN HBW.out _) HB.out⟩
end
def ReadPost_ (q : Id3 × List Rw) (w : World) (e : Ending) (w' : World) : Prop :=
  ∃ A c, e = .returned (.tuple #[idV q.1, .slice A q.2.length c, .bool true]) ∧ w'.ownsRow w.heap.size 74 2 (.slice A q.2.length c) q.2.length (rwsC q.2) ∧ Below w.heap.size w w'
set_option maxRecDepth 100000 in
set_option maxHeartbeats 8000000 in
theorem ckRead_c (q : Id3 × List Rw) (S : Nat → Prop) (b : List Nat) (A : Option Addr) (c : Nat) (w : World) (hbq : b = recB q) (h : RdS w S 1 A b.length (bytesC b)) (hn : NameOk q.1) (hl : q.2.length ≤ 64) (hr : RowsOk q.2) :
    Calls Tryz.prog 114 #[.slice A b.length c] w (ReadPost_ q w) := by
  obtain ⟨⟨xb, xs, xp⟩, l⟩ := q
  have hrec := recB_ok hn hl hr
  obtain ⟨h1, h2⟩ := read_recB hn hl hr
  rw [← hbq] at hrec h1 h2
  simp only at h1 h2
  obtain ⟨a1, ha1⟩ : ∃ a1, a1 = (idB ⟨xb, xs, xp⟩).length := ⟨_, rfl⟩
  rw [← ha1] at h1 h2
  have H1 := Lib.hid h1
  have H2 := Lib.hid h2
  have HR := Lib.hid h
  have HBy := Lib.hid hrec.byte
  have hbl := hrec.len
  simp only at hbl hl
  clear hbq h hrec h1 h2 hn hr ha1
  go_enter Tryz.func114, Tryz.ntmps114
  go_upto_region 5 with (first
    | (go_at_call 200; refine (readID_c S b A c 0 _ (HR.out.ext (ext_alloc (Below.refl _ _) _)) HBy.out (by omega)).mono ?_; rintro e w1 hpost; obtain ⟨rfl, hb⟩ := hpost.1 _ _ H1.out
       have HB1 := Lib.hid (ext_trans (ext_alloc (Below.refl _ _) _) hb); have HC1 := Lib.hid ((Bk.new w 61 #[.int .i64 0, .int .i64 0, .int .i64 0]).ext hb); clear hb hpost)
    | (go_at_call 201; refine (readRows_c S b A c (a1 : Nat) _ (HR.out.ext (ext_alloc HB1.out _)) HBy.out (by omega)).mono ?_; rintro e w2 hpost; obtain ⟨A2, c2, rfl, hown, hb⟩ := hpost.1 _ _ H2.out
       have HB2 := Lib.hid (ext_trans (ext_alloc HB1.out _) hb)
       have HC2 := Lib.hid ((HC1.out.alloc (.cells #[.int .i64 xb, .int .i64 xs, .int .i64 xp] 61)).ext hb)
       have HX2 := Lib.hid ((Bk.new w1 61 #[.int .i64 xb, .int .i64 xs, .int .i64 xp]).ext hb)
       have HO2 := Lib.hid (own_mono hown (base' := w.heap.size) (ext_alloc HB1.out _).size)
       have HZ := Lib.hid HB1.out.size
       clear hown hb hpost))
  have x0 : w2.cell? ⟨w1.heap.size, 0, none⟩ = some (.int .i64 xb) := (HX2.out.cell 0).trans rfl
  have x1 : w2.cell? ⟨w1.heap.size, 1, none⟩ = some (.int .i64 xs) := (HX2.out.cell 1).trans rfl
  have x2 : w2.cell? ⟨w1.heap.size, 2, none⟩ = some (.int .i64 xp) := (HX2.out.cell 2).trans rfl
  have z0 : w2.cell? ⟨w.heap.size, 0, none⟩ = some (.int .i64 0) := (HC2.out.cell 0).trans rfl
  have z1 : w2.cell? ⟨w.heap.size, 1, none⟩ = some (.int .i64 0) := (HC2.out.cell 1).trans rfl
  have z2 : w2.cell? ⟨w.heap.size, 2, none⟩ = some (.int .i64 0) := (HC2.out.cell 2).trans rfl
  have f0 := HC2.out.frozen 0
  have f1 := HC2.out.frozen 1
  have f2 := HC2.out.frozen 2
  have lx := HX2.out.lt
  have lz := HC2.out.lt
  go_region
  go_wp2_with fail
  have HCd := Lib.hid (show Bk w2.drew w.heap.size 61 #[.int .i64 0, .int .i64 0, .int .i64 0] from HC2.out)
  have HOd := Lib.hid (show w2.drew.ownsRow w.heap.size 74 2 (.slice A2 l.length c2) l.length (rwsC l) from HO2.out)
  have HX3 := Lib.hid (show Bk (((w2.drew.setCell ⟨w.heap.size, 0, none⟩ (.int .i64 xb)).setCell ⟨w.heap.size, 1, none⟩ (.int .i64 xs)).setCell ⟨w.heap.size, 2, none⟩ (.int .i64 xp)) w.heap.size 61 #[.int .i64 xb, .int .i64 xs, .int .i64 xp] from ((HCd.out.set_ 0 _).set_ 1 _).set_ 2 _)
  refine bodyPost_ret (results_cell_two (g := w.heap.size) (t := 61) (cs := #[.int .i64 xb, .int .i64 xs, .int .i64 xp]) (fr := (0, 0)) rfl _ _ _ rfl HX3.out Tryz.underlying61 rfl (by kernel_rfl)) rfl ?_
  exact ⟨A2, c2, rfl, own_far ((HCd.out.set_ 0 _).set_ 1 _) (own_far (HCd.out.set_ 0 _) (own_far HCd.out HOd.out (by decide) 0 _) (by decide) 1 _) (by decide) 2 _, ((HB2.out.drew.setCell (Nat.le_refl _) _).setCell (Nat.le_refl _) _).setCell (Nat.le_refl _) _⟩
end Go.Proofs.YtipfoljmdeiggaaGreatDoor

/- The checkpoints' store: Open of the program, of a disk that holds pieces. -/
namespace Go.Proofs.YtipfoljmdeiggaaGreatDoor
open Go.RowKit Go.Sort

theorem step_makeMap {α : Type} {enc : α → Value} {P : Program} {ops : Array Oper} {o : Oper} {a : Act} {K : Act → World → Prop} {Q : Exit → Act → World → Prop} {E : Prop} (w : World) (hgd : o.guard = none) (t : TypeId) (ho : o.op = .makeMap t none)
    (hrun : (Instr.makeMap t none).run P w = .ok (.map (some w.heap.size)) (w.alloc (.map #[] 0)))
    (h : ∀ w' b, MapIs enc w' b ([] : List (α × Value)) → Below w.heap.size w w' → b = w.heap.size → w'.heap.size = w.heap.size + 1 → K (a.put o.dst (.map (some b))) w') :
    if Region.wanted o (yielded ops a.tmps) = true then Oper.wp P o a w K Q else E := by
  rw [if_pos (by simp [Region.wanted, hgd])]
  have h1 := h _ _ (MapIs.made enc w) (ext_alloc (Below.refl _ _) _) rfl (by simp)
  unfold Oper.wp
  simp [execOp, ho, hrun, Result.andThen]
  exact h1
def CkX.new (sb lb mb : Nat) (R : Nat → Prop) (As : Option Addr) (cs life b : Nat) : CkX := ⟨sb, lb, mb, R, As, cs, [], life, fun k => R k ∨ (b ≤ k ∧ k < sb + 1)⟩
theorem own_sub {w : World} {base n z : Nat} {e : TypeId} {v : Value} {xs : List Value} (h : w.ownsRow base e z v n xs) : ∀ k, v.ownBlock = some k → base ≤ k := fun k hk => (h.lt k hk).1
/-- A store that was just made. -/
theorem ckAt_new {B db lb mb bS life cs c : Nat} {R : Nat → Prop} {p : PlanD} {A As : Option Addr} {d : DiskD} {ps : List (Id3 × List Rw)} {w wl : World} (hB : B ≤ w.heap.size) (hD : DiskIs B db R d w) (hb : Below w.heap.size w wl) (hL : LogAt wl lb db life ps.length (posC ps)) (hl : w.heap.size ≤ lb)
    (hM : MapIs idV wl mb ([] : List (Id3 × Value))) (hm : w.heap.size ≤ mb) (hS : wl.ownsRow bS 3 1 (.slice As (statesL p.ops).length cs) (statesL p.ops).length (intsC (statesL p.ops))) (hs : w.heap.size ≤ bS) (hok : CkOk p d ps) (hp : checkD p = none) :
    CkAt B db (CkX.new wl.heap.size lb mb R As cs life w.heap.size) p A c d ps [] (wl.alloc (.cells #[.pointer (some ⟨db, 0, none⟩), .int .i64 (life : Nat), .pointer (some ⟨lb, 0, none⟩), .int .i64 p.parts, .slice A p.ops.length c, .slice As (statesL p.ops).length cs, .map (some mb)] 187 (0, 0))) := by
  have hb2 := ext_alloc (Below.refl wl.heap.size wl) (.cells #[.pointer (some ⟨db, 0, none⟩), .int .i64 (life : Nat), .pointer (some ⟨lb, 0, none⟩), .int .i64 p.parts, .slice A p.ops.length c, .slice As (statesL p.ops).length cs, .map (some mb)] 187 (0, 0))
  have hbd := hD.bd
  have hsz := hb.size
  refine ⟨hD.ext (ext_alloc hb _), Bk.new _ _ _, Bk.ext hL hb2, hM.ext hb2, rfl, (fun z hz => by cases hz), ?_, ⟨fun hk => ?_, fun hk => ?_, fun hk => ?_⟩, ⟨by show B ≤ lb; omega, by show B ≤ mb; omega, by show B ≤ wl.heap.size; omega⟩, hok, hp, fun k hk => ?_, .inr ⟨hsz, Nat.lt_succ_self _⟩, fun k hk => ?_⟩
  · refine (RdS.of_own (S := fun k => (CkX.new wl.heap.size lb mb R As cs life w.heap.size).Q k ∧ ¬ (CkX.new wl.heap.size lb mb R As cs life w.heap.size).mu k) hS (fun k hk => ⟨.inr ⟨Nat.le_trans hs (own_sub hS k hk), Nat.lt_succ_of_lt (hS.lt k hk).2⟩, fun hmu => ?_⟩)).ext hb2
    have h1 := own_sub hS k hk
    rcases hmu with hmu | hmu | hmu
    · have := (hbd k hmu).2; omega
    · rcases hS.2 with ⟨hv, _⟩ | ⟨g, c', cur, hv, _, hg, _⟩
      · rw [hv] at hk; cases hk
      · rw [hv] at hk
        injection hk with hk
        subst hk
        have h2 : g = lb := hmu
        have hL' := hL
        unfold LogAt Bk at hL'
        rw [← h2, hg] at hL'
        injection hL' with hL'
        injection hL' with _ hL'
        exact absurd hL' (by decide)
    · rcases hS.2 with ⟨hv, _⟩ | ⟨g, c', cur, hv, _, hg, _⟩
      · rw [hv] at hk; cases hk
      · rw [hv] at hk
        injection hk with hk
        subst hk
        have h2 : g = mb := hmu
        obtain ⟨es, cl, hm'⟩ := hM.obj
        rw [← h2, hg] at hm'
        cases hm'
  · have := (hbd _ hk).2; have h1 : wl.heap.size < w.heap.size := this; omega
  · have := (hbd _ hk).2; have h1 : lb < w.heap.size := this; omega
  · have := (hbd _ hk).2; have h1 : mb < w.heap.size := this; omega
  · have hlb := hL.lt
    have hmb := hM.lt
    rcases hk with hk | hk | hk
    · exact .inl hk
    · have hk' : k = lb := hk
      exact .inr (by show w.heap.size ≤ k ∧ k < wl.heap.size + 1; omega)
    · have hk' : k = mb := hk
      exact .inr (by show w.heap.size ≤ k ∧ k < wl.heap.size + 1; omega)
  · simp only [World.size_alloc]
    rcases hk with hk | hk
    · have := (hbd k hk).2; omega
    · have hk' : w.heap.size ≤ k ∧ k < wl.heap.size + 1 := hk
      omega
section
variable {B db : Nat} {X : CkX} {p : PlanD} {A : Option Addr} {c : Nat} {d : DiskD} {full ps : List (Id3 × List Rw)}
/-- A record is laid into the map. -/
theorem CkAt.load {w w2 w3 : World} {q : Id3 × List Rw} {A2 : Option Addr} {c2 base : Nat} (h : CkAt B db X p A c d full ps w) (hq : q.1 ∉ ps.map (·.1)) (hb : Below w.heap.size w w2) (hown : w2.ownsRow base 74 2 (.slice A2 q.2.length c2) q.2.length (rwsC q.2)) (hbase : w.heap.size ≤ base)
    (hm : MapIs idV w3 X.mb (mset (X.zs.map pzK) q.1 (.slice A2 q.2.length c2))) (hg : w2.grownBy w3 (some X.mb)) : CkAt B db (X.more ⟨q.1, A2, c2, q.2⟩ w.heap.size w2.heap.size) p A c d full (ps ++ [q]) w3 ∧ Fr (fun k => k = X.mb) w w3 := by
  have hF : Fr (fun k => k = X.mb) w2 w3 := Fr.map_ hg
  have h2 := h.ext hb
  have hms : mset (X.zs.map pzK) q.1 (.slice A2 q.2.length c2) = (X.zs ++ [(⟨q.1, A2, c2, q.2⟩ : Pz)]).map pzK := by
    unfold mset
    rw [if_neg, List.map_append]
    · rfl
    · rw [List.map_map]
      rw [← h.zz, List.map_map] at hq
      exact hq
  rw [hms] at hm
  have hnm : ∀ k, (X.Q k ∧ ¬ X.mu k) → k ≠ X.mb := fun k hn e => hn.2 (.inr (.inr e))
  have hw2 := hb.size
  have hw3 := hg.size
  have hmul : ∀ k, X.mu k → k < w.heap.size := fun k hk => (h.mu_lt hk).2
  refine ⟨⟨h2.disk.fr hF (fun k hk e => ?_), h2.bk.fr hF (fun e => ?_), Bk.fr h2.log hF (fun e => ?_), hm, ?_, ?_, h2.st.turn hF (fun k _ hk => hnm k hk) (fun _ _ hk => ⟨.inl hk.1, hk.2⟩), h2.offs, h2.bd, h2.ok, h2.plan, fun k hk => .inl (h.sub k hk), .inl h.qb.1, fun k hk => ?_⟩, (Fr.of_below hb).trans hF (fun k hk => .inl hk)⟩
  · rw [e] at hk
    exact h2.offs.2.2 hk
  · exact h2.map.ne_cells h2.bk e.symm
  · exact h2.map.ne_cells h2.log e.symm
  · show (X.zs ++ [(⟨q.1, A2, c2, q.2⟩ : Pz)]).map pzT = _
    rw [List.map_append, h.zz]
    rfl
  · intro z hz
    rcases List.mem_append.1 hz with hz | hz
    · exact (h2.rows z hz).turn hF (fun k _ hk => hnm k hk) (fun _ _ hk => ⟨.inl hk.1, hk.2⟩)
    · rw [List.mem_singleton] at hz
      subst hz
      refine (RdS.of_own (S := fun k => w.heap.size ≤ k ∧ k < w2.heap.size) hown (fun k hk => ⟨Nat.le_trans hbase (hown.lt k hk).1, (hown.lt k hk).2⟩)).turn hF (fun k _ hk e => ?_) (fun k _ hk => ⟨.inr hk, fun hm => ?_⟩)
      · have h1 := h.map.lt
        rw [e] at hk
        omega
      · have := hmul k hm; omega
  · rcases hk with hk | hk
    · have := h.qb.2 k hk; omega
    · omega
end
def CkOpenPost (B db : Nat) (R : Nat → Prop) (p : PlanD) (A : Option Addr) (c : Nat) (d : DiskD) (ps : List (Id3 × List Rw)) (w : World) (e : Ending) (w' : World) : Prop :=
  ∃ X : CkX, e = .returned (.tuple #[.pointer (some ⟨X.sb, 0, none⟩), .nilIface]) ∧ CkAt B db X p A c d ps ps w' ∧ X.R = R ∧ X.life = d.life ∧ (∀ k, X.Q k → R k ∨ w.heap.size ≤ k) ∧ Below w.heap.size w w'
end Go.Proofs.YtipfoljmdeiggaaGreatDoor

/- The checkpoints' store: Open of the program, walked. -/
namespace Go.Proofs.YtipfoljmdeiggaaGreatDoor
open Go.RowKit Go.Sort

theorem not_in_take {α : Type} {l : List α} (h : l.Nodup) {i : Nat} {x : α} (hi : l[i]? = some x) : x ∉ l.take i := by
  intro hm
  obtain ⟨j, hj, e⟩ := List.getElem_of_mem hm
  have hl := (List.getElem?_eq_some_iff.1 hi).1
  have hj' : j < i := by rw [List.length_take] at hj; omega
  rw [List.getElem_take] at e
  have h2 := (List.getElem?_eq_some_iff.1 hi).2
  have := (List.pairwise_iff_getElem.1 h) j i (by omega) hl hj'
  exact this (e.trans h2.symm)
theorem bs_cell' {w : World} {base ga n c i : Nat} {ys : List By} {z : By} (h : w.ownsRow base 39 1 (.slice (some ⟨ga, 0, none⟩) n c) n (ys.flatMap bsC)) (hz : ys[i]? = some z) (hi : i < n) : w.cell? ⟨ga, (i : Nat), none⟩ = some (.slice z.A z.l.length z.c) := by
  obtain ⟨ad, hA, hc⟩ := (Rd.of_own (B := 0) h).cell (by omega)
  injection hA with hA
  have e : ∀ l : List By, l.flatMap bsC = l.map fun x => Value.slice x.A x.l.length x.c := by
    intro l
    induction l with
    | nil => rfl
    | cons y l ih => rw [List.flatMap_cons, ih]; rfl
  have h1 := hc i (.slice z.A z.l.length z.c) (by rw [e, List.getElem?_map, hz]; rfl)
  rw [← hA] at h1
  have h2 : (⟨ga, 0, none⟩ : Addr).add i = ⟨ga, i, none⟩ := by
    unfold Addr.add
    split
    · next h0 => subst h0; rfl
    · simp
  rw [h2] at h1
  exact h1
section
variable {B db : Nat} {R : Nat → Prop} {p : PlanD} {A : Option Addr} {c : Nat} {d : DiskD} {ps : List (Id3 × List Rw)}
set_option maxRecDepth 100000 in
set_option maxHeartbeats 16000000 in
theorem ckOpen_c (Bp : Nat) (w : World) (h : DiskIs B db R d w) (hd : d.down = false) (hok : CkOk p d ps) (hp : checkD p = none) (hops : RdS w (· < Bp) 5 A p.ops.length (opsC p.ops)) (hBp : Bp ≤ w.heap.size) :
    Calls Tryz.prog 21 #[.pointer (some ⟨db, 0, none⟩), planV p A c] w (CkOpenPost B db R p A c d ps w) := by
  have hroom := h.room_le
  have hBw : B ≤ w.heap.size := by have := h.bd _ h.rd; omega
  have hop := openD_ok hok.log hroom.2.1
  have hsh := shaped_check hp
  have hsh12 := hsh.n12
  have hsh4 := hsh.p4
  have hle := hok.le
  have HD := Lib.hid h
  have HOp := Lib.hid hop
  have HDn := Lib.hid hd
  have HOk := Lib.hid hok
  have HP := Lib.hid hp
  have HO := Lib.hid hops
  have hmm := @run_makeMap Tryz.prog
  clear h hop hd hok hp hops hsh
  go_enter Tryz.func21, Tryz.ntmps21
  go_upto_region 7 with (first
    | (go_at_call 112; refine (check_c Bp p A c _ (HO.out.ext (ext_alloc (Below.refl _ _) _)) (Nat.le_trans hBp (by simp))).mono ?_; rintro e w1 hpost; obtain ⟨rfl, hb⟩ := hpost.1 HP.out
       have HB1 := Lib.hid (ext_trans (ext_alloc (Below.refl _ _) _) hb)
       have HX1 := Lib.hid ((Bk.new w 24 #[.int .i64 p.parts, .slice A p.ops.length c]).ext hb)
       clear hb hpost)
    | (go_at_call 17; refine (lOpen_c _ (HD.out.ext HB1.out) HDn.out).mono ?_
       rintro e w2 ⟨lb, A2, c2, ys, rfl, hys, hL, hown, hrd, hb, hlbw⟩
       rw [HOp.out] at hys hL
       rw [List.length_map] at hL
       have hyl : ys.length = ps.length := by rw [← List.length_map (f := fun y : By => y.l), hys, List.length_map]
       have HYs := Lib.hid hys
       have HL := Lib.hid hL
       have HB2 := Lib.hid (ext_trans HB1.out hb)
       have HX2 := Lib.hid (HX1.out.ext hb)
       have HOw := Lib.hid hown
       have HRd := Lib.hid hrd
       have HLB := Lib.hid (Nat.le_trans HB1.out.size hlbw)
       rw [hyl] at HOw ⊢
       have HYL := Lib.hid hyl
       clear hys hL hown hrd hb hlbw hyl))
  have x0 : w2.cell? ⟨w.heap.size, 0, none⟩ = some (.int .i64 p.parts) := (HX2.out.cell 0).trans rfl
  have x1 : w2.cell? ⟨w.heap.size, 1, none⟩ = some (.slice A p.ops.length c) := (HX2.out.cell 1).trans rfl
  have xl := HX2.out.lt
  clear HB1 HX1
  go_cut [10] (fun v10 wx => ∃ (sb mb : Nat) (As : Option Addr) (cs : Nat), v10 = .pointer (some ⟨sb, 0, none⟩) ∧ Hid (CkAt B db (CkX.new sb lb mb R As cs d.life w.heap.size) p A c d ps [] wx) ∧ Hid (Below w2.heap.size w2 wx) ∧ Hid (w2.heap.size ≤ mb))
  case first =>
    have HC := Lib.hid (show Below w2.heap.size w2 w2.drew from (Below.refl _ _).drew)
    have HX := Lib.hid (show Bk w2.drew w.heap.size 24 #[.int .i64 p.parts, .slice A p.ops.length c] from HX2.out.ext HC.out)
    refine wp_region_held_drew (S := (fun w' => w'.cell? ⟨w.heap.size, 0, none⟩ = some (.int .i64 p.parts) ∧ w'.cell? ⟨w.heap.size, 1, none⟩ = some (.slice A p.ops.length c))) (by kernel_rfl) ?_ (fun hHeld => ?_)
    · (first | exact ⟨(HX.out.cell 0).trans rfl, (HX.out.cell 1).trans rfl⟩ | go_keep)
    refine wpAnyH_take (i := 0) (oi := { dst := some 32, op := Go.Op.move (Go.Operand.tmp 0), type := 26, pos := "ckpt.go:37", after := #[], guard := none }) (v := ?v1z0) rfl (by kernel_rfl) (by kernel_rfl) (by kernel_rfl) (fun _ _ _ h => h) (Or.inl ⟨by rfl, ?hy1z0⟩) (by assumption) ?rest1z0
    case hy1z0 => (intro w hSw; (try dsimp only at hSw); go_simp; try (with_reducible rfl))
    simp only [Act.put, List.setIfInBounds_toArray, List.set_cons_zero, List.set_cons_succ]
    refine wpAnyH_take (i := 1) (oi := { dst := some 33, op := Go.Op.move (Go.Operand.tmp 0), type := 26, pos := "ckpt.go:37", after := #[], guard := none }) (v := ?v1z1) rfl (by kernel_rfl) (by kernel_rfl) (by kernel_rfl) (fun _ _ _ h => h) (Or.inl ⟨by rfl, ?hy1z1⟩) (by assumption) ?rest1z1
    case hy1z1 => (intro w hSw; (try dsimp only at hSw); go_simp; try (with_reducible rfl))
    simp only [Act.put, List.setIfInBounds_toArray, List.set_cons_zero, List.set_cons_succ]
    refine wpAnyH_take (i := 3) (oi := { dst := some 35, op := Go.Op.move (Go.Operand.tmp 7), type := 33, pos := "ckpt.go:37", after := #[], guard := none }) (v := ?v1z3) rfl (by kernel_rfl) (by kernel_rfl) (by kernel_rfl) (fun _ _ _ h => h) (Or.inl ⟨by rfl, ?hy1z3⟩) (by assumption) ?rest1z3
    case hy1z3 => (intro w hSw; (try dsimp only at hSw); go_simp; try (with_reducible rfl))
    simp only [Act.put, List.setIfInBounds_toArray, List.set_cons_zero, List.set_cons_succ]
    refine wpAnyH_take (i := 4) (oi := { dst := some 36, op := Go.Op.load 24 (Go.Operand.tmp 3), type := 24, pos := "ckpt.go:37", after := #[], guard := none }) (v := ?v1z4) rfl (by kernel_rfl) (by kernel_rfl) (by kernel_rfl) (fun _ _ _ h => h) (Or.inl ⟨by rfl, ?hy1z4⟩) (by assumption) ?rest1z4
    case hy1z4 => (intro w hSw; (try dsimp only at hSw); go_simp; try (with_reducible rfl))
    simp only [Act.put, List.setIfInBounds_toArray, List.set_cons_zero, List.set_cons_succ]
    refine wpAnyH_take (i := 5) (oi := { dst := some 37, op := Go.Op.load 24 (Go.Operand.tmp 3), type := 24, pos := "ckpt.go:37", after := #[], guard := none }) (v := ?v1z5) rfl (by kernel_rfl) (by kernel_rfl) (by kernel_rfl) (fun _ _ _ h => h) (Or.inl ⟨by rfl, ?hy1z5⟩) (by assumption) ?rest1z5
    case hy1z5 => (intro w hSw; (try dsimp only at hSw); go_simp; try (with_reducible rfl))
    simp only [Act.put, List.setIfInBounds_toArray, List.set_cons_zero, List.set_cons_succ]
    refine wpAnyH_ready (rs := [2, 7]) (by kernel_rfl) (by simp) ?_
    refine AllReadyH.cons (o := { dst := some 34, op := Go.Op.call { callee := Go.Callee.value (Go.Operand.func 97), args := #[Go.Operand.tmp 33], argTypes := #[26] }, type := 3, pos := "ckpt.go:37", after := #[{ on := 1, ground := Go.Ground.data }], guard := none }) rfl (fun K hK => ?_) ?_
    ·
      go_simp
      go_at_call 97
      refine (dLife_c (B := B) (db := db) (R := R) (d := d) _ (HD.out.ext (ext_trans HB2.out HC.out))).mono ?_
      rintro e wL ⟨rfl, rfl⟩
      refine hK.out _ _ ?_ (fun hHeld => ?_)
      · (first | exact ⟨(HX.out.cell 0).trans rfl, (HX.out.cell 1).trans rfl⟩ | go_keep)
      clear hK K
      try simp only [Act.put, List.setIfInBounds_toArray, List.set_cons_zero, List.set_cons_succ]
      refine wpAnyH_ready (rs := [6, 7]) (by kernel_rfl) (by simp) ?_
      refine AllReadyH.cons (o := { dst := some 38, op := Go.Op.call { callee := Go.Callee.value (Go.Operand.func 31), args := #[Go.Operand.tmp 37], argTypes := #[24] }, type := 55, pos := "ckpt.go:37", after := #[{ on := 5, ground := Go.Ground.data }, { on := 2, ground := Go.Ground.chain }], guard := none }) rfl (fun K hK => ?_) ?_
      ·
        go_simp
        go_at_call 31
        refine (states_c Bp p A c _ (HO.out.ext (ext_trans HB2.out HC.out)) (by have h1 := HB2.out.size; have h2 := HC.out.size; omega) HP.out).mono ?_
        rintro e wS ⟨sA, sc, rfl, hown, hb⟩
        have HZs := Lib.hid HC.out.size
        have HC := Lib.hid (ext_trans HC.out hb)
        have HX := Lib.hid (HX.out.ext hb)
        have HSt := Lib.hid hown
        try (have HMm := Lib.hid (HMm.out.ext hb))
        clear hown hb
        refine hK.out _ _ ?_ (fun hHeld => ?_)
        · (first | exact ⟨(HX.out.cell 0).trans rfl, (HX.out.cell 1).trans rfl⟩ | go_keep)
        clear hK K
        try simp only [Act.put, List.setIfInBounds_toArray, List.set_cons_zero, List.set_cons_succ]
        refine wpAnyH_ready (rs := [7]) (by kernel_rfl) (by simp) ?_
        refine AllReadyH.cons (o := { dst := some 39, op := Go.Op.makeMap 185 none, type := 185, pos := "ckpt.go:37", after := #[], guard := none }) rfl (fun K hK => ?_) ?_
        ·
          refine step_makeMap (enc := idV) _ rfl 185 rfl (by first | exact hmm _ _ | simp [hmm]) ?_
          intro wM mb hmM hb hbM hszM
          have HZm := Lib.hid (show w2.heap.size ≤ mb by have := HC.out.size; omega)
          have HC := Lib.hid (ext_trans HC.out hb)
          have HX := Lib.hid (HX.out.ext hb)
          have HMm := Lib.hid hmM
          try (have HSt := Lib.hid (own_ext HSt.out hb))
          clear hmM hb hbM hszM
          refine hK.out _ _ ?_ (fun hHeld => ?_)
          · (first | exact ⟨(HX.out.cell 0).trans rfl, (HX.out.cell 1).trans rfl⟩ | go_keep)
          clear hK K
          try simp only [Act.put, List.setIfInBounds_toArray, List.set_cons_zero, List.set_cons_succ]
          refine wpAnyH_take (i := 8) (oi := { dst := some 40, op := Go.Op.build 187 #[(0, Go.Operand.tmp 32), (1, Go.Operand.tmp 34), (2, Go.Operand.tmp 35), (3, Go.Operand.tmp 36), (4, Go.Operand.tmp 38), (5, Go.Operand.tmp 39)], type := 187, pos := "ckpt.go:37", after := #[{ on := 0, ground := Go.Ground.data }, { on := 2, ground := Go.Ground.data }, { on := 3, ground := Go.Ground.data }, { on := 4, ground := Go.Ground.data }, { on := 6, ground := Go.Ground.data }, { on := 7, ground := Go.Ground.data }], guard := none }) (v := ?v1z8) rfl (by kernel_rfl) (by kernel_rfl) (by kernel_rfl) (fun _ _ _ h => h) (Or.inl ⟨by rfl, ?hy1z8⟩) (by assumption) ?rest1z8
          case hy1z8 => (intro w hSw; (try dsimp only at hSw); go_simp; try (with_reducible rfl))
          simp only [Act.put, List.setIfInBounds_toArray, List.set_cons_zero, List.set_cons_succ]
          refine wpAnyH_ready (rs := [9]) (by kernel_rfl) (by simp) ?_
          refine AllReadyH.cons (o := { dst := some 41, op := Go.Op.box 187 (Go.Operand.tmp 40), type := 42, pos := "ckpt.go:37", after := #[{ on := 8, ground := Go.Ground.data }], guard := none }) rfl (fun K hK => ?_) ?_
          ·
            go_simp
            refine hK.out _ _ ?_ (fun hHeld => ?_)
            · (first | exact ⟨(HX.out.cell 0).trans rfl, (HX.out.cell 1).trans rfl⟩ | go_keep)
            clear hK K
            try simp only [Act.put, List.setIfInBounds_toArray, List.set_cons_zero, List.set_cons_succ]
            refine wpAnyH_take (i := 10) (oi := { dst := some 10, op := Go.Op.assign (Go.Operand.tmp 41), type := 42, pos := "ckpt.go:37", after := #[{ on := 9, ground := Go.Ground.data }, { on := 6, ground := Go.Ground.chain }, { on := 0, ground := Go.Ground.phase }, { on := 1, ground := Go.Ground.phase }, { on := 2, ground := Go.Ground.phase }, { on := 3, ground := Go.Ground.phase }, { on := 4, ground := Go.Ground.phase }, { on := 5, ground := Go.Ground.phase }, { on := 6, ground := Go.Ground.phase }, { on := 7, ground := Go.Ground.phase }, { on := 8, ground := Go.Ground.phase }, { on := 9, ground := Go.Ground.phase }], guard := none }) (v := ?v1z10) rfl (by kernel_rfl) (by kernel_rfl) (by kernel_rfl) (fun _ _ _ h => h) (Or.inl ⟨by rfl, ?hy1z10⟩) (by assumption) ?rest1z10
            case hy1z10 => (intro w hSw; (try dsimp only at hSw); go_simp; try (with_reducible rfl))
            simp only [Act.put, List.setIfInBounds_toArray, List.set_cons_zero, List.set_cons_succ]
            refine wpAnyH_done (by kernel_rfl) ?_ _
            go_wp2_with fail
            go_meet
            have h1 := HB2.out.size
            have h2 := HZs.out
            have h3 := HZm.out
            have h4 := HLB.out
            exact ⟨_, mb, sA, sc, rfl, Lib.hid (ckAt_new hBw HD.out (ext_trans HB2.out HC.out) (Bk.ext HL.out HC.out) (by omega) HMm.out (by omega) HSt.out (by omega) HOk.out HP.out), Lib.hid (ext_alloc HC.out _), HZm⟩
          exact AllReadyH.nil
        exact AllReadyH.nil
      refine AllReadyH.cons (o := { dst := some 39, op := Go.Op.makeMap 185 none, type := 185, pos := "ckpt.go:37", after := #[], guard := none }) rfl (fun K hK => ?_) ?_
      ·
        refine step_makeMap (enc := idV) _ rfl 185 rfl (by first | exact hmm _ _ | simp [hmm]) ?_
        intro wM mb hmM hb hbM hszM
        have HZm := Lib.hid (show w2.heap.size ≤ mb by have := HC.out.size; omega)
        have HC := Lib.hid (ext_trans HC.out hb)
        have HX := Lib.hid (HX.out.ext hb)
        have HMm := Lib.hid hmM
        try (have HSt := Lib.hid (own_ext HSt.out hb))
        clear hmM hb hbM hszM
        refine hK.out _ _ ?_ (fun hHeld => ?_)
        · (first | exact ⟨(HX.out.cell 0).trans rfl, (HX.out.cell 1).trans rfl⟩ | go_keep)
        clear hK K
        try simp only [Act.put, List.setIfInBounds_toArray, List.set_cons_zero, List.set_cons_succ]
        refine wpAnyH_ready (rs := [6]) (by kernel_rfl) (by simp) ?_
        refine AllReadyH.cons (o := { dst := some 38, op := Go.Op.call { callee := Go.Callee.value (Go.Operand.func 31), args := #[Go.Operand.tmp 37], argTypes := #[24] }, type := 55, pos := "ckpt.go:37", after := #[{ on := 5, ground := Go.Ground.data }, { on := 2, ground := Go.Ground.chain }], guard := none }) rfl (fun K hK => ?_) ?_
        ·
          go_simp
          go_at_call 31
          refine (states_c Bp p A c _ (HO.out.ext (ext_trans HB2.out HC.out)) (by have h1 := HB2.out.size; have h2 := HC.out.size; omega) HP.out).mono ?_
          rintro e wS ⟨sA, sc, rfl, hown, hb⟩
          have HZs := Lib.hid HC.out.size
          have HC := Lib.hid (ext_trans HC.out hb)
          have HX := Lib.hid (HX.out.ext hb)
          have HSt := Lib.hid hown
          try (have HMm := Lib.hid (HMm.out.ext hb))
          clear hown hb
          refine hK.out _ _ ?_ (fun hHeld => ?_)
          · (first | exact ⟨(HX.out.cell 0).trans rfl, (HX.out.cell 1).trans rfl⟩ | go_keep)
          clear hK K
          try simp only [Act.put, List.setIfInBounds_toArray, List.set_cons_zero, List.set_cons_succ]
          refine wpAnyH_take (i := 8) (oi := { dst := some 40, op := Go.Op.build 187 #[(0, Go.Operand.tmp 32), (1, Go.Operand.tmp 34), (2, Go.Operand.tmp 35), (3, Go.Operand.tmp 36), (4, Go.Operand.tmp 38), (5, Go.Operand.tmp 39)], type := 187, pos := "ckpt.go:37", after := #[{ on := 0, ground := Go.Ground.data }, { on := 2, ground := Go.Ground.data }, { on := 3, ground := Go.Ground.data }, { on := 4, ground := Go.Ground.data }, { on := 6, ground := Go.Ground.data }, { on := 7, ground := Go.Ground.data }], guard := none }) (v := ?v1z8x1) rfl (by kernel_rfl) (by kernel_rfl) (by kernel_rfl) (fun _ _ _ h => h) (Or.inl ⟨by rfl, ?hy1z8x1⟩) (by assumption) ?rest1z8x1
          case hy1z8x1 => (intro w hSw; (try dsimp only at hSw); go_simp; try (with_reducible rfl))
          simp only [Act.put, List.setIfInBounds_toArray, List.set_cons_zero, List.set_cons_succ]
          refine wpAnyH_ready (rs := [9]) (by kernel_rfl) (by simp) ?_
          refine AllReadyH.cons (o := { dst := some 41, op := Go.Op.box 187 (Go.Operand.tmp 40), type := 42, pos := "ckpt.go:37", after := #[{ on := 8, ground := Go.Ground.data }], guard := none }) rfl (fun K hK => ?_) ?_
          ·
            go_simp
            refine hK.out _ _ ?_ (fun hHeld => ?_)
            · (first | exact ⟨(HX.out.cell 0).trans rfl, (HX.out.cell 1).trans rfl⟩ | go_keep)
            clear hK K
            try simp only [Act.put, List.setIfInBounds_toArray, List.set_cons_zero, List.set_cons_succ]
            refine wpAnyH_take (i := 10) (oi := { dst := some 10, op := Go.Op.assign (Go.Operand.tmp 41), type := 42, pos := "ckpt.go:37", after := #[{ on := 9, ground := Go.Ground.data }, { on := 6, ground := Go.Ground.chain }, { on := 0, ground := Go.Ground.phase }, { on := 1, ground := Go.Ground.phase }, { on := 2, ground := Go.Ground.phase }, { on := 3, ground := Go.Ground.phase }, { on := 4, ground := Go.Ground.phase }, { on := 5, ground := Go.Ground.phase }, { on := 6, ground := Go.Ground.phase }, { on := 7, ground := Go.Ground.phase }, { on := 8, ground := Go.Ground.phase }, { on := 9, ground := Go.Ground.phase }], guard := none }) (v := ?v1z10x1) rfl (by kernel_rfl) (by kernel_rfl) (by kernel_rfl) (fun _ _ _ h => h) (Or.inl ⟨by rfl, ?hy1z10x1⟩) (by assumption) ?rest1z10x1
            case hy1z10x1 => (intro w hSw; (try dsimp only at hSw); go_simp; try (with_reducible rfl))
            simp only [Act.put, List.setIfInBounds_toArray, List.set_cons_zero, List.set_cons_succ]
            refine wpAnyH_done (by kernel_rfl) ?_ _
            go_wp2_with fail
            go_meet
            have h1 := HB2.out.size
            have h2 := HZs.out
            have h3 := HZm.out
            have h4 := HLB.out
            exact ⟨_, mb, sA, sc, rfl, Lib.hid (ckAt_new hBw HD.out (ext_trans HB2.out HC.out) (Bk.ext HL.out HC.out) (by omega) HMm.out (by omega) HSt.out (by omega) HOk.out HP.out), Lib.hid (ext_alloc HC.out _), HZm⟩
          exact AllReadyH.nil
        exact AllReadyH.nil
      exact AllReadyH.nil
    refine AllReadyH.cons (o := { dst := some 39, op := Go.Op.makeMap 185 none, type := 185, pos := "ckpt.go:37", after := #[], guard := none }) rfl (fun K hK => ?_) ?_
    ·
      refine step_makeMap (enc := idV) _ rfl 185 rfl (by first | exact hmm _ _ | simp [hmm]) ?_
      intro wM mb hmM hb hbM hszM
      have HZm := Lib.hid (show w2.heap.size ≤ mb by have := HC.out.size; omega)
      have HC := Lib.hid (ext_trans HC.out hb)
      have HX := Lib.hid (HX.out.ext hb)
      have HMm := Lib.hid hmM
      try (have HSt := Lib.hid (own_ext HSt.out hb))
      clear hmM hb hbM hszM
      refine hK.out _ _ ?_ (fun hHeld => ?_)
      · (first | exact ⟨(HX.out.cell 0).trans rfl, (HX.out.cell 1).trans rfl⟩ | go_keep)
      clear hK K
      try simp only [Act.put, List.setIfInBounds_toArray, List.set_cons_zero, List.set_cons_succ]
      refine wpAnyH_ready (rs := [2]) (by kernel_rfl) (by simp) ?_
      refine AllReadyH.cons (o := { dst := some 34, op := Go.Op.call { callee := Go.Callee.value (Go.Operand.func 97), args := #[Go.Operand.tmp 33], argTypes := #[26] }, type := 3, pos := "ckpt.go:37", after := #[{ on := 1, ground := Go.Ground.data }], guard := none }) rfl (fun K hK => ?_) ?_
      ·
        go_simp
        go_at_call 97
        refine (dLife_c (B := B) (db := db) (R := R) (d := d) _ (HD.out.ext (ext_trans HB2.out HC.out))).mono ?_
        rintro e wL ⟨rfl, rfl⟩
        refine hK.out _ _ ?_ (fun hHeld => ?_)
        · (first | exact ⟨(HX.out.cell 0).trans rfl, (HX.out.cell 1).trans rfl⟩ | go_keep)
        clear hK K
        try simp only [Act.put, List.setIfInBounds_toArray, List.set_cons_zero, List.set_cons_succ]
        refine wpAnyH_ready (rs := [6]) (by kernel_rfl) (by simp) ?_
        refine AllReadyH.cons (o := { dst := some 38, op := Go.Op.call { callee := Go.Callee.value (Go.Operand.func 31), args := #[Go.Operand.tmp 37], argTypes := #[24] }, type := 55, pos := "ckpt.go:37", after := #[{ on := 5, ground := Go.Ground.data }, { on := 2, ground := Go.Ground.chain }], guard := none }) rfl (fun K hK => ?_) ?_
        ·
          go_simp
          go_at_call 31
          refine (states_c Bp p A c _ (HO.out.ext (ext_trans HB2.out HC.out)) (by have h1 := HB2.out.size; have h2 := HC.out.size; omega) HP.out).mono ?_
          rintro e wS ⟨sA, sc, rfl, hown, hb⟩
          have HZs := Lib.hid HC.out.size
          have HC := Lib.hid (ext_trans HC.out hb)
          have HX := Lib.hid (HX.out.ext hb)
          have HSt := Lib.hid hown
          try (have HMm := Lib.hid (HMm.out.ext hb))
          clear hown hb
          refine hK.out _ _ ?_ (fun hHeld => ?_)
          · (first | exact ⟨(HX.out.cell 0).trans rfl, (HX.out.cell 1).trans rfl⟩ | go_keep)
          clear hK K
          try simp only [Act.put, List.setIfInBounds_toArray, List.set_cons_zero, List.set_cons_succ]
          refine wpAnyH_take (i := 8) (oi := { dst := some 40, op := Go.Op.build 187 #[(0, Go.Operand.tmp 32), (1, Go.Operand.tmp 34), (2, Go.Operand.tmp 35), (3, Go.Operand.tmp 36), (4, Go.Operand.tmp 38), (5, Go.Operand.tmp 39)], type := 187, pos := "ckpt.go:37", after := #[{ on := 0, ground := Go.Ground.data }, { on := 2, ground := Go.Ground.data }, { on := 3, ground := Go.Ground.data }, { on := 4, ground := Go.Ground.data }, { on := 6, ground := Go.Ground.data }, { on := 7, ground := Go.Ground.data }], guard := none }) (v := ?v1z8x2) rfl (by kernel_rfl) (by kernel_rfl) (by kernel_rfl) (fun _ _ _ h => h) (Or.inl ⟨by rfl, ?hy1z8x2⟩) (by assumption) ?rest1z8x2
          case hy1z8x2 => (intro w hSw; (try dsimp only at hSw); go_simp; try (with_reducible rfl))
          simp only [Act.put, List.setIfInBounds_toArray, List.set_cons_zero, List.set_cons_succ]
          refine wpAnyH_ready (rs := [9]) (by kernel_rfl) (by simp) ?_
          refine AllReadyH.cons (o := { dst := some 41, op := Go.Op.box 187 (Go.Operand.tmp 40), type := 42, pos := "ckpt.go:37", after := #[{ on := 8, ground := Go.Ground.data }], guard := none }) rfl (fun K hK => ?_) ?_
          ·
            go_simp
            refine hK.out _ _ ?_ (fun hHeld => ?_)
            · (first | exact ⟨(HX.out.cell 0).trans rfl, (HX.out.cell 1).trans rfl⟩ | go_keep)
            clear hK K
            try simp only [Act.put, List.setIfInBounds_toArray, List.set_cons_zero, List.set_cons_succ]
            refine wpAnyH_take (i := 10) (oi := { dst := some 10, op := Go.Op.assign (Go.Operand.tmp 41), type := 42, pos := "ckpt.go:37", after := #[{ on := 9, ground := Go.Ground.data }, { on := 6, ground := Go.Ground.chain }, { on := 0, ground := Go.Ground.phase }, { on := 1, ground := Go.Ground.phase }, { on := 2, ground := Go.Ground.phase }, { on := 3, ground := Go.Ground.phase }, { on := 4, ground := Go.Ground.phase }, { on := 5, ground := Go.Ground.phase }, { on := 6, ground := Go.Ground.phase }, { on := 7, ground := Go.Ground.phase }, { on := 8, ground := Go.Ground.phase }, { on := 9, ground := Go.Ground.phase }], guard := none }) (v := ?v1z10x2) rfl (by kernel_rfl) (by kernel_rfl) (by kernel_rfl) (fun _ _ _ h => h) (Or.inl ⟨by rfl, ?hy1z10x2⟩) (by assumption) ?rest1z10x2
            case hy1z10x2 => (intro w hSw; (try dsimp only at hSw); go_simp; try (with_reducible rfl))
            simp only [Act.put, List.setIfInBounds_toArray, List.set_cons_zero, List.set_cons_succ]
            refine wpAnyH_done (by kernel_rfl) ?_ _
            go_wp2_with fail
            go_meet
            have h1 := HB2.out.size
            have h2 := HZs.out
            have h3 := HZm.out
            have h4 := HLB.out
            exact ⟨_, mb, sA, sc, rfl, Lib.hid (ckAt_new hBw HD.out (ext_trans HB2.out HC.out) (Bk.ext HL.out HC.out) (by omega) HMm.out (by omega) HSt.out (by omega) HOk.out HP.out), Lib.hid (ext_alloc HC.out _), HZm⟩
          exact AllReadyH.nil
        exact AllReadyH.nil
      exact AllReadyH.nil
    exact AllReadyH.nil
  case rest =>
    obtain ⟨sb, mb, As, cs, rfl, hX, hBx, hmb⟩ := hcut
    obtain ⟨wo, rfl⟩ : ∃ wo : World, wo = wc := ⟨_, rfl⟩
    have hpl : ps.length ≤ 65536 := by omega
    clear x0 x1 xl hmm
    go_wp2_with fail
    go_loopg [4, 5, 44] ps.length (fun gk v4 v5 v44 wr => ∃ (i : Nat) (zs : List Pz) (Q : Nat → Prop), i + gk = ps.length ∧ v44 = .int .i64 (i : Nat) ∧ v4 = .pointer none ∧ v5 = .nilIface ∧ Hid (CkAt B db ⟨sb, lb, mb, R, As, cs, zs, d.life, Q⟩ p A c d ps (ps.take i) wr) ∧ Hid (Fr (fun k => w2.heap.size ≤ k) w2 wr) ∧ Hid (∀ k, Q k → R k ∨ w.heap.size ≤ k))
    case atStart => exact ⟨0, [], _, by omega, rfl, rfl, rfl, hX, Lib.hid (Fr.of_below hBx.out), Lib.hid (fun k hk => hk.imp id (fun hk => hk.1))⟩
    case round =>
      obtain ⟨i, zs, Q, hik, rfl, rfl, rfl, hY, hF, hQ⟩ := hrel
      have HOr := Lib.hid (own_fr HOw.out hF.out (fun k hk hs => by have := (HOw.out.lt k hk).2; omega))
      by_cases hi : i < ps.length
      · have hiI : (i : Int) < (ps.length : Nat) := by omega
        obtain ⟨q, hq⟩ : ∃ q, ps[i]? = some q := ⟨_, List.getElem?_eq_getElem hi⟩
        obtain ⟨z, hz⟩ : ∃ z, ys[i]? = some z := ⟨_, List.getElem?_eq_getElem (by rw [HYL.out]; exact hi)⟩
        have hzl : z.l = recB q := by
          have h1 : (ys.map (·.l))[i]? = (ps.map recB)[i]? := by rw [HYs.out]
          rw [List.getElem?_map, List.getElem?_map, hz, hq] at h1
          simpa using h1
        have hqm := List.mem_of_getElem? hq
        have hmy := HOk.out.may q hqm
        have hrw := HOk.out.rows q hqm
        have hnm : NameOk q.1 := hmy.name (by omega) (by omega)
        have hno : q.1 ∉ (ps.take i).map (·.1) := by
          rw [List.map_take]
          exact not_in_take HOk.out.nd (by rw [List.getElem?_map, hq]; rfl)
        have htk := take_succ_of hq
        have hl64 := hmy.rows
        obtain ⟨⟨xb, xs, xp⟩, l⟩ := q
        simp only at hl64
        have HTk := Lib.hid htk
        have HNn := Lib.hid hno
        have HMy := Lib.hid (mayD_iff.2 hmy)
        have HNo := Lib.hid (decide_eq_false hno)
        have HNm := Lib.hid hnm
        have HRw := Lib.hid hrw
        have HZL := Lib.hid hzl
        have HRb := Lib.hid (show RdS wr (· < w2.heap.size) 1 z.A z.l.length (bytesC z.l) from by
          have h1 := RdS.of_rd (HRd.out z (List.mem_of_getElem? hz)) (by decide)
          rw [bytesC_flat] at h1
          exact h1.fr hF.out (fun k hk hs => by omega))
        obtain ⟨g, rfl⟩ : ∃ g, gk = g + 1 := ⟨gk - 1, by omega⟩
        obtain ⟨ga, rfl, _, _⟩ := own_some HOr.out (by omega)
        have zc : wr.cell? ⟨ga, (i : Nat), none⟩ = some (.slice z.A z.l.length z.c) := bs_cell' HOr.out hz hi
        clear hq hz hzl hqm hmy hrw hnm hno htk
        go_upto_region 14 with (first
          | (go_at_call 34; refine (ckHas_c (X := ⟨sb, lb, mb, R, As, cs, zs, d.life, Q⟩) (⟨xb, xs, xp⟩ : Id3) _ (hY.out.ext HB5.out)).mono ?_; rw [HNo.out]; rintro e w6 ⟨rfl, hb⟩
             have HB6 := Lib.hid (ext_trans HB5.out hb)
             have HC6 := Lib.hid (HC5.out.ext hb)
             have HO6 := Lib.hid (own_ext HO5.out hb)
             clear hb x0 x1 x2)
          | (go_at_call 115; refine (ckMay_c (X := ⟨sb, lb, mb, R, As, cs, zs, d.life, Q⟩) (⟨xb, xs, xp⟩ : Id3) A3 l.length c3 _ (hY.out.ext (ext_alloc HB3.out _))).mono ?_; rw [HMy.out]; rintro e w5 ⟨rfl, hb⟩
             have HB5 := Lib.hid (ext_trans (ext_alloc HB3.out _) hb)
             have HC5 := Lib.hid ((Bk.new w3 61 #[.int .i64 xb, .int .i64 xs, .int .i64 xp]).ext hb)
             have HO5 := Lib.hid (own_ext HO3.out (ext_trans (ext_alloc (Below.refl _ _) _) hb))
             have x0 : w5.cell? ⟨w3.heap.size, 0, none⟩ = some (.int .i64 xb) := (HC5.out.cell 0).trans rfl
             have x1 : w5.cell? ⟨w3.heap.size, 1, none⟩ = some (.int .i64 xs) := (HC5.out.cell 1).trans rfl
             have x2 : w5.cell? ⟨w3.heap.size, 2, none⟩ = some (.int .i64 xp) := (HC5.out.cell 2).trans rfl
             have xl := HC5.out.lt
             clear hb)
          | (go_at_call 114; refine (ckRead_c (⟨xb, xs, xp⟩, l) _ z.l z.A z.c _ HZL.out HRb.out HNm.out hl64 HRw.out).mono ?_; rintro e w3 ⟨A3, c3, rfl, hown, hb⟩
             have HB3 := Lib.hid hb
             have HO3 := Lib.hid hown
             clear hown hb))
        have HB := Lib.hid (show Below wr.heap.size wr w6.drew from HB6.out.drew)
        have HCz := Lib.hid (show Bk w6.drew w3.heap.size 61 #[.int .i64 xb, .int .i64 xs, .int .i64 xp] from HC6.out)
        have HSz := Lib.hid ((hY.out.ext HB.out).bk)
        have HMz := Lib.hid ((hY.out.ext HB.out).map)
        have HO := Lib.hid (show w6.drew.ownsRow wr.heap.size 74 2 (.slice A3 l.length c3) l.length (rwsC l) from HO6.out)
        have c0 : w6.cell? ⟨w3.heap.size, 0, none⟩ = some (.int .i64 xb) := (HC6.out.cell 0).trans rfl
        have c1 : w6.cell? ⟨w3.heap.size, 1, none⟩ = some (.int .i64 xs) := (HC6.out.cell 1).trans rfl
        have c2 : w6.cell? ⟨w3.heap.size, 2, none⟩ = some (.int .i64 xp) := (HC6.out.cell 2).trans rfl
        have c3' : w6.cell? ⟨sb, 6, none⟩ = some (.map (some mb)) := ((hY.out.ext HB6.out).bk.cell 6).trans rfl
        have l0 := HC6.out.lt
        have l1 : sb < w6.heap.size := (hY.out.ext HB6.out).bk.lt
        refine wp_region_held_drew (S := (fun w' => w'.cell? ⟨w3.heap.size, 0, none⟩ = some (.int .i64 xb) ∧ w'.cell? ⟨w3.heap.size, 1, none⟩ = some (.int .i64 xs) ∧ w'.cell? ⟨w3.heap.size, 2, none⟩ = some (.int .i64 xp) ∧ w'.cell? ⟨sb, 6, none⟩ = some (.map (some mb)))) (by kernel_rfl) ?_ (fun hHeld => ?_)
        · (first | exact ⟨(HCz.out.cell 0).trans rfl, (HCz.out.cell 1).trans rfl, (HCz.out.cell 2).trans rfl, (HSz.out.cell 6).trans rfl⟩ | exact ⟨c0, c1, c2, c3'⟩ | go_keep)
        refine wpAnyH_take (i := 0) (oi := { dst := some 72, op := Go.Op.move (Go.Operand.tmp 10), type := 42, pos := "ckpt.go:43", after := #[], guard := none }) (v := ?v2z0) rfl (by kernel_rfl) (by kernel_rfl) (by kernel_rfl) (fun _ _ _ h => h) (Or.inl ⟨by rfl, ?hy2z0⟩) (by assumption) ?rest2z0
        case hy2z0 => (intro w hSw; (try dsimp only at hSw); go_simp; try (with_reducible rfl))
        simp only [Act.put, List.setIfInBounds_toArray, List.set_cons_zero, List.set_cons_succ]
        refine wpAnyH_take (i := 1) (oi := { dst := some 73, op := Go.Op.nilCheck (Go.Operand.tmp 72), type := 0, pos := "ckpt.go:43", after := #[{ on := 0, ground := Go.Ground.data }], guard := none }) (v := ?v2z1) rfl (by kernel_rfl) (by kernel_rfl) (by kernel_rfl) (fun _ _ _ h => h) (Or.inl ⟨by rfl, ?hy2z1⟩) (by assumption) ?rest2z1
        case hy2z1 => (intro w hSw; (try dsimp only at hSw); go_simp; try (with_reducible rfl))
        simp only [Act.put, List.setIfInBounds_toArray, List.set_cons_zero, List.set_cons_succ]
        refine wpAnyH_take (i := 2) (oi := { dst := some 74, op := Go.Op.fieldAddr 187 (Go.Operand.tmp 73) 5, type := 0, pos := "ckpt.go:43", after := #[{ on := 1, ground := Go.Ground.data }], guard := none }) (v := ?v2z2) rfl (by kernel_rfl) (by kernel_rfl) (by kernel_rfl) (fun _ _ _ h => h) (Or.inl ⟨by rfl, ?hy2z2⟩) (by assumption) ?rest2z2
        case hy2z2 => (intro w hSw; (try dsimp only at hSw); go_simp; try (with_reducible rfl))
        simp only [Act.put, List.setIfInBounds_toArray, List.set_cons_zero, List.set_cons_succ]
        refine wpAnyH_take (i := 3) (oi := { dst := some 75, op := Go.Op.load 185 (Go.Operand.tmp 74), type := 185, pos := "ckpt.go:43", after := #[{ on := 2, ground := Go.Ground.data }], guard := none }) (v := ?v2z3) rfl (by kernel_rfl) (by kernel_rfl) (by kernel_rfl) (fun _ _ _ h => h) (Or.inl ⟨by rfl, ?hy2z3⟩) (by assumption) ?rest2z3
        case hy2z3 => (intro w hSw; (try dsimp only at hSw); go_simp; try (with_reducible rfl))
        simp only [Act.put, List.setIfInBounds_toArray, List.set_cons_zero, List.set_cons_succ]
        refine wpAnyH_take (i := 4) (oi := { dst := some 76, op := Go.Op.load 61 (Go.Operand.tmp 13), type := 61, pos := "ckpt.go:43", after := #[], guard := none }) (v := ?v2z4) rfl (by kernel_rfl) (by kernel_rfl) (by kernel_rfl) (fun _ _ _ h => h) (Or.inl ⟨by rfl, ?hy2z4⟩) (by assumption) ?rest2z4
        case hy2z4 => (intro w hSw; (try dsimp only at hSw); go_simp; try (with_reducible rfl))
        simp only [Act.put, List.setIfInBounds_toArray, List.set_cons_zero, List.set_cons_succ]
        refine wpAnyH_take (i := 5) (oi := { dst := some 77, op := Go.Op.move (Go.Operand.tmp 14), type := 56, pos := "ckpt.go:43", after := #[], guard := none }) (v := ?v2z5) rfl (by kernel_rfl) (by kernel_rfl) (by kernel_rfl) (fun _ _ _ h => h) (Or.inl ⟨by rfl, ?hy2z5⟩) (by assumption) ?rest2z5
        case hy2z5 => (intro w hSw; (try dsimp only at hSw); go_simp; try (with_reducible rfl))
        simp only [Act.put, List.setIfInBounds_toArray, List.set_cons_zero, List.set_cons_succ]
        refine wpAnyH_ready (rs := [6]) (by kernel_rfl) (by simp) ?_
        refine AllReadyH.cons (o := { dst := none, op := Go.Op.mapUpdate 185 (Go.Operand.tmp 75) (Go.Operand.tmp 76) (Go.Operand.tmp 77), type := 0, pos := "ckpt.go:43", after := #[{ on := 3, ground := Go.Ground.data }, { on := 4, ground := Go.Ground.data }, { on := 5, ground := Go.Ground.data }, { on := 0, ground := Go.Ground.phase }, { on := 1, ground := Go.Ground.phase }, { on := 2, ground := Go.Ground.phase }, { on := 3, ground := Go.Ground.phase }, { on := 4, ground := Go.Ground.phase }, { on := 5, ground := Go.Ground.phase }], guard := none }) rfl (fun K hK => ?_) ?_
        ·
          refine step_store_is _ rfl (.tmp 75) (.tmp 76) (.tmp 77) 185 rfl idKey 56 (by kernel_rfl) mb _ (by rfl) HMz.out (⟨xb, xs, xp⟩ : Id3) (.slice A3 l.length c3) (by rfl) (by rfl) ?_
          intro w7 hm7 hg7 hs7
          have HM7 := Lib.hid hm7
          have HG7 := Lib.hid hg7
          have HCy := Lib.hid HCz.out
          have HSy := Lib.hid HSz.out
          have HCz := Lib.hid (HCy.out.grown hg7 (fun e => HMz.out.ne_cells HCy.out (by injection e with e; exact e.symm)))
          have HSz := Lib.hid (HSy.out.grown hg7 (fun e => HMz.out.ne_cells HSy.out (by injection e with e; exact e.symm)))
          clear hm7 hg7 hs7
          refine hK.out _ _ ?_ (fun hHeld => ?_)
          · (first | exact ⟨(HCz.out.cell 0).trans rfl, (HCz.out.cell 1).trans rfl, (HCz.out.cell 2).trans rfl, (HSz.out.cell 6).trans rfl⟩ | exact ⟨c0, c1, c2, c3'⟩ | go_keep)
          clear hK K
          try simp only [Act.put]
          refine wpAnyH_done (by kernel_rfl) ?_ _
          go_wp2_with fail
          have hld := hY.out.load (q := (⟨xb, xs, xp⟩, l)) HNn.out HB.out HO.out (Nat.le_refl _) HM7.out HG7.out
          rw [← HTk.out] at hld
          have HLd := Lib.hid hld.1
          have HF7 := Lib.hid (hF.out.trans hld.2 (fun k hk => .inl (by show w2.heap.size ≤ k; have := hmb.out; have e : k = mb := hk; omega)))
          clear hld
          go_roundg g
          case measure => omega
          case rel => exact ⟨i + 1, _, _, by omega, by go_num, rfl, rfl, HLd, HF7, Lib.hid (fun k hk => hk.elim (hQ.out k) (fun hk => .inr (by have h1 := HB2.out.size; have h2 := hF.out.size; omega)))⟩
        exact AllReadyH.nil
      · obtain rfl : gk = 0 := by omega
        obtain rfl : i = ps.length := by omega
        have hiI : ¬ (ps.length : Int) < (ps.length : Nat) := by omega
        have hY' := hY.out
        rw [List.take_length] at hY'
        have HYY := Lib.hid hY'
        clear hY' hY
        go_wp2_with fail
        go_ret2
        exact ⟨⟨sb, lb, mb, R, As, cs, zs, d.life, Q⟩, rfl, HYY.out, rfl, rfl, hQ.out, ext_trans HB2.out (hF.out.belowN (fun k hk hs => by omega))⟩
end
end Go.Proofs.YtipfoljmdeiggaaGreatDoor

/- The checkpoints' store: Open of a plan that is not right, Whole of the program. -/
namespace Go.Proofs.YtipfoljmdeiggaaGreatDoor
open Go.RowKit Go.Sort

def BadPost (code : Int) (w : World) (e : Ending) (w' : World) : Prop := ∃ v at_, e = .returned (.tuple #[.pointer none, v]) ∧ ErrAt w' v at_ code ∧ Below w.heap.size w w'
set_option maxRecDepth 100000 in
set_option maxHeartbeats 8000000 in
theorem ckOpen_bad (Bp : Nat) (p : PlanD) (A : Option Addr) (c : Nat) (dv : Value) (a : Nat) (code : Int) (w : World) (hp : checkD p = some (a, code)) (hops : RdS w (· < Bp) 5 A p.ops.length (opsC p.ops)) (hBp : Bp ≤ w.heap.size) :
    Calls Tryz.prog 21 #[dv, planV p A c] w (BadPost code w) := by
  have HO := Lib.hid hops
  have HC := Lib.hid hp
  clear hops hp
  go_enter Tryz.func21, Tryz.ntmps21
  go_wp2_with (first
    | (go_at_call 112; refine (check_c Bp p A c _ (HO.out.ext (ext_alloc (Below.refl _ _) _)) (Nat.le_trans hBp (by simp))).mono ?_; rintro e w1 hpost
       obtain ⟨v, rfl, hE, hb⟩ := hpost.2 a code HC.out
       obtain ⟨n7, hn7⟩ := hE.errN
       obtain ⟨T7, y7, rfl⟩ := hn7.iface
       have HE := Lib.hid hn7
       have HB := Lib.hid (ext_trans (ext_alloc (Below.refl w.heap.size w) _) hb)
       clear hpost hE hb hn7)
    | (go_at_call 113; refine (ckFault_c 0 n7 _ code _ HE.out).mono ?_; rintro e w8 ⟨v8, rfl, hE8, hb8⟩; have HE8 := Lib.hid hE8; have HB8 := Lib.hid (ext_trans HB.out hb8); clear hE8 hb8))
  go_ret2
  exact ⟨v8, 0, rfl, HE8.out, HB8.out⟩

/-- A checkpoint is whole when all its pieces are there. -/
def wholeD (p : PlanD) (ns : List Id3) (b : Int) : Bool := decide (1 ≤ b ∧ b ≤ 60) && (statesL p.ops).all fun s => (List.range p.parts.toNat).all fun m => decide ((⟨b, (s : Nat), (m : Nat)⟩ : Id3) ∈ ns)
theorem wholeD_iff {p : PlanD} {ns : List Id3} {b : Int} : wholeD p ns b = true ↔ (1 ≤ b ∧ b ≤ 60) ∧ ∀ s ∈ statesL p.ops, ∀ m : Nat, m < p.parts.toNat → (⟨b, (s : Nat), (m : Nat)⟩ : Id3) ∈ ns := by
  unfold wholeD
  simp only [Bool.and_eq_true, decide_eq_true_eq, List.all_eq_true, List.mem_range]
section
variable {B db : Nat} {X : CkX} {p : PlanD} {A : Option Addr} {c : Nat} {d : DiskD} {full ps : List (Id3 × List Rw)}
set_option maxRecDepth 100000 in
set_option maxHeartbeats 16000000 in
theorem ckWhole_c (b : Int) (w : World) (h : CkAt B db X p A c d full ps w) :
    Calls Tryz.prog 33 #[.pointer (some ⟨X.sb, 0, none⟩), .int .i64 b] w (BoolPost w (wholeD p (ps.map (·.1)) b)) := by
  have hp := shaped_check h.plan
  have hp1 := hp.p1
  have hp4 := hp.p4
  have hst := h.st_small.1
  have H := Lib.hid h
  have z5 : w.cell? ⟨X.sb, 5, none⟩ = some (.slice X.As (statesL p.ops).length X.cs) := (h.bk.cell 5).trans rfl
  have hl := h.bk.lt
  obtain ⟨r, hr⟩ : ∃ r, r = wholeD p (ps.map (·.1)) b := ⟨_, rfl⟩
  rw [← hr]
  have HR := Lib.hid hr
  clear h hp hr
  by_cases hb1 : 1 ≤ b
  · by_cases hb60 : b ≤ 60
    · obtain ⟨N, hN⟩ : ∃ N, N = (statesL p.ops).length := ⟨_, rfl⟩
      obtain ⟨M, hM⟩ : ∃ M, M = p.parts.toNat := ⟨_, rfl⟩
      have hpM : p.parts = (M : Nat) := by omega
      have HN := Lib.hid hN
      have HM := Lib.hid hM
      have hM8 : M ≤ 4 := by omega
      have hN12 : N ≤ 12 := by omega
      rw [← hN] at z5
      clear hN hM hst hp1 hp4
      go_enter Tryz.func33, Tryz.ntmps33
      go_wp2_with fail
      go_loopg [4, 19] N (fun gk v4 v19 wr => ∃ i : Nat, i + gk = N ∧ v19 = .int .i64 (i : Nat) ∧ v4 = .bool false ∧ Hid (∀ s ∈ (statesL p.ops).take i, ∀ m : Nat, m < M → (⟨b, (s : Nat), (m : Nat)⟩ : Id3) ∈ ps.map (·.1)) ∧ Below w.heap.size w wr)
      case atStart => exact ⟨0, by omega, rfl, rfl, Lib.hid (fun s hs => by cases hs), Below.refl _ _⟩
      case round =>
        obtain ⟨i, hik, rfl, rfl, hall, hb⟩ := hrel
        have HB := Lib.hid hb
        have HH := Lib.hid (H.out.ext hb)
        clear hb
        by_cases hi : i < N
        · have hiI : (i : Int) < (N : Nat) := by omega
          obtain ⟨st, hst⟩ : ∃ st, (statesL p.ops)[i]? = some st := ⟨_, List.getElem?_eq_getElem (by rw [← HN.out]; exact hi)⟩
          obtain ⟨sad, hsA, hsc⟩ := HH.out.st.cell (by rw [← HN.out]; omega)
          have d0 := hsc i (.int .i64 (st : Nat)) (by unfold intsC; rw [List.getElem?_map, hst]; rfl)
          have HsA := Lib.hid hsA
          rw [hsA]
          have y3 : wr.cell? ⟨X.sb, 3, none⟩ = some (.int .i64 (M : Nat)) := (HH.out.bk.cell 3).trans (by rw [← hpM]; rfl)
          have hwl := HH.out.bk.lt
          have HSt := Lib.hid hst
          clear hst hsc hsA
          obtain ⟨wo, rfl⟩ : ∃ wo : World, wo = wr := ⟨_, rfl⟩
          obtain ⟨go, rfl⟩ : ∃ go : Nat, go = gk := ⟨_, rfl⟩
          have hgo : 0 < go := by omega
          go_wp2_with fail
          go_loopg [4, 28] M (fun gk v4 v28 wr => ∃ q : Nat, q + gk = M ∧ v28 = .int .i64 (q : Nat) ∧ v4 = .bool false ∧ Hid (∀ m : Nat, m < q → (⟨b, (st : Nat), (m : Nat)⟩ : Id3) ∈ ps.map (·.1)) ∧ Below w.heap.size w wr)
          case atStart => exact ⟨0, by omega, rfl, rfl, Lib.hid (fun m hm => by omega), HB.out⟩
          case round =>
            obtain ⟨q, hqk, rfl, rfl, hsome, hb⟩ := hrel
            have HB2 := Lib.hid hb
            have HH2 := Lib.hid (H.out.ext hb)
            clear hb
            by_cases hq : q < M
            · have hqI : (q : Int) < (M : Nat) := by omega
              obtain ⟨u, hu⟩ : ∃ u, u = decide ((⟨b, (st : Nat), (q : Nat)⟩ : Id3) ∈ ps.map (·.1)) := ⟨_, rfl⟩
              have HHas := Lib.hid (ckHas_c (⟨b, (st : Nat), (q : Nat)⟩ : Id3) wr HH2.out)
              rw [← hu] at HHas
              have HU := Lib.hid hu
              clear hu
              cases u with
              | true =>
                go_wp2_with (first
                  | (go_at_call 34; refine HHas.out.mono ?_; rintro e w1 ⟨rfl, hb⟩; have HB3 := Lib.hid (ext_trans HB2.out hb); clear hb))
                go_roundg (gk - 1)
                case measure => omega
                case rel =>
                  refine ⟨q + 1, by omega, by go_num, rfl, Lib.hid (fun m hm => ?_), HB3.out⟩
                  by_cases hmq : m = q
                  · rw [hmq]
                    exact of_decide_eq_true HU.out.symm
                  · exact hsome.out m (by omega)
              | false =>
                have HF := Lib.hid (show r = false from by
                  rw [HR.out]
                  cases hw : wholeD p (ps.map (·.1)) b with
                  | false => rfl
                  | true => exact absurd ((wholeD_iff.1 hw).2 st (List.mem_of_getElem? HSt.out) q (by rw [← HM.out]; exact hq)) (of_decide_eq_false HU.out.symm))
                go_wp2_with (first
                  | (go_at_call 34; refine HHas.out.mono ?_; rintro e w1 ⟨rfl, hb⟩; have HB3 := Lib.hid (ext_trans HB2.out hb); clear hb))
                go_ret
                rw [HF.out]
                exact ⟨rfl, HB3.out⟩
            · obtain rfl : gk = 0 := by omega
              obtain rfl : q = M := by omega
              go_wp2_with fail
              rw [← HsA.out]
              go_roundg (go - 1)
              case measure => omega
              case rel =>
                refine ⟨i + 1, by omega, by go_num, rfl, Lib.hid (fun s hs => ?_), HB2.out⟩
                rw [take_succ_of HSt.out] at hs
                rcases List.mem_append.1 hs with hs | hs
                · exact hall.out s hs
                · rw [List.mem_singleton] at hs
                  rw [hs]
                  exact hsome.out
        · obtain rfl : gk = 0 := by omega
          obtain rfl : i = N := by omega
          have HF := Lib.hid (show r = true from by
            rw [HR.out]
            refine wholeD_iff.2 ⟨⟨hb1, hb60⟩, fun s hs m hm => hall.out s ?_ m (by rw [HM.out]; exact hm)⟩
            rw [HN.out, List.take_length]
            exact hs)
          go_wp2_with fail
          go_ret
          rw [HF.out]
          exact ⟨rfl, HB.out⟩
    · have HF := Lib.hid (show r = false from by
        rw [HR.out]
        cases hw : wholeD p (ps.map (·.1)) b with
        | false => rfl
        | true => exact absurd (wholeD_iff.1 hw).1.2 hb60)
      have hb60' : (60 : Int) < b := by omega
      go_enter Tryz.func33, Tryz.ntmps33
      go_wp2_with fail
      go_ret
      rw [HF.out]
      exact ⟨rfl, Below.refl _ _⟩
  · have HF := Lib.hid (show r = false from by
      rw [HR.out]
      cases hw : wholeD p (ps.map (·.1)) b with
      | false => rfl
      | true => exact absurd (wholeD_iff.1 hw).1.1 hb1)
    have hb1' : b < 1 := by omega
    go_enter Tryz.func33, Tryz.ntmps33
    go_wp2_with fail
    go_ret
    rw [HF.out]
    exact ⟨rfl, Below.refl _ _⟩
end
end Go.Proofs.YtipfoljmdeiggaaGreatDoor
