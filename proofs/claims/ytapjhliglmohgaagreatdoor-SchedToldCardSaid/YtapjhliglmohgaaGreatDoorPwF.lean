/- WayT, WayU, WayV, PlanC, WireP, Wire, WireB: laid together. -/
import Derived.Test.YtapjhliglmohgaaGreatDoorPwE
import Derived.Laws.EntriesVeiled
import Derived.Maps.OwnOps
import Derived.Laws.BitsAllLaws
/- The ways of a plan, in the program: Tree's closure, which reckons each piece once. -/
namespace Go.Proofs.YtapjhliglmohgaaGreatDoor
open Go.RowKit Go.Sort
def tw (p : PlanD) (y : Id3) : Nat := tD p.ops p.parts.toNat y.b.toNat y.s.toNat
theorem capS_append (n : Nat) (l m : List Nat) : capS n (l ++ m) = capS (capS n l) m := by unfold capS; rw [List.foldl_append]
theorem tw_needs {p : PlanD} (hp : Shaped p) {b s q : Nat} (hb : 1 ≤ b) (hs : s < p.ops.length) (hq : q < p.parts.toNat) (hk : keptAt p.ops s = true) :
 tD p.ops p.parts.toNat b s = capS 1 ((needsL p (b : Nat) s q).map (tw p)) := by
 obtain ⟨b, rfl⟩ : ∃ b', b = b' + 1 := ⟨b - 1, by omega⟩
 have hok : OpsOk p.ops := fun i o h => (hp.op i o h).2
 rw [tD_step hok hs hq hk]
 have h1 : ((ownL p.ops p.parts.toNat s q).map (pb ((b + 1 : Nat) : Int))).map (tw p) = (ownL p.ops p.parts.toNat s q).map fun y => tD p.ops p.parts.toNat (b + 1) y.1 := by
  rw [List.map_map]
  rfl
 unfold needsL
 rw [List.map_append, h1, capS_append]
 by_cases h : 0 < b ∧ isSt p.ops s = true
 · have h2 : (isSt p.ops s && decide ((1 : Int) < ((b + 1 : Nat) : Int))) = true := by rw [h.2]; simp; omega
   have h' : 0 < b ∧ ((p.ops[s]?).map fun o => decide (o.k = 8)).getD false = true := h
   rw [if_pos h', if_pos h2]
   show capA _ _ = capA _ (tw p _)
   congr 1
   unfold tw
   congr 1
   show b = (((b + 1 : Nat) : Int) - 1).toNat
   omega
 · have h2 : ¬ (isSt p.ops s && decide ((1 : Int) < ((b + 1 : Nat) : Int))) = true := by
     intro h3
     simp only [Bool.and_eq_true, decide_eq_true_eq] at h3
     exact h ⟨by omega, h3.1⟩
   have h' : ¬ (0 < b ∧ ((p.ops[s]?).map fun o => decide (o.k = 8)).getD false = true) := h
   rw [if_neg h', if_neg h2]
   rfl
theorem needs_ok {p : PlanD} (hp : Shaped p) {b s q : Nat} (hb : 1 ≤ b) (hs : s < p.ops.length) (hq : q < p.parts.toNat) (hk : keptAt p.ops s = true) {y : Id3} (hy : y ∈ needsL p (b : Nat) s q) :
 ∃ b' s' q' : Nat, y = ⟨(b' : Nat), (s' : Nat), (q' : Nat)⟩ ∧ 1 ≤ b' ∧ s' < p.ops.length ∧ q' < p.parts.toNat ∧ keptAt p.ops s' = true ∧ b' * 12 + s' < b * 12 + s ∧ b' ≤ b := by
 have hok : OpsOk p.ops := fun i o h => (hp.op i o h).2
 have hn := hp.n12
 unfold needsL at hy
 rcases List.mem_append.1 hy with hy | hy
 · obtain ⟨z, hz, rfl⟩ := List.mem_map.1 hy
   have h1 := ((own_mem hok s q z).1 hz).lt hok
   exact ⟨b, z.1, z.2, rfl, hb, by omega, by omega, h1.2.2, by omega, Nat.le_refl _⟩
 · split at hy
   · next h =>
     simp only [Bool.and_eq_true, decide_eq_true_eq] at h
     rw [List.mem_singleton] at hy
     refine ⟨b - 1, s, q, ?_, by omega, hs, hq, hk, by omega, by omega⟩
     rw [hy]
     congr 1
     omega
   · cases hy
theorem needs_len {p : PlanD} (hp : Shaped p) {b : Int} {s q : Nat} (hs : s < p.ops.length) (hq : q < p.parts.toNat) : (needsL p b s q).length ≤ 49 := by
 have h1 := (good_own hp hs hq).len
 unfold needsL
 rw [List.length_append, List.length_map]
 split <;> simp <;> omega
theorem zero_int (w : World) : (zeroValue 3).run Tryz.prog w = .ok (.int .i64 0) w := by kernel_rfl
structure TreeAt (B wb db dv wv ov : Nat) (R : Nat → Prop) (p : PlanD) (A K : Option Addr) (c kc : Nat) (es : List (Id3 × Value)) (w : World) : Prop where
 ways : WaysIs B wb R p A K c kc w
 dv_ : Bk w dv 110 #[.map (some db)]
 wv_ : Bk w wv 107 #[.pointer (some ⟨wb, 0, none⟩)]
 ov_ : Bk w ov 233 #[.func (Fn.func 174) #[] #[.pointer (some ⟨dv, 0, none⟩), .pointer (some ⟨wv, 0, none⟩), .pointer (some ⟨ov, 0, none⟩)]]
 map : MapIs idV w db es
 val : ∀ x v, (x, v) ∈ es → v = .int .i64 (tw p x : Nat)
 rd : ¬ R dv
 rw : ¬ R wv
 ro : ¬ R ov
 rm : ¬ R db
 bm : B ≤ db
def TreePost (B wb db dv wv ov : Nat) (R : Nat → Prop) (p : PlanD) (A K : Option Addr) (c kc : Nat) (t : Nat) (w : World) (e : Ending) (w' : World) : Prop :=
 ∃ (R' : Nat → Prop) (es' : List (Id3 × Value)), e = .returned (.int .i64 (t : Nat)) ∧ TreeAt B wb db dv wv ov R' p A K c kc es' w' ∧ Fr (fun k => R k ∨ k = db) w w' ∧ (∀ k, R' k → R k ∨ w.heap.size ≤ k)
section
variable {B wb db dv wv ov : Nat} {R R' S : Nat → Prop} {p : PlanD} {A K : Option Addr} {c kc : Nat} {es : List (Id3 × Value)} {w w' : World}
theorem TreeAt.ext (h : TreeAt B wb db dv wv ov R p A K c kc es w) (hb : Below w.heap.size w w') : TreeAt B wb db dv wv ov R p A K c kc es w' :=
 ⟨h.ways.ext hb, h.dv_.ext hb, h.wv_.ext hb, h.ov_.ext hb, h.map.ext hb, h.val, h.rd, h.rw, h.ro, h.rm, h.bm⟩
/-- A call of Needs. -/
theorem TreeAt.needs (h : TreeAt B wb db dv wv ov R p A K c kc es w) (hf : Fr R w w') (hW : WaysIs B wb R' p A K c kc w') (hR : ∀ k, R' k → R k ∨ w.heap.size ≤ k) : TreeAt B wb db dv wv ov R' p A K c kc es w' :=
 ⟨hW, h.dv_.fr hf h.rd, h.wv_.fr hf h.rw, h.ov_.fr hf h.ro, h.map.fr hf h.rm, h.val,
   fun hk => (hR _ hk).elim h.rd fun hl => by have := h.dv_.lt; omega, fun hk => (hR _ hk).elim h.rw fun hl => by have := h.wv_.lt; omega,
   fun hk => (hR _ hk).elim h.ro fun hl => by have := h.ov_.lt; omega, fun hk => (hR _ hk).elim h.rm fun hl => by have := h.map.lt; omega, h.bm⟩
theorem TreeAt.lay (h : TreeAt B wb db dv wv ov R p A K c kc es w) {x : Id3} (hg : w.grownBy w' (some db)) (hm : MapIs idV w' db (mset es x (.int .i64 (tw p x : Nat)))) : TreeAt B wb db dv wv ov R p A K c kc (mset es x (.int .i64 (tw p x : Nat))) w' := by
 have hf : Fr (fun k => k = db) w w' := Fr.map_ hg
 refine ⟨h.ways.fr hf (fun k hk e => h.rm (e ▸ hk)) (fun k hk e => by have := h.bm; omega), h.dv_.fr hf (fun e => h.map.ne_cells h.dv_ e.symm), h.wv_.fr hf (fun e => h.map.ne_cells h.wv_ e.symm), h.ov_.fr hf (fun e => h.map.ne_cells h.ov_ e.symm), hm, fun y v hy => ?_, h.rd, h.rw, h.ro, h.rm, h.bm⟩
 rcases mem_mset hy with ⟨rfl, rfl⟩ | hy
 · rfl
 · exact h.val y v hy
end
/-- Where the loop over what a piece needs stands. -/
structure TLoop (B wb db dv wv ov : Nat) (R R' : Nat → Prop) (p : PlanD) (A K : Option Addr) (c kc : Nat) (b s q : Nat) (A1 : Option Addr) (c1 : Nat) (l : List Id3) (w0 w2 : World) (Rj : Nat → Prop) (es : List (Id3 × Value)) (w : World) : Prop where
 T : TreeAt B wb db dv wv ov Rj p A K c kc es w
 lst : RdS w (fun k => (Value.slice A1 l.length c1).ownBlock = some k) 3 A1 l.length (idsC l)
 box : Bk w w0.heap.size 35 #[.int .i64 (b : Nat), .int .i64 (s : Nat), .int .i64 (q : Nat)]
 fr : Fr (fun k => R k ∨ k = db) w0 w
 sub : ∀ k, Rj k → R' k ∨ w2.heap.size ≤ k
 le : w2.heap.size ≤ w.heap.size
/-- What is asked ahead of the loop. -/
structure TFix (db : Nat) (R R' : Nat → Prop) (A1 : Option Addr) (c1 n : Nat) (w0 w2 : World) : Prop where
 le : w0.heap.size < w2.heap.size
 db : db < w0.heap.size
 r0 : ∀ k, R' k → R k ∨ w0.heap.size < k
 r1 : ∀ k, R k → k < w0.heap.size
 own : ∀ k, (Value.slice A1 n c1).ownBlock = some k → ¬ R' k ∧ w0.heap.size < k ∧ k < w2.heap.size
section
variable {B wb db dv wv ov : Nat} {R R' Rj Rk : Nat → Prop} {p : PlanD} {A A1 K : Option Addr} {c c1 kc b s q : Nat} {l : List Id3} {es es' : List (Id3 × Value)} {w0 w2 w w' : World}
theorem TLoop.ext (h : TLoop B wb db dv wv ov R R' p A K c kc b s q A1 c1 l w0 w2 Rj es w) (hb : Below w.heap.size w w') : TLoop B wb db dv wv ov R R' p A K c kc b s q A1 c1 l w0 w2 Rj es w' :=
 ⟨h.T.ext hb, h.lst.ext hb, h.box.ext hb, h.fr.ext hb, h.sub, Nat.le_trans h.le hb.size⟩
theorem TLoop.next (h : TLoop B wb db dv wv ov R R' p A K c kc b s q A1 c1 l w0 w2 Rj es w) (F : TFix db R R' A1 c1 l.length w0 w2) (hT : TreeAt B wb db dv wv ov Rk p A K c kc es' w') (hF : Fr (fun k => Rj k ∨ k = db) w w') (hR : ∀ k, Rk k → Rj k ∨ w.heap.size ≤ k) :
 TLoop B wb db dv wv ov R R' p A K c kc b s q A1 c1 l w0 w2 Rk es' w' := by
 have h0 := F.le
 have h1 := F.db
 have h2 := h.le
 refine ⟨hT, h.lst.fr hF (fun k hk hj => ?_), h.box.fr hF (fun hj => ?_), h.fr.trans hF (fun k hk => ?_), fun k hk => ?_, Nat.le_trans h.le hF.size⟩
 · obtain ⟨o1, o2, o3⟩ := F.own k hk
   rcases hj with hj | hj
   · rcases h.sub k hj with h3 | h3
     · exact o1 h3
     · omega
   · omega
 · rcases hj with hj | hj
   · rcases h.sub _ hj with h3 | h3
     · rcases F.r0 _ h3 with h4 | h4
       · have := F.r1 _ h4; omega
       · omega
     · omega
   · omega
 · rcases hk with hk | hk
   · rcases h.sub _ hk with h3 | h3
     · rcases F.r0 _ h3 with h4 | h4
       · exact .inl (.inl h4)
       · exact .inr (by omega)
     · exact .inr (by omega)
   · exact .inl (.inr hk)
 · rcases hR k hk with h3 | h3
   · exact h.sub k h3
   · exact .inr (by omega)
end
def PTree (m : Nat) : Prop := ∀ (B wb db dv wv ov : Nat) (R : Nat → Prop) (p : PlanD) (A K : Option Addr) (c kc : Nat) (es : List (Id3 × Value)) (b s q : Nat) (w : World), Shaped p → TreeAt B wb db dv wv ov R p A K c kc es w → 1 ≤ b → b ≤ 16 → s < p.ops.length → q < p.parts.toNat → keptAt p.ops s = true → b * 12 + s < m →
 Calls Tryz.prog 174 #[idV ⟨(b : Nat), (s : Nat), (q : Nat)⟩, .pointer (some ⟨dv, 0, none⟩), .pointer (some ⟨wv, 0, none⟩), .pointer (some ⟨ov, 0, none⟩)] w (TreePost B wb db dv wv ov R p A K c kc (tD p.ops p.parts.toNat b s) w)
set_option maxRecDepth 100000 in
set_option maxHeartbeats 4000000 in
theorem ptree_step (m : Nat) (hc : PTree m) : PTree (m + 1) := by
 intro B wb db dv wv ov R p A K c kc es b s q w hp hT hb1 hb16 hs hq hk hm
 have y0 : w.cell? ⟨dv, 0, none⟩ = some (.map (some db)) := (hT.dv_.cell 0).trans rfl
 have hdl := hT.dv_.lt
 have hwl := hT.wv_.lt
 have hol := hT.ov_.lt
 have hl := (hT.map.alloc (.cells #[.int .i64 (b : Nat), .int .i64 (s : Nat), .int .i64 (q : Nat)] 35)).lookup_ok idKey (t := 110) (e := 3) (by kernel_rfl) (zero_int _) ⟨(b : Nat), (s : Nat), (q : Nat)⟩
 cases hg : mget es ⟨(b : Nat), (s : Nat), (q : Nat)⟩ with
 | some v =>
   have hv := hT.val _ _ (mget_mem hg)
   subst hv
   rw [hg] at hl
   simp only [Option.isSome_some, Option.getD_some] at hl
   have HT := Lib.hid hT
   clear hT hp hc hg
   go_enter Tryz.func174, Tryz.ntmps174
   go_wp2_with fail
   go_ret
   exact ⟨R, es, rfl, HT.out.ext (ext_alloc (Below.refl _ _) _), Fr.refl.alloc _, fun k hk => .inl hk⟩
 | none =>
   rw [hg] at hl
   simp only [Option.isSome_none, Option.getD_none] at hl
   have HT := Lib.hid hT
   have HP := Lib.hid hp
   have HC := Lib.hid hc
   have HV := Lib.hid (tw_needs hp hb1 hs hq hk)
   have HOK := Lib.hid (fun y hy => needs_ok (y := y) hp hb1 hs hq hk hy)
   have hnl := needs_len (b := (b : Nat)) hp hs hq
   have HN := Lib.hid (needs_yes B wb R p A K c kc (b : Nat) s q)
   have w0 : w.cell? ⟨wv, 0, none⟩ = some (.pointer (some ⟨wb, 0, none⟩)) := (hT.wv_.cell 0).trans rfl
   obtain ⟨l, hll⟩ : ∃ l, l = needsL p (b : Nat) s q := ⟨_, rfl⟩
   rw [← hll] at HV HOK hnl HN
   clear hT hp hc hg hll
   go_enter Tryz.func174, Tryz.ntmps174
   go_wp2_with (first
    | (go_at_call 82; refine (HN.out _ (HT.out.ways.ext (ext_alloc (Below.refl _ _) _)) HP.out (by omega) (by omega) hs hq).mono ?_; rintro e w2 ⟨A1, c1, R', rfl, hown, hfr, hW, hR, hd⟩
       have HO2 := Lib.hid hown
       have HT2 := Lib.hid ((HT.out.ext (ext_alloc (Below.refl _ _) _)).needs hfr hW hR)
       have HF2 := Lib.hid ((Fr.refl.alloc (.cells #[.int .i64 (b : Nat), .int .i64 (s : Nat), .int .i64 (q : Nat)] 35)).trans hfr (fun k hk => .inl hk))
       have HR2 := Lib.hid (show ∀ k, R' k → R k ∨ w.heap.size < k from fun k hk => (hR k hk).imp id (fun h => by simp only [World.size_alloc] at h; omega))
       have HD2 := Lib.hid hd
       have HX2 := Lib.hid ((Bk.new w 35 #[.int .i64 (b : Nat), .int .i64 (s : Nat), .int .i64 (q : Nat)]).fr hfr (fun hR => by have := (HT.out.ways.bd _ hR).2; omega))
       clear hown hfr hW hR hd))
   have HFx := Lib.hid (show TFix db R R' A1 c1 l.length w w2 from ⟨HX2.out.lt, HT.out.map.lt, HR2.out, fun k hk => (HT.out.ways.bd k hk).2, fun k hk => ⟨HD2.out k hk, by have := HO2.out.lt k hk; simp only [World.size_alloc] at this; omega, (HO2.out.lt k hk).2⟩⟩)
   have HL := Lib.hid (show TLoop B wb db dv wv ov R R' p A K c kc b s q A1 c1 l w w2 R' es w2 from ⟨HT2.out, RdS.of_own HO2.out (fun k hk => hk), HX2.out, HF2.out.mono (fun k _ hk => .inl hk), fun k hk => .inl hk, Nat.le_refl _⟩)
   clear y0 hdl hwl hol hl w0
   go_loopg [8, 23] l.length (fun gk v8 v23 wr => ∃ (j n : Nat) (Rj : Nat → Prop) (ej : List (Id3 × Value)), j + gk = l.length ∧ v23 = .int .i64 (j : Nat) ∧ v8 = .int .i64 (n : Nat) ∧ n ≤ 4097 ∧ Hid (n = capS 1 ((l.take j).map (tw p))) ∧ TLoop B wb db dv wv ov R R' p A K c kc b s q A1 c1 l w w2 Rj ej wr)
   case atStart => exact ⟨0, 1, R', es, by omega, rfl, rfl, by omega, Lib.hid rfl, HL.out⟩
   case round =>
    obtain ⟨j, n, Rj, ej, hjk, rfl, rfl, hn, hnn, hL⟩ := hrel
    have HLw := Lib.hid hL
    have x0 : wr.cell? ⟨w.heap.size, 0, none⟩ = some (.int .i64 (b : Nat)) := (hL.box.cell 0).trans rfl
    have x1 : wr.cell? ⟨w.heap.size, 1, none⟩ = some (.int .i64 (s : Nat)) := (hL.box.cell 1).trans rfl
    have x2 : wr.cell? ⟨w.heap.size, 2, none⟩ = some (.int .i64 (q : Nat)) := (hL.box.cell 2).trans rfl
    have o0 : wr.cell? ⟨ov, 0, none⟩ = some (.func (Fn.func 174) #[] #[.pointer (some ⟨dv, 0, none⟩), .pointer (some ⟨wv, 0, none⟩), .pointer (some ⟨ov, 0, none⟩)]) := (hL.T.ov_.cell 0).trans rfl
    have y0 : wr.cell? ⟨dv, 0, none⟩ = some (.map (some db)) := (hL.T.dv_.cell 0).trans rfl
    have hol := hL.T.ov_.lt
    have hdl := hL.T.dv_.lt
    have hxl := hL.box.lt
    clear hL
    by_cases hj : j < l.length
    · have hy : l[j]? = some (l[j]) := List.getElem?_eq_getElem hj
      generalize l[j] = y at hy
      obtain ⟨b', s', q', rfl, h1, h2, h3, h4, h5, h6⟩ := HOK.out y (List.mem_of_getElem? hy)
      obtain ⟨ad, rfl, d0, d1, d2⟩ := (HLw.out.lst.rd (e := 35) (Nat.le_refl _)).ids hy hj
      have hadl := World.block_lt_of_cell? wr _ d0
      obtain ⟨t, ht⟩ : ∃ t, t = tD p.ops p.parts.toNat b' s' := ⟨_, rfl⟩
      have htl : t ≤ 4097 := by rw [ht]; exact tD_le _ _
      have HS := Lib.hid (show capS 1 ((l.take (j + 1)).map (tw p)) = capA n t from (by rw [take_succ_of hy, List.map_append, capS_append, ← hnn.out, ht]; rfl))
      have HC' := Lib.hid (HC.out B wb db dv wv ov Rj p A K c kc ej b' s' q')
      rw [← ht] at HC'
      clear hy ht
      by_cases hc4 : 4097 < n + t
      · have hc4' : (4097 : Int) < (n : Int) + (t : Int) := by omega
        have HM := Lib.hid (show capA n t = 4097 from by unfold capA; omega)
        go_wp2_with (first
         | (go_at_call 174; refine (HC'.out _ HP.out (HLw.out.ext (ext_alloc (Below.refl _ _) _)).T h1 (by omega) h2 h3 h4 (by omega)).mono ?_; rintro e w3 ⟨R3, e3, rfl, hT3, hF3, hR3⟩
            have HL3 := Lib.hid ((HLw.out.ext (ext_alloc (Below.refl _ _) _)).next HFx.out hT3 hF3 hR3)
            clear hT3 hF3 hR3))
        go_roundg (gk - 1)
        case measure => omega
        case rel => exact ⟨j + 1, 4097, R3, e3, by omega, by go_num, rfl, by omega, Lib.hid (by rw [HS.out, HM.out]), HL3.out⟩
      · have hc4' : ¬ (4097 : Int) < (n : Int) + (t : Int) := by omega
        have HM := Lib.hid (show capA n t = n + t from by unfold capA; omega)
        go_wp2_with (first
         | (go_at_call 174; refine (HC'.out _ HP.out (HLw.out.ext (ext_alloc (Below.refl _ _) _)).T h1 (by omega) h2 h3 h4 (by omega)).mono ?_; rintro e w3 ⟨R3, e3, rfl, hT3, hF3, hR3⟩
            have HL3 := Lib.hid ((HLw.out.ext (ext_alloc (Below.refl _ _) _)).next HFx.out hT3 hF3 hR3)
            clear hT3 hF3 hR3))
        go_roundg (gk - 1)
        case measure => omega
        case rel => exact ⟨j + 1, n + t, R3, e3, by omega, by go_num, by go_num, by omega, Lib.hid (by rw [HS.out, HM.out]), HL3.out⟩
    · have hjl : j = l.length := by omega
      subst hjl
      have hn' := hnn.out
      rw [List.take_length, ← HV.out] at hn'
      have HNN := Lib.hid hn'
      obtain ⟨w3, hrun3, hm3, hg3, hs3⟩ := (HLw.out.T.map).store idKey Tryz.underlying110 ⟨(b : Nat), (s : Nat), (q : Nat)⟩ (.int .i64 (n : Nat))
      have HT3 := Lib.hid (show TreeAt B wb db dv wv ov Rj p A K c kc (mset ej ⟨(b : Nat), (s : Nat), (q : Nat)⟩ (.int .i64 (n : Nat))) w3 from (by
       have h1 := HLw.out.T.lay (x := ⟨(b : Nat), (s : Nat), (q : Nat)⟩) hg3 (by
        rw [show tw p ⟨(b : Nat), (s : Nat), (q : Nat)⟩ = n from by rw [hn']; rfl]
        exact hm3)
       rw [show tw p ⟨(b : Nat), (s : Nat), (q : Nat)⟩ = n from by rw [hn']; rfl] at h1
       exact h1))
      have HF3 := Lib.hid (show Fr (fun k => R k ∨ k = db) w w3 from HLw.out.fr.grown hg3 (fun k hk => .inl (.inr (by injection hk with hk; exact hk.symm))))
      simp only [idV] at hrun3
      clear hn' hm3 hg3 hs3
      go_wp2_with fail
      go_ret
      rw [← HNN.out]
      refine ⟨Rj, _, rfl, HT3.out, HF3.out, fun k hk => ?_⟩
      rcases HLw.out.sub k hk with h | h
      · exact (HFx.out.r0 k h).imp id Nat.le_of_lt
      · have := HFx.out.le
        exact .inr (by omega)
theorem ptree_all : ∀ m, PTree m
 | 0 => fun _ _ _ _ _ _ _ _ _ _ _ _ _ _ _ _ _ _ _ _ _ _ _ _ h => absurd h (Nat.not_lt_zero _)
 | m + 1 => ptree_step m (ptree_all m)
end Go.Proofs.YtapjhliglmohgaaGreatDoor
/- The ways of a plan, in the program: Tree. -/
namespace Go.Proofs.YtapjhliglmohgaaGreatDoor
open Go.RowKit Go.Sort
theorem rangeT_succ {α : Type} (f : Nat → α) (i : Nat) : (List.range (i + 1)).map f = (List.range i).map f ++ [f i] := by rw [List.range_succ, List.map_append]; rfl
theorem batT_row {p : PlanD} {b : Nat} (hb : 1 ≤ b) : (batT p.ops p.parts.toNat b).getD [] = (List.range p.ops.length).map (tD p.ops p.parts.toNat b) := by
 obtain ⟨b, rfl⟩ : ∃ b', b = b' + 1 := ⟨b - 1, by omega⟩
 apply List.ext_getElem?
 intro i
 show (rowT p.ops p.parts.toNat (batT p.ops p.parts.toNat b) p.ops.length)[i]? = _
 have hl := rowT_len (ops := p.ops) (parts := p.parts.toNat) (batT p.ops p.parts.toNat b) p.ops.length
 rcases Nat.lt_or_ge i p.ops.length with h | h
 · rw [List.getElem?_eq_getElem (by rw [hl]; exact h)]
   simp only [List.getElem?_map, List.getElem?_range h, Option.map_some, Option.some.injEq]
   show _ = (rowT p.ops p.parts.toNat (batT p.ops p.parts.toNat b) p.ops.length).getD i 0
   rw [List.getD_eq_getElem?_getD, List.getElem?_eq_getElem (by rw [hl]; exact h)]
   rfl
 · rw [List.getElem?_eq_none (by rw [hl]; exact h), List.getElem?_eq_none (by simp; exact h)]
def TreeP (B wb : Nat) (R : Nat → Prop) (p : PlanD) (A K : Option Addr) (c kc : Nat) (t : Nat) (w : World) (e : Ending) (w' : World) : Prop :=
 ∃ R' : Nat → Prop, e = .returned (.int .i64 (t : Nat)) ∧ WaysIs B wb R' p A K c kc w' ∧ Fr R w w' ∧ (∀ k, R' k → R k ∨ w.heap.size ≤ k)
/-- Where Tree's loops stand. -/
structure UInv (B wb db dv wv ov : Nat) (R : Nat → Prop) (p : PlanD) (A K : Option Addr) (c kc : Nat) (w0 : World) (Rj : Nat → Prop) (es : List (Id3 × Value)) (w : World) : Prop where
 T : TreeAt B wb db dv wv ov Rj p A K c kc es w
 fr : Fr R w0 w
 sub : ∀ k, Rj k → R k ∨ w0.heap.size ≤ k
 db : w0.heap.size ≤ db
section
variable {B wb db dv wv ov : Nat} {R R' Rj Rk : Nat → Prop} {p : PlanD} {A K : Option Addr} {c kc : Nat} {es es' : List (Id3 × Value)} {w0 w w' : World}
theorem UInv.ext (h : UInv B wb db dv wv ov R p A K c kc w0 Rj es w) (hb : Below w.heap.size w w') : UInv B wb db dv wv ov R p A K c kc w0 Rj es w' := ⟨h.T.ext hb, h.fr.ext hb, h.sub, h.db⟩
theorem UInv.next (h : UInv B wb db dv wv ov R p A K c kc w0 Rj es w) (hT : TreeAt B wb db dv wv ov Rk p A K c kc es' w') (hF : Fr (fun k => Rj k ∨ k = db) w w') (hR : ∀ k, Rk k → Rj k ∨ w.heap.size ≤ k) : UInv B wb db dv wv ov R p A K c kc w0 Rk es' w' :=
 ⟨hT, h.fr.trans hF (fun k hk => by
   rcases hk with hk | hk
   · exact h.sub k hk
   · have := h.db; exact .inr (by omega)), fun k hk => by
   rcases hR k hk with h1 | h1
   · exact h.sub k h1
   · have := h.fr.size; exact .inr (by omega), h.db⟩
end
set_option maxRecDepth 100000 in
set_option maxHeartbeats 4000000 in
theorem tree_c (B wb : Nat) (R : Nat → Prop) (p : PlanD) (A K : Option Addr) (c kc N : Nat) (w : World) (h : WaysIs B wb R p A K c kc w) (hp : Shaped p) (hN1 : 1 ≤ N) (hN : N ≤ 16) :
 Calls Tryz.prog 137 #[.pointer (some ⟨wb, 0, none⟩), .int .i64 (N : Nat)] w (TreeP B wb R p A K c kc (treeD p.ops p.parts.toNat N) w) := by
 have hmm := @run_makeMap Tryz.prog
 have HW := Lib.hid h
 have HP := Lib.hid hp
 have hn12 := hp.n12
 have hp4 := hp.p4
 have hp1 := hp.p1
 have HD := Lib.hid (show treeD p.ops p.parts.toNat N = maxL ((List.range p.ops.length).map (tD p.ops p.parts.toNat N)) from (by unfold treeD; rw [batT_row hN1]))
 obtain ⟨mb, es0, h0⟩ := h
 have z0 : w.cell? ⟨wb, 0, none⟩ = some (.slice K p.ops.length kc) := (h0.bk.cell 0).trans rfl
 have hwl := h0.bk.lt
 have hBw := (h0.bd _ h0.rw).1
 have hRl := Lib.hid (fun k hk => (h0.bd k hk).2)
 clear h0 hp
 go_enter Tryz.func137, Tryz.ntmps137
 go_upto_region 5 with fail
 have HU := Lib.hid (show UInv B wb (w.heap.size + 1) (w.heap.size + 1 + 1) w.heap.size (w.heap.size + 1 + 1 + 1) R p A K c kc w R [] ((((w.alloc (.cells #[.pointer (some ⟨wb, 0, none⟩)] 107)).alloc (.map #[] 0)).alloc (.cells #[.map (some (w.heap.size + 1))] 110)).alloc (.cells #[.func (Fn.func 174) #[] #[.pointer (some ⟨w.heap.size + 1 + 1, 0, none⟩), .pointer (some ⟨w.heap.size, 0, none⟩), .pointer (some ⟨w.heap.size + 1 + 1 + 1, 0, none⟩)]] 233)) from
  ⟨⟨HW.out.ext (by repeat (first | exact Below.refl _ _ | refine ext_alloc ?_ _)), (Bk.newAt (by simp)).alloc _, (((Bk.new _ _ _).alloc _).alloc _).alloc _, Bk.newAt (by simp), ((by have := MapIs.made idV (w.alloc (.cells #[.pointer (some ⟨wb, 0, none⟩)] 107)); simpa using this : MapIs idV ((w.alloc (.cells #[.pointer (some ⟨wb, 0, none⟩)] 107)).alloc (.map #[] 0)) (w.heap.size + 1) []).alloc _).alloc _, (fun _ _ h => by cases h),
    fun hk => by have := hRl.out _ hk; omega, fun hk => by have := hRl.out _ hk; omega, fun hk => by have := hRl.out _ hk; omega, fun hk => by have := hRl.out _ hk; omega, by omega⟩,
    Fr.of_below (by repeat (first | exact Below.refl _ _ | refine ext_alloc ?_ _)), fun k hk => .inl hk, by omega⟩)
 generalize ((((w.alloc (.cells #[.pointer (some ⟨wb, 0, none⟩)] 107)).alloc (.map #[] 0)).alloc (.cells #[.map (some (w.heap.size + 1))] 110)).alloc (.cells #[.func (Fn.func 174) #[] #[.pointer (some ⟨w.heap.size + 1 + 1, 0, none⟩), .pointer (some ⟨w.heap.size, 0, none⟩), .pointer (some ⟨w.heap.size + 1 + 1 + 1, 0, none⟩)]] 233)) = w1 at HU ⊢
 generalize w.heap.size + 1 + 1 + 1 = ov at HU ⊢
 generalize w.heap.size + 1 + 1 = dv at HU ⊢
 generalize w.heap.size + 1 = db at HU
 generalize hwv : w.heap.size = wv at HU ⊢
 have HWV := Lib.hid hwv
 have u0 : w1.cell? ⟨wv, 0, none⟩ = some (.pointer (some ⟨wb, 0, none⟩)) := (HU.out.T.wv_.cell 0).trans rfl
 have u1 : w1.cell? ⟨wb, 0, none⟩ = some (.slice K p.ops.length kc) := by
  obtain ⟨mb1, es1, h1⟩ := HU.out.T.ways
  exact (h1.bk.cell 0).trans rfl
 have hwvl := HU.out.T.wv_.lt
 have hwbl : wb < w1.heap.size := Nat.lt_of_lt_of_le hwl HU.out.fr.size
 clear z0 hwv hmm hwl
 go_wp2_with fail
 clear u0 u1 hwvl hwbl
 go_loopg [7, 18] p.ops.length (fun gk v7 v18 wr => ∃ (i : Nat) (Rj : Nat → Prop) (ej : List (Id3 × Value)), i + gk = p.ops.length ∧ v18 = .int .i64 (i : Nat) ∧ v7 = .int .i64 (maxL ((List.range i).map (tD p.ops p.parts.toNat N)) : Nat) ∧ UInv B wb db dv wv ov R p A K c kc w Rj ej wr)
 case atStart => exact ⟨0, R, [], by omega, rfl, rfl, HU.out⟩
 case round =>
  obtain ⟨i, Rj, ej, hik, rfl, rfl, hU⟩ := hrel
  have HUw := Lib.hid hU
  obtain ⟨M, hM⟩ : ∃ M, M = maxL ((List.range i).map (tD p.ops p.parts.toNat N)) := ⟨_, rfl⟩
  rw [← hM]
  obtain ⟨mb1, es1, h1⟩ := hU.T.ways
  have u0 : wr.cell? ⟨wv, 0, none⟩ = some (.pointer (some ⟨wb, 0, none⟩)) := (hU.T.wv_.cell 0).trans rfl
  have u1 : wr.cell? ⟨wb, 1, none⟩ = some (.int .i64 p.parts) := (h1.bk.cell 1).trans rfl
  have u2 : wr.cell? ⟨ov, 0, none⟩ = some (.func (Fn.func 174) #[] #[.pointer (some ⟨dv, 0, none⟩), .pointer (some ⟨wv, 0, none⟩), .pointer (some ⟨ov, 0, none⟩)]) := (hU.T.ov_.cell 0).trans rfl
  have hwvl := hU.T.wv_.lt
  have hwbl := h1.bk.lt
  have hovl := hU.T.ov_.lt
  have HK1 := Lib.hid (h1.kept.rd (e := 4) (Nat.le_refl _))
  clear hU h1
  by_cases hi : i < p.ops.length
  · obtain ⟨kad, rfl, k0⟩ := kept_cell HK1.out hi hi
    have hkl := World.block_lt_of_cell? wr _ k0
    have HMS := Lib.hid (show maxL ((List.range (i + 1)).map (tD p.ops p.parts.toNat N)) = max M (tD p.ops p.parts.toNat N i) from (by rw [rangeT_succ, maxL_snoc, hM]))
    clear hM
    cases hk : keptAt p.ops i with
    | false =>
      rw [hk] at k0
      have HE := Lib.hid (show max M (tD p.ops p.parts.toNat N i) = M from (by rw [tD_no hk]; exact Nat.max_eq_left (Nat.zero_le _)))
      clear hk
      obtain ⟨wo, rfl⟩ : ∃ wo : World, wo = wr := ⟨_, rfl⟩
      obtain ⟨go, rfl⟩ : ∃ go : Nat, go = gk := ⟨_, rfl⟩
      go_wp2_with fail
      clear u0 u1 u2 hwvl hwbl hovl hkl HK1 k0
      go_loopg [7, 28] p.parts.toNat (fun gk v7 v28 wr => ∃ (m : Nat) (Rm : Nat → Prop) (em : List (Id3 × Value)), m + gk = p.parts.toNat ∧ v28 = .int .i64 (m : Nat) ∧ v7 = .int .i64 ((M : Nat)) ∧ UInv B wb db dv wv ov R p A (some kad) c kc w Rm em wr)
      case atStart => exact ⟨0, Rj, ej, by omega, rfl, rfl, HUw.out⟩
      case round =>
       obtain ⟨m, Rm, em, hmk, rfl, rfl, hU⟩ := hrel
       have HUv := Lib.hid hU
       obtain ⟨mb1, es1, h1⟩ := hU.T.ways
       have u0 : wr.cell? ⟨wv, 0, none⟩ = some (.pointer (some ⟨wb, 0, none⟩)) := (hU.T.wv_.cell 0).trans rfl
       have u1 : wr.cell? ⟨wb, 1, none⟩ = some (.int .i64 p.parts) := (h1.bk.cell 1).trans rfl
       have u2 : wr.cell? ⟨ov, 0, none⟩ = some (.func (Fn.func 174) #[] #[.pointer (some ⟨dv, 0, none⟩), .pointer (some ⟨wv, 0, none⟩), .pointer (some ⟨ov, 0, none⟩)]) := (hU.T.ov_.cell 0).trans rfl
       have hwvl := hU.T.wv_.lt
       have hwbl := h1.bk.lt
       have hovl := hU.T.ov_.lt
       clear hU h1
       by_cases hm : m < p.parts.toNat
       · have hmi : (m : Int) < p.parts := by omega
         have um : decide ((m : Int) < p.parts) = true := decide_eq_true hmi
         go_wp2_with fail
         go_roundg (gk - 1)
         case measure => omega
         case rel => exact ⟨m + 1, Rm, em, by omega, by go_num, rfl, HUv.out⟩
       · have hme : m = p.parts.toNat := by omega
         subst hme
         have hmi : ¬ ((p.parts.toNat : Nat) : Int) < p.parts := by omega
         have um : decide (((p.parts.toNat : Nat) : Int) < p.parts) = false := decide_eq_false hmi
         go_wp2_with fail
         go_roundg (go - 1)
         case measure => omega
         case rel => exact ⟨i + 1, Rm, em, by omega, by go_num, by rw [HMS.out, HE.out], HUv.out⟩
    | true =>
      rw [hk] at k0
      have HK := Lib.hid hk
      clear hk
      obtain ⟨wo, rfl⟩ : ∃ wo : World, wo = wr := ⟨_, rfl⟩
      obtain ⟨go, rfl⟩ : ∃ go : Nat, go = gk := ⟨_, rfl⟩
      go_wp2_with fail
      clear u0 u1 u2 hwvl hwbl hovl hkl HK1 k0
      go_loopg [7, 28] p.parts.toNat (fun gk v7 v28 wr => ∃ (m : Nat) (Rm : Nat → Prop) (em : List (Id3 × Value)), m + gk = p.parts.toNat ∧ v28 = .int .i64 (m : Nat) ∧ v7 = .int .i64 ((if 0 < m then max M (tD p.ops p.parts.toNat N i) else M : Nat)) ∧ UInv B wb db dv wv ov R p A (some kad) c kc w Rm em wr)
      case atStart => exact ⟨0, Rj, ej, by omega, rfl, rfl, HUw.out⟩
      case round =>
       obtain ⟨m, Rm, em, hmk, rfl, rfl, hU⟩ := hrel
       have HUv := Lib.hid hU
       obtain ⟨mb1, es1, h1⟩ := hU.T.ways
       have u0 : wr.cell? ⟨wv, 0, none⟩ = some (.pointer (some ⟨wb, 0, none⟩)) := (hU.T.wv_.cell 0).trans rfl
       have u1 : wr.cell? ⟨wb, 1, none⟩ = some (.int .i64 p.parts) := (h1.bk.cell 1).trans rfl
       have u2 : wr.cell? ⟨ov, 0, none⟩ = some (.func (Fn.func 174) #[] #[.pointer (some ⟨dv, 0, none⟩), .pointer (some ⟨wv, 0, none⟩), .pointer (some ⟨ov, 0, none⟩)]) := (hU.T.ov_.cell 0).trans rfl
       have hwvl := hU.T.wv_.lt
       have hwbl := h1.bk.lt
       have hovl := hU.T.ov_.lt
       clear hU h1
       by_cases hm : m < p.parts.toNat
       · have hmi : (m : Int) < p.parts := by omega
         have um : decide ((m : Int) < p.parts) = true := decide_eq_true hmi
         obtain ⟨M1, hM1⟩ : ∃ M1, M1 = (if 0 < m then max M (tD p.ops p.parts.toNat N i) else M) := ⟨_, rfl⟩
         rw [← hM1]
         have HE := Lib.hid (show (if 0 < m + 1 then max M (tD p.ops p.parts.toNat N i) else M) = max M1 (tD p.ops p.parts.toNat N i) from (by
          rw [if_pos (by omega), hM1]
          split
          · omega
          · rfl))
         have HC := Lib.hid (ptree_all (N * 12 + i + 1) B wb db dv wv ov Rm p A (some kad) c kc em N i m wr HP.out HUv.out.T hN1 hN hi hm HK.out (Nat.lt_succ_self _))
         obtain ⟨t, ht⟩ : ∃ t, t = tD p.ops p.parts.toNat N i := ⟨_, rfl⟩
         have htl : t ≤ 4097 := by rw [ht]; exact tD_le _ _
         rw [← ht] at HE HC
         have HTt := Lib.hid ht
         clear hM1 ht
         by_cases hMt : (M1 : Int) < (t : Int)
         · have HM := Lib.hid (show max M1 t = t by omega)
           go_wp2_with (first
            | (go_at_call 174; refine HC.out.mono ?_; rintro e w3 ⟨R3, e3, rfl, hT3, hF3, hR3⟩
               have HU3 := Lib.hid (HUv.out.next hT3 hF3 hR3)
               clear hT3 hF3 hR3))
           go_roundg (gk - 1)
           case measure => omega
           case rel => exact ⟨m + 1, R3, e3, by omega, by go_num, by rw [← HTt.out, HE.out, HM.out], HU3.out⟩
         · have HM := Lib.hid (show max M1 t = M1 by omega)
           go_wp2_with (first
            | (go_at_call 174; refine HC.out.mono ?_; rintro e w3 ⟨R3, e3, rfl, hT3, hF3, hR3⟩
               have HU3 := Lib.hid (HUv.out.next hT3 hF3 hR3)
               clear hT3 hF3 hR3))
           go_roundg (gk - 1)
           case measure => omega
           case rel => exact ⟨m + 1, R3, e3, by omega, by go_num, by rw [← HTt.out, HE.out, HM.out], HU3.out⟩
       · have hme : m = p.parts.toNat := by omega
         subst hme
         have hmi : ¬ ((p.parts.toNat : Nat) : Int) < p.parts := by omega
         have um : decide (((p.parts.toNat : Nat) : Int) < p.parts) = false := decide_eq_false hmi
         go_wp2_with fail
         go_roundg (go - 1)
         case measure => omega
         case rel => exact ⟨i + 1, Rm, em, by omega, by go_num, by rw [HMS.out], HUv.out⟩
  · have hin : i = p.ops.length := by omega
    subst hin
    rw [← HD.out] at hM
    subst hM
    go_wp2_with fail
    go_ret
    exact ⟨Rj, rfl, HUw.out.T.ways, HUw.out.fr, HUw.out.sub⟩
end Go.Proofs.YtapjhliglmohgaaGreatDoor
/- The ways of a plan, in the program: New. -/
namespace Go.Proofs.YtapjhliglmohgaaGreatDoor
open Go.RowKit Go.Sort
def NewPost (B : Nat) (p : PlanD) (A : Option Addr) (c : Nat) (w : World) (e : Ending) (w' : World) : Prop :=
 ∃ (wb : Nat) (K : Option Addr) (kc : Nat) (R : Nat → Prop), e = .returned (.pointer (some ⟨wb, 0, none⟩)) ∧ WaysIs B wb R p A K c kc w' ∧ Below w.heap.size w w' ∧ (∀ k, R k → w.heap.size ≤ k)
/-- Where New stands: the row of what is kept is l. -/
structure VInv (B : Nat) (p : PlanD) (A : Option Addr) (c : Nat) (w0 : World) (wb g mb : Nat) (l : List Bool) (w : World) : Prop where
 bk : Bk w wb 174 #[.slice (some ⟨g, 0, none⟩) p.ops.length p.ops.length, .int .i64 p.parts, .slice A p.ops.length c, .map (some mb)]
 own : w.ownsRow w0.heap.size 4 1 (.slice (some ⟨g, 0, none⟩) p.ops.length p.ops.length) p.ops.length (boolsC l)
 map : MapIs idV w mb []
 bel : Below w0.heap.size w0 w
 wb0 : w0.heap.size ≤ wb
 mb0 : w0.heap.size ≤ mb
section
variable {B : Nat} {p : PlanD} {A : Option Addr} {c : Nat} {w0 w w' : World} {wb g mb : Nat} {l : List Bool}
theorem VInv.ext (h : VInv B p A c w0 wb g mb l w) (hb : Below w.heap.size w w') : VInv B p A c w0 wb g mb l w' := ⟨h.bk.ext hb, own_ext h.own hb, h.map.ext hb, h.bel.trans (hb.mono h.bel.size), h.wb0, h.mb0⟩
theorem VInv.set_ (h : VInv B p A c w0 wb g mb l w) (i : Nat) (b : Bool) : VInv B p A c w0 wb g mb (l.set i b) (w.setCell ⟨g, i, none⟩ (.bool b)) := by
 obtain ⟨cs, hbk⟩ := own_blk h.own
 refine ⟨h.bk.far (h.bk.ne_ hbk (by decide)) _, ?_, h.map.setCell _ _, h.bel.setCell (by have := (h.own.lt g rfl).1; exact this) _, h.wb0, h.mb0⟩
 rw [← boolsC_set]
 exact own_set h.own i (.bool b)
end
structure VBox (B : Nat) (p : PlanD) (A : Option Addr) (c : Nat) (w0 : World) (wb g mb : Nat) (bx : Nat) (o : OpD) (l : List Bool) (w : World) : Prop where
 V : VInv B p A c w0 wb g mb l w
 op : Bk w bx 48 #[.int .i64 o.k, .int .i64 o.a, .int .i64 o.b, .int .i64 o.f, .int .i64 o.c]
 pl : Bk w w0.heap.size 24 #[.int .i64 p.parts, .slice A p.ops.length c]
section
variable {B : Nat} {p : PlanD} {A : Option Addr} {c : Nat} {w0 w w' : World} {wb g mb bx : Nat} {o : OpD} {l : List Bool}
theorem VBox.set_ (h : VBox B p A c w0 wb g mb bx o l w) (i : Nat) (b : Bool) {ad : Addr} (had : ad = ⟨g, 0, none⟩) : VBox B p A c w0 wb g mb bx o (l.set i b) ((w.setCell (ad.add i) (.bool b)).drew) := by
 obtain ⟨cs, hbk⟩ := own_blk h.V.own
 rw [adr1 had]
 exact ⟨(h.V.set_ i b).ext (Below.drew (Below.refl _ _)), (h.op.far (p := ⟨g, i, none⟩) (h.op.ne_ hbk (by decide)) _).drew, (h.pl.far (p := ⟨g, i, none⟩) (h.pl.ne_ hbk (by decide)) _).drew⟩
end
theorem VBox.facts {B : Nat} {p : PlanD} {A : Option Addr} {c : Nat} {w0 w : World} {wb g mb bx : Nat} {o : OpD} {l : List Bool} (h : VBox B p A c w0 wb g mb bx o l w) {ad : Addr} (had : ad = ⟨g, 0, none⟩) (hl : l.length = p.ops.length) :
 w.cell? ⟨wb, 0, none⟩ = some (.slice (some ad) p.ops.length p.ops.length) ∧ w.cell? ⟨bx, 0, none⟩ = some (.int .i64 o.k) ∧ w.cell? ⟨bx, 1, none⟩ = some (.int .i64 o.a) ∧ w.cell? ⟨bx, 2, none⟩ = some (.int .i64 o.b) ∧
 (∀ i b, l[i]? = some b → w.cell? (ad.add i) = some (.bool b)) ∧ (∀ i, w.frozen? (ad.add i) = false) ∧ wb < w.heap.size ∧ bx < w.heap.size ∧ (∀ i, (ad.add i).block < w.heap.size) := by
 refine ⟨by rw [had]; exact (h.V.bk.cell 0).trans rfl, (h.op.cell 0).trans rfl, (h.op.cell 1).trans rfl, (h.op.cell 2).trans rfl, fun i b hi => ?_, fun i => ?_, h.V.bk.lt, h.op.lt, fun i => ?_⟩
 · have hi' := (List.getElem?_eq_some_iff.1 hi).1
   rw [adr1 had, h.V.own.cellAt i (by omega)]
   unfold boolsC
   rw [List.getElem?_map, hi]
   rfl
 · rw [adr1 had]; exact own_frozen h.V.own i
 · rw [adr1 had]; exact (h.V.own.lt g rfl).2
theorem kL_get' {ops : List OpD} {last : Bool} {j x : Nat} (h : x < ops.length) : ∃ b, (kL ops last j)[x]? = some b := ⟨_, kL_get h⟩
/-- One operation, in the program's order. -/
theorem kStep_eq {o : OpD} {j : Nat} {l : List Bool} {b : Bool} (hb : l[j]? = some b) : kStep o j l = (let l1 := l.set j (b || decide (o.k = 8)); if wide o.k = true then (if two o.k = true then (l1.set o.a.toNat true).set o.b.toNat true else l1.set o.a.toNat true) else l1) := by
 unfold kStep
 have hj : j < l.length := (List.getElem?_eq_some_iff.1 hb).1
 have h1 : (if o.k = 8 then l.set j true else l) = l.set j (b || decide (o.k = 8)) := by
  by_cases h8 : o.k = 8
  · rw [if_pos h8, decide_eq_true h8, Bool.or_true]
  · rw [if_neg h8, decide_eq_false h8, Bool.or_false]
    apply List.ext_getElem?
    intro x
    rw [List.getElem?_set]
    split
    · next e => subst e; simpa [hj] using hb
    · rfl
 simp only [h1]
theorem made_own (W : World) (base n : Nat) (hb : base ≤ W.heap.size) (hn : n ≤ 1000000) : (W.alloc (.cells (madeCells #[.bool false] n) 4)).ownsRow base 4 1 (.slice (some ⟨W.heap.size, 0, none⟩) n n) n (boolsC (List.replicate n false)) := by
 rw [← made_bools]
 exact World.ownsRow_lit W (base := base) (e := 4) (size := 1) (madeCells #[.bool false] n) n hb (by unfold maxLen; omega) (by simp [madeCells])
set_option maxRecDepth 100000 in
set_option maxHeartbeats 4000000 in
theorem new_c (B : Nat) (p : PlanD) (A : Option Addr) (c : Nat) (w : World) (h : RdS w (· < B) 5 A p.ops.length (opsC p.ops)) (hp : Shaped p) (hB : B ≤ w.heap.size) :
 Calls Tryz.prog 56 #[planV p A c] w (NewPost B p A c w) := by
 have hmm := @run_makeMap Tryz.prog
 have HP := Lib.hid hp
 have hn0 := hp.n0
 have hn12 := hp.n12
 have HO := Lib.hid h
 have hmk := run_make_row' (P := Tryz.prog) 139 4 (.bool false) 1 Tryz.underlying139 bool_info rfl .i64 .i64 p.ops.length (by omega) (by omega)
 clear h hp
 go_enter Tryz.func56, Tryz.ntmps56
 go_upto_region 1 with fail
 go_cut [3] (fun v3 wx => ∃ wb g mb, v3 = .pointer (some ⟨wb, 0, none⟩) ∧ VInv B p A c w wb g mb (List.replicate p.ops.length false) wx ∧ Bk wx w.heap.size 24 #[.int .i64 p.parts, .slice A p.ops.length c] ∧ w.heap.size < wb ∧ w.heap.size < g)
 case first =>
  go_region
  all_goals
    go_wp2_with fail
    go_meet
  · refine ⟨_, w.heap.size + 1, w.heap.size + 1 + 1, rfl, VInv.ext (w := ((w.alloc (.cells #[.int .i64 p.parts, .slice A p.ops.length c] 24)).alloc (.cells (madeCells #[.bool false] p.ops.length) 4)).alloc (.map #[] 0) |>.alloc (.cells #[.slice (some ⟨w.heap.size + 1, 0, none⟩) p.ops.length p.ops.length, .int .i64 p.parts, .slice A p.ops.length c, .map (some (w.heap.size + 1 + 1))] 174)) ⟨Bk.newAt (by simp), ?_, ?_, ?_, by omega, by omega⟩ (Below.drew (Below.refl _ _)), ?_, by omega, by omega⟩
    · have h1 := made_own (w.alloc (.cells #[.int .i64 p.parts, .slice A p.ops.length c] 24)) w.heap.size p.ops.length (by simp) (by omega)
      simp only [World.size_alloc] at h1
      exact (h1.alloc _).alloc _
    · have h1 := MapIs.made idV ((w.alloc (.cells #[.int .i64 p.parts, .slice A p.ops.length c] 24)).alloc (.cells (madeCells #[.bool false] p.ops.length) 4))
      simp only [World.size_alloc] at h1
      exact h1.alloc _
    · repeat (first | exact Below.refl _ _ | refine ext_alloc ?_ _)
    · exact (((Bk.new _ _ _).alloc _).alloc _).alloc _
  · refine ⟨_, w.heap.size + 1 + 1, w.heap.size + 1, rfl, VInv.ext (w := ((w.alloc (.cells #[.int .i64 p.parts, .slice A p.ops.length c] 24)).alloc (.map #[] 0)).alloc (.cells (madeCells #[.bool false] p.ops.length) 4) |>.alloc (.cells #[.slice (some ⟨w.heap.size + 1 + 1, 0, none⟩) p.ops.length p.ops.length, .int .i64 p.parts, .slice A p.ops.length c, .map (some (w.heap.size + 1))] 174)) ⟨Bk.newAt (by simp), ?_, ?_, ?_, by omega, by omega⟩ (Below.drew (Below.refl _ _)), ?_, by omega, by omega⟩
    · have h1 := made_own ((w.alloc (.cells #[.int .i64 p.parts, .slice A p.ops.length c] 24)).alloc (.map #[] 0)) w.heap.size p.ops.length (by simp; omega) (by omega)
      simp only [World.size_alloc] at h1
      exact h1.alloc _
    · have h1 := MapIs.made idV (w.alloc (.cells #[.int .i64 p.parts, .slice A p.ops.length c] 24))
      simp only [World.size_alloc] at h1
      exact (h1.alloc _).alloc _
    · repeat (first | exact Below.refl _ _ | refine ext_alloc ?_ _)
    · exact (((Bk.new _ _ _).alloc _).alloc _).alloc _
 case rest =>
  obtain ⟨wb, g, mb, rfl, hV, hx, hl1, hl2⟩ := hcut
  have HV := Lib.hid hV
  have HX := Lib.hid hx
  have z0 : wc.cell? ⟨wb, 0, none⟩ = some (.slice (some ⟨g, 0, none⟩) p.ops.length p.ops.length) := (hV.bk.cell 0).trans rfl
  have x1 : wc.cell? ⟨w.heap.size, 1, none⟩ = some (.slice A p.ops.length c) := (hx.cell 1).trans rfl
  have hwl := hV.bk.lt
  have hxl := hx.lt
  obtain ⟨ad, had⟩ : ∃ ad : Addr, ad = ⟨g, 0, none⟩ := ⟨_, rfl⟩
  obtain ⟨N, hN⟩ : ∃ N : Nat, N = p.ops.length - 1 := ⟨_, rfl⟩
  have hNl : N < p.ops.length := by omega
  have hW : IntKind.i64.wrap ((p.ops.length : Int) - 1) = (N : Nat) := by rw [show (p.ops.length : Int) - 1 = (N : Nat) by omega]; exact IntWalk.i64_in _ (by omega)
  have hown := hV.own
  rw [← had] at hown z0
  obtain ⟨uL, cL⟩ := bool_cell had hown hNl
  have fL := bool_free (i := N) had hown
  have HN := Lib.hid hN
  have HAD := Lib.hid had
  clear hV hx hN hown had hmm hmk
  go_wp2_with fail
  go_region
  go_upto_region 3 with fail
  have HS := Lib.hid (show VInv B p A c w wb g mb (kL p.ops true 0) ((wc.setCell (ad.add N) (.bool true)).drew) from (by
   rw [adr1 HAD.out, kL_zero' hn0, ← HN.out]
   exact (HV.out.set_ N true).ext (Below.drew (Below.refl _ _))))
  have HX2 := Lib.hid (show Bk ((wc.setCell (ad.add N) (.bool true)).drew) w.heap.size 24 #[.int .i64 p.parts, .slice A p.ops.length c] from (by
   rw [adr1 HAD.out]
   exact (HX.out.far (p := ⟨g, N, none⟩) (by show w.heap.size ≠ g; omega) _).drew))
  have x2 : ((wc.setCell (ad.add N) (.bool true)).drew).cell? ⟨w.heap.size, 1, none⟩ = some (.slice A p.ops.length c) := (HX2.out.cell 1).trans rfl
  have hxl2 := HX2.out.lt
  generalize (wc.setCell (ad.add N) (.bool true)).drew = w2 at HS HX2 x2 hxl2 ⊢
  clear z0 x1 hwl hxl cL fL hW HV HX HN hNl
  go_wp2_with fail
  clear x2 hxl2
  go_loopg [26] p.ops.length (fun gk v26 wr => ∃ i : Nat, i + gk = p.ops.length ∧ v26 = .int .i64 (i : Nat) ∧ VInv B p A c w wb g mb (kL p.ops true i) wr ∧ Bk wr w.heap.size 24 #[.int .i64 p.parts, .slice A p.ops.length c])
  case atStart => exact ⟨0, by omega, rfl, HS.out, HX2.out⟩
  case round =>
   obtain ⟨i, hik, rfl, hV, hx⟩ := hrel
   have HV := Lib.hid hV
   have HX := Lib.hid hx
   have hbelow := HV.out.bel
   have HBe := Lib.hid hbelow
   have hwl := hV.bk.lt
   have hxl := hx.lt
   have hgl : g < wr.heap.size := (hV.own.lt g rfl).2
   clear hV hx hbelow
   by_cases hi : i < p.ops.length
   · have hy : p.ops[i]? = some (p.ops[i]) := List.getElem?_eq_getElem hi
     have hok := (HP.out.op i _ hy).2
     generalize p.ops[i] = o at hy hok
     obtain ⟨ado, rfl, d0, d1, d2, d3, d4⟩ := ((HO.out.rd (e := 48) (Nat.le_refl _)).same (w' := wr) (fun _ ad _ hl => HBe.out.block _ hl)).ops hy hi
     have hdl := World.block_lt_of_cell? wr _ d0
     obtain ⟨b, hb⟩ := kL_get' (last := true) (j := i) hi
     have HST := Lib.hid ((kL_step (last := true) hy (fun h => (inputsD_a hok h).1) (fun h => (inputsD_b hok h).1)).trans (kStep_eq hb))
     have HVB := Lib.hid (show VBox B p (some ado) c w wb g mb wr.heap.size o (kL p.ops true i) (wr.alloc (.cells #[.int .i64 o.k, .int .i64 o.a, .int .i64 o.b, .int .i64 o.f, .int .i64 o.c] 48)) from ⟨HV.out.ext (ext_alloc (Below.refl _ _) _), Bk.new _ _ _, HX.out.alloc _⟩)
     obtain ⟨a, ha⟩ : ∃ a : Nat, wide o.k = true → o.a = (a : Nat) ∧ a < p.ops.length := ⟨o.a.toNat, fun h => by have := inputsD_a hok (by intro e; rw [e] at h; cases h); omega⟩
     obtain ⟨b2, hb2⟩ : ∃ b2 : Nat, two o.k = true → o.b = (b2 : Nat) ∧ b2 < p.ops.length := ⟨o.b.toNat, fun h => by have := inputsD_b hok h; omega⟩
     have HA := Lib.hid ha
     have HB2 := Lib.hid hb2
     have HB := Lib.hid hb
     clear hy hok hb ha hb2
     go_upto_region 6 with fail
     generalize hw3 : wr.alloc (.cells #[.int .i64 o.k, .int .i64 o.a, .int .i64 o.b, .int .i64 o.f, .int .i64 o.c] 48) = w3 at HVB ⊢
     clear hw3 d0 d1 d2 d3 d4 hdl hwl hxl hgl
     generalize wr.heap.size = bx at HVB ⊢
     go_cut [] (fun wx => VBox B p (some ado) c w wb g mb bx o ((kL p.ops true i).set i (b || decide (o.k = 8))) wx)
     case first =>
      obtain ⟨z0, e0, e1, e2, hc, hf, l1, l2, l3⟩ := HVB.out.facts HAD.out (kL_len _ _ _)
      have c0 := hc i b HB.out
      have f0 := hf i
      have l3' := l3 i
      clear hc hf l3
      cases b with
      | true =>
        clear e0 e1 e2
        go_region
        go_wp2_with fail
        go_meet
        exact HVB.out.set_ i true HAD.out
      | false =>
        by_cases h8 : o.k = 8
        · have u8 : (o.k == 8) = true := by simp [h8]
          have HE := Lib.hid (show (false || decide (o.k = 8)) = true by simp [h8])
          rw [h8] at e0
          clear h8 u8
          go_region
          go_wp2_with fail
          go_meet
          rw [HE.out]
          exact HVB.out.set_ i true HAD.out
        · have u8 : (o.k == 8) = false := by simp [h8]
          have HE := Lib.hid (show (false || decide (o.k = 8)) = false by simp [h8])
          clear h8
          go_region
          go_wp2_with fail
          go_meet
          rw [HE.out]
          exact HVB.out.set_ i false HAD.out
     case rest =>
      have HC := Lib.hid hcut
      have hlen : ((kL p.ops true i).set i (b || decide (o.k = 8))).length = p.ops.length := by rw [List.length_set, kL_len]
      obtain ⟨z0, e0, e1, e2, hc, hf, l1, l2, l3⟩ := hcut.facts HAD.out hlen
      obtain ⟨L1, hL1⟩ : ∃ L1, L1 = (kL p.ops true i).set i (b || decide (o.k = 8)) := ⟨_, rfl⟩
      rw [← hL1] at HC hc hlen
      simp only [← hL1] at HST
      clear hcut hL1
      cases hw : wide o.k with
      | false =>
        have HW := Lib.hid hw
        rw [hw] at HST
        clear hw hc hf z0 e1 e2
        go_wp2_with (first | (go_at_call 109; refine (wide_c o.k _).mono ?_; rw [HW.out]; rintro e w' ⟨rfl, rfl⟩))
        go_roundg (gk - 1)
        case measure => omega
        case rel => exact ⟨i + 1, by omega, by go_num, by rw [HST.out]; exact HC.out.V, HC.out.pl⟩
      | true =>
        have HW := Lib.hid hw
        rw [hw] at HST
        obtain ⟨ha, hal⟩ := HA.out hw
        rw [ha] at e1
        obtain ⟨v1, hv1⟩ : ∃ v1, L1[a]? = some v1 := ⟨_, List.getElem?_eq_getElem (by omega)⟩
        have c1 := hc a v1 hv1
        have f1 := hf a
        have l3' := l3 a
        have HAa := Lib.hid ha
        clear hw hc hf ha hv1 l3 e2
        go_wp2_with (first | (go_at_call 109; refine (wide_c o.k _).mono ?_; rw [HW.out]; rintro e w' ⟨rfl, rfl⟩))
        go_region
        go_upto_region 9 with fail
        have HC2 := Lib.hid (HC.out.set_ a true HAD.out)
        generalize (wc.setCell (ad.add a) (.bool true)).drew = w4 at HC2 ⊢
        clear z0 e0 e1 c1 f1 l1 l2 l3'
        have hlen2 : (L1.set a true).length = p.ops.length := by rw [List.length_set, hlen]
        obtain ⟨z0, e0, e1, e2, hc, hf, l1, l2, l3⟩ := HC2.out.facts HAD.out hlen2
        cases ht : two o.k with
        | false =>
          have HT := Lib.hid ht
          rw [ht] at HST
          clear ht hc hf z0 e1 e2 l3
          go_wp2_with (first | (go_at_call 110; refine (two_c o.k _).mono ?_; rw [HT.out]; rintro e w' ⟨rfl, rfl⟩))
          go_roundg (gk - 1)
          case measure => omega
          case rel => exact ⟨i + 1, by omega, by go_num, by rw [HST.out, HAa.out]; exact HC2.out.V, HC2.out.pl⟩
        | true =>
          have HT := Lib.hid ht
          rw [ht] at HST
          obtain ⟨hbb, hbl⟩ := HB2.out ht
          rw [hbb] at e2
          obtain ⟨v2, hv2⟩ : ∃ v2, (L1.set a true)[b2]? = some v2 := ⟨_, List.getElem?_eq_getElem (by omega)⟩
          have c1 := hc b2 v2 hv2
          have f1 := hf b2
          have l3' := l3 b2
          have HBb := Lib.hid hbb
          clear ht hc hf hbb hv2 l3 e1
          go_wp2_with (first | (go_at_call 110; refine (two_c o.k _).mono ?_; rw [HT.out]; rintro e w' ⟨rfl, rfl⟩))
          go_region
          go_wp2_with fail
          have HC3 := Lib.hid (HC2.out.set_ b2 true HAD.out)
          go_roundg (gk - 1)
          case measure => omega
          case rel => exact ⟨i + 1, by omega, by go_num, by rw [HST.out, HAa.out, HBb.out]; exact HC3.out.V, HC3.out.pl⟩
   · have hin : i = p.ops.length := by omega
     subst hin
     go_wp2_with fail
     go_ret
     rw [kL_full] at HV
     have hb := HV.out.bel
     refine ⟨wb, some ⟨g, 0, none⟩, p.ops.length, fun k => k = wb ∨ (k = g ∨ k = mb), rfl, ⟨mb, [], HV.out.bk, HO.out.ext hb, RdS.of_own HV.out.own (fun k hk => .inr (.inl (by injection hk with hk; exact hk.symm))), HV.out.map, (fun _ _ h => by cases h), .inl rfl, .inr (.inr rfl), fun k hk => ?_⟩, hb, fun k hk => ?_⟩
     · rcases hk with rfl | rfl | rfl
       · exact ⟨Nat.le_trans hB HV.out.wb0, HV.out.bk.lt⟩
       · exact ⟨by omega, (HV.out.own.lt _ rfl).2⟩
       · exact ⟨Nat.le_trans hB HV.out.mb0, HV.out.map.lt⟩
     · rcases hk with rfl | rfl | rfl
       · exact HV.out.wb0
       · exact (HV.out.own.lt _ rfl).1
       · exact HV.out.mb0
end Go.Proofs.YtapjhliglmohgaaGreatDoor
/- plan.checked, plan.Check, plan.States, plan.Needs of the program. -/
namespace Go.Proofs.YtapjhliglmohgaaGreatDoor
open Go.RowKit Go.Sort
/-- What checked tells: what is wrong, or the ways. -/
def CheckedPost (B : Nat) (p : PlanD) (A : Option Addr) (c : Nat) (w : World) (e : Ending) (w' : World) : Prop :=
 (∀ at_ code, checkD p = some (at_, code) → ∃ v, e = .returned (.tuple #[.pointer none, v]) ∧ ErrAt w' v at_ code ∧ Below w.heap.size w w') ∧
 (checkD p = none → ∃ (wb : Nat) (K : Option Addr) (kc : Nat) (R : Nat → Prop), e = .returned (.tuple #[.pointer (some ⟨wb, 0, none⟩), .nilIface]) ∧ WaysIs B wb R p A K c kc w' ∧ Below w.heap.size w w' ∧ (∀ k, R k → w.heap.size ≤ k))
theorem shapeD_of_check {p : PlanD} (h : checkD p = none) : shapeD p = none ∧ treeD p.ops p.parts.toNat 16 ≤ 4096 := by
 unfold checkD at h
 split at h
 · cases h
 · next hs =>
   split at h
   · cases h
   · exact ⟨hs, by omega⟩
theorem shaped_check {p : PlanD} (h : checkD p = none) : Shaped p := shaped_of (shapeD_of_check h).1
set_option maxRecDepth 100000 in
set_option maxHeartbeats 4000000 in
theorem checked_c (B : Nat) (p : PlanD) (A : Option Addr) (c : Nat) (w : World) (h : RdS w (· < B) 5 A p.ops.length (opsC p.ops)) (hB : B ≤ w.heap.size) :
 Calls Tryz.prog 81 #[planV p A c] w (CheckedPost B p A c w) := by
 have HO := Lib.hid h
 cases hs : shapeD p with
 | some x =>
   obtain ⟨at_, code⟩ := x
   have HC := Lib.hid (show checkD p = some (at_, code) from (by unfold checkD; rw [hs]))
   have HS := Lib.hid hs
   clear h hs
   go_enter Tryz.func81, Tryz.ntmps81
   go_wp2_with (first
    | (go_at_call 136; refine (shape_c w.heap.size p A c _ ((HO.out.rd (Nat.le_refl _)).alloc _)).mono ?_; rintro e w1 hpost; obtain ⟨v, rfl, hE, hb⟩ := hpost.2 at_ code HS.out; obtain ⟨fb, s, v', n, rfl, hE⟩ := hE; have HE := Lib.hid hE; have HB := Lib.hid hb; clear hE hb hpost))
   go_ret2
   exact ⟨fun a' c' h' => by
     rw [HC.out] at h'
     cases h'
     exact ⟨_, rfl, ⟨fb, s, v', n, rfl, HE.out⟩, ext_trans (ext_alloc (Below.refl _ _) _) HB.out⟩, fun h0 => by rw [HC.out] at h0; cases h0⟩
 | none =>
   have HS := Lib.hid hs
   have HP := Lib.hid (shaped_of hs)
   have HC := Lib.hid (show checkD p = (if 4096 < treeD p.ops p.parts.toNat 16 then some (p.ops.length, 2) else none) from (by unfold checkD; rw [hs]))
   obtain ⟨t, ht⟩ : ∃ t, t = treeD p.ops p.parts.toNat 16 := ⟨_, rfl⟩
   rw [← ht] at HC
   have HT := Lib.hid ht
   clear h hs ht
   by_cases h4 : 4096 < t
   · rw [if_pos h4] at HC
     have h4' : (4096 : Int) < (t : Nat) := by omega
     go_enter Tryz.func81, Tryz.ntmps81
     go_wp2_with (first
      | (go_at_call 136; refine (shape_c w.heap.size p A c _ ((HO.out.rd (Nat.le_refl _)).alloc _)).mono ?_; rintro e w1 hpost; obtain ⟨rfl, hb⟩ := hpost.1 HS.out; have HB := Lib.hid (ext_trans (ext_alloc (Below.refl _ _) _) hb)
         have HX := Lib.hid ((Bk.new w 24 #[.int .i64 p.parts, .slice A p.ops.length c]).ext hb)
         have x0 : w1.cell? ⟨w.heap.size, 0, none⟩ = some (.int .i64 p.parts) := (HX.out.cell 0).trans rfl
         have x1 : w1.cell? ⟨w.heap.size, 1, none⟩ = some (.slice A p.ops.length c) := (HX.out.cell 1).trans rfl
         have hxl := HX.out.lt
         clear hb hpost)
      | (go_at_call 56; refine (new_c B p A c _ (HO.out.ext HB.out) HP.out (Nat.le_trans hB HB.out.size)).mono ?_; rintro e w2 ⟨wb, K, kc, R, rfl, hW, hb, hR⟩
         have HB2 := Lib.hid (ext_trans HB.out hb)
         have HX2 := Lib.hid (HX.out.ext hb)
         have HW2 := Lib.hid hW
         have HR2 := Lib.hid (show ∀ k, R k → w.heap.size < k from fun k hk => Nat.lt_of_lt_of_le HX.out.lt (hR k hk))
         clear hW hb hR)
      | (go_at_call 137; refine (tree_c B wb R p A K c kc 16 _ HW2.out HP.out (by omega) (by omega)).mono ?_; rw [← HT.out]; rintro e w3 ⟨R3, rfl, hW3, hF3, hR3⟩
         have HB3 := Lib.hid (show Below w.heap.size w w3 from HB2.out.trans (hF3.below (fun k hk => Nat.le_of_lt (HR2.out k hk)) HB2.out.size))
         have HX3 := Lib.hid (HX2.out.fr hF3 (fun hk => by have := HR2.out _ hk; omega))
         have HW3 := Lib.hid hW3
         have HR3 := Lib.hid (show ∀ k, R3 k → w.heap.size ≤ k from fun k hk => by
          rcases hR3 k hk with h | h
          · exact Nat.le_of_lt (HR2.out k h)
          · exact Nat.le_trans HB2.out.size h)
         have y1 : w3.cell? ⟨w.heap.size, 1, none⟩ = some (.slice A p.ops.length c) := (HX3.out.cell 1).trans rfl
         have hyl := HX3.out.lt
         clear hW3 hF3 hR3)
      | (go_at_call 138; refine (planFault_c _ 0 (.iface 84 (.int .i64 2)) 2 _ rfl).mono ?_; rintro e w4 ⟨v, rfl, hE, hb⟩; have HE4 := Lib.hid hE; have HB4 := Lib.hid (ext_trans HB3.out hb); clear hE hb))
     go_ret2
     exact ⟨fun a' c' h' => by
       rw [HC.out] at h'
       cases h'
       exact ⟨_, rfl, HE4.out, HB4.out⟩, fun h0 => by rw [HC.out] at h0; cases h0⟩
   · rw [if_neg h4] at HC
     have h4' : ¬ (4096 : Int) < (t : Nat) := by omega
     go_enter Tryz.func81, Tryz.ntmps81
     go_wp2_with (first
      | (go_at_call 136; refine (shape_c w.heap.size p A c _ ((HO.out.rd (Nat.le_refl _)).alloc _)).mono ?_; rintro e w1 hpost; obtain ⟨rfl, hb⟩ := hpost.1 HS.out; have HB := Lib.hid (ext_trans (ext_alloc (Below.refl _ _) _) hb)
         have HX := Lib.hid ((Bk.new w 24 #[.int .i64 p.parts, .slice A p.ops.length c]).ext hb)
         have x0 : w1.cell? ⟨w.heap.size, 0, none⟩ = some (.int .i64 p.parts) := (HX.out.cell 0).trans rfl
         have x1 : w1.cell? ⟨w.heap.size, 1, none⟩ = some (.slice A p.ops.length c) := (HX.out.cell 1).trans rfl
         have hxl := HX.out.lt
         clear hb hpost)
      | (go_at_call 56; refine (new_c B p A c _ (HO.out.ext HB.out) HP.out (Nat.le_trans hB HB.out.size)).mono ?_; rintro e w2 ⟨wb, K, kc, R, rfl, hW, hb, hR⟩
         have HB2 := Lib.hid (ext_trans HB.out hb)
         have HX2 := Lib.hid (HX.out.ext hb)
         have HW2 := Lib.hid hW
         have HR2 := Lib.hid (show ∀ k, R k → w.heap.size < k from fun k hk => Nat.lt_of_lt_of_le HX.out.lt (hR k hk))
         clear hW hb hR)
      | (go_at_call 137; refine (tree_c B wb R p A K c kc 16 _ HW2.out HP.out (by omega) (by omega)).mono ?_; rw [← HT.out]; rintro e w3 ⟨R3, rfl, hW3, hF3, hR3⟩
         have HB3 := Lib.hid (show Below w.heap.size w w3 from HB2.out.trans (hF3.below (fun k hk => Nat.le_of_lt (HR2.out k hk)) HB2.out.size))
         have HX3 := Lib.hid (HX2.out.fr hF3 (fun hk => by have := HR2.out _ hk; omega))
         have HW3 := Lib.hid hW3
         have HR3 := Lib.hid (show ∀ k, R3 k → w.heap.size ≤ k from fun k hk => by
          rcases hR3 k hk with h | h
          · exact Nat.le_of_lt (HR2.out k h)
          · exact Nat.le_trans HB2.out.size h)
         have y1 : w3.cell? ⟨w.heap.size, 1, none⟩ = some (.slice A p.ops.length c) := (HX3.out.cell 1).trans rfl
         have hyl := HX3.out.lt
         clear hW3 hF3 hR3))
     go_ret2
     exact ⟨(fun a' c' h' => by rw [HC.out] at h'; cases h'), fun _ => ⟨wb, K, kc, R3, rfl, HW3.out, HB3.out, HR3.out⟩⟩
set_option maxRecDepth 100000 in
set_option maxHeartbeats 4000000 in
theorem check_c (B : Nat) (p : PlanD) (A : Option Addr) (c : Nat) (w : World) (h : RdS w (· < B) 5 A p.ops.length (opsC p.ops)) (hB : B ≤ w.heap.size) :
 Calls Tryz.prog 54 #[planV p A c] w (ErrPost w (checkD p)) := by
 have HO := Lib.hid h
 clear h
 cases hs : checkD p with
 | some x =>
   obtain ⟨at_, code⟩ := x
   have HS := Lib.hid hs
   clear hs
   go_enter Tryz.func54, Tryz.ntmps54
   go_wp2_with (first
    | (go_at_call 81; refine (checked_c B p A c _ (HO.out.ext (ext_alloc (Below.refl _ _) _)) (Nat.le_trans hB (by simp))).mono ?_; rintro e w1 hpost; obtain ⟨v, rfl, hE, hb⟩ := hpost.1 at_ code HS.out; have HE := Lib.hid hE; have HB := Lib.hid hb; clear hE hb hpost))
   go_ret
   exact errPost_some rfl ⟨_, rfl, HE.out, ext_trans (ext_alloc (Below.refl _ _) _) HB.out⟩
 | none =>
   have HS := Lib.hid hs
   clear hs
   go_enter Tryz.func54, Tryz.ntmps54
   go_wp2_with (first
    | (go_at_call 81; refine (checked_c B p A c _ (HO.out.ext (ext_alloc (Below.refl _ _) _)) (Nat.le_trans hB (by simp))).mono ?_; rintro e w1 hpost; obtain ⟨wb, K, kc, R, rfl, hW, hb, hR⟩ := hpost.2 HS.out; have HB := Lib.hid hb; clear hW hb hR hpost))
   go_ret
   exact errPost_none rfl ⟨rfl, ext_trans (ext_alloc (Below.refl _ _) _) HB.out⟩
/-- The State datasets. -/
def statesL (ops : List OpD) : List Nat := (List.range ops.length).filter (isSt ops)
def StatesPost (w : World) (l : List Nat) (e : Ending) (w' : World) : Prop :=
 ∃ A c, e = .returned (.slice A l.length c) ∧ w'.ownsRow w.heap.size 3 1 (.slice A l.length c) l.length (intsC l) ∧ Below w.heap.size w w'
theorem statesT_succ {ops : List OpD} (i : Nat) : (List.range (i + 1)).filter (isSt ops) = (List.range i).filter (isSt ops) ++ (if isSt ops i then [i] else []) := by
 rw [List.range_succ, List.filter_append]
 congr 1
 simp only [List.filter_cons, List.filter_nil]
set_option maxRecDepth 100000 in
set_option maxHeartbeats 4000000 in
theorem states_c (B : Nat) (p : PlanD) (A : Option Addr) (c : Nat) (w : World) (h : RdS w (· < B) 5 A p.ops.length (opsC p.ops)) (hB : B ≤ w.heap.size) (hp : checkD p = none) :
 Calls Tryz.prog 19 #[planV p A c] w (StatesPost w (statesL p.ops)) := by
 have hn12 := (shaped_check hp).n12
 have HO := Lib.hid h
 have HP := Lib.hid hp
 clear h hp
 go_enter Tryz.func19, Tryz.ntmps19
 go_wp2_with (first
  | (go_at_call 54; refine (check_c B p A c _ (HO.out.ext (ext_alloc (Below.refl _ _) _)) (Nat.le_trans hB (by simp))).mono ?_; rintro e w1 hpost; obtain ⟨rfl, hb⟩ := hpost.1 HP.out
     have HB1 := Lib.hid (ext_trans (ext_alloc (Below.refl _ _) _) hb)
     have HX := Lib.hid ((Bk.new w 24 #[.int .i64 p.parts, .slice A p.ops.length c]).ext hb)
     have x1 : w1.cell? ⟨w.heap.size, 1, none⟩ = some (.slice A p.ops.length c) := (HX.out.cell 1).trans rfl
     have hxl := HX.out.lt
     clear hb hpost))
 clear x1 hxl
 go_loopg [3, 12] p.ops.length (fun gk v3 v12 wr => ∃ i : Nat, i + gk = p.ops.length ∧ v12 = .int .i64 (i : Nat) ∧ wr.ownsRow w.heap.size 3 1 v3 ((List.range i).filter (isSt p.ops)).length (((List.range i).filter (isSt p.ops)).flatMap intC) ∧ Below w.heap.size w wr)
 case atStart => exact ⟨0, by omega, rfl, World.ownsRow_nil _ _ _ _, HB1.out⟩
 case round =>
  obtain ⟨i, hik, rfl, hown, hb⟩ := hrel
  have hll : ((List.range i).filter (isSt p.ops)).length ≤ i := by have := List.length_filter_le (isSt p.ops) (List.range i); simpa using this
  have HSu := Lib.hid (statesT_succ (ops := p.ops) i)
  have HF := Lib.hid (show statesL p.ops = (List.range p.ops.length).filter (isSt p.ops) from rfl)
  obtain ⟨l, hl⟩ : ∃ l, l = (List.range i).filter (isSt p.ops) := ⟨_, rfl⟩
  rw [← hl] at hown hll HSu
  have HLl := Lib.hid hl
  obtain ⟨A3, c3, rfl, hc3⟩ := own_shape hown
  have HOw := Lib.hid hown
  have HB := Lib.hid hb
  clear hown hb hl
  by_cases hi : i < p.ops.length
  · have hy : p.ops[i]? = some (p.ops[i]) := List.getElem?_eq_getElem hi
    generalize p.ops[i] = o at hy
    obtain ⟨ado, rfl, d0, d1, d2, d3, d4⟩ := ((HO.out.rd (e := 48) (Nat.le_refl _)).same (w' := wr) (fun _ ad _ hl => HB.out.block _ hl)).ops hy hi
    have hdl := World.block_lt_of_cell? wr _ d0
    have hst : isSt p.ops i = decide (o.k = 8) := by unfold isSt; rw [hy]; rfl
    rw [hst] at HSu
    clear hy hst
    by_cases h8 : o.k = 8
    · have e8 : (o.k == 8) = true := by simp [h8]
      rw [h8] at d0 HSu
      have HS2 := Lib.hid (show (List.range (i + 1)).filter (isSt p.ops) = l ++ [i] from HSu.out)
      clear h8 e8
      go_wp2_with (first
       | (at_builtin; refine wpList_appE int_app _ rfl (.tmp 20) (.tmp 22) rfl w.heap.size (.slice A3 l.length c3) l (by rfl) ((HOw.out.alloc _).alloc _) i _ rfl (by first | exact Bk.new _ _ _ | exact Bk.newAt (by simp)) (by omega) (by have := HB.out.size; simp only [World.size_alloc]; omega) ?_; intro A4 c4 w4 hown4 hg4 hc4
          have HO4 := Lib.hid hown4
          have HB4 := Lib.hid (below_grownOwn (ext_alloc (ext_alloc HB.out _) _) ((HOw.out.alloc _).alloc _) (Nat.le_refl _) hg4)
          clear hown4 hg4))
      go_roundg (gk - 1)
      case measure => omega
      case rel => exact ⟨i + 1, by omega, by go_num, by have h := HO4.out; rw [show (l ++ [i]).length = l.length + 1 from by simp] at h; rw [HS2.out, show (l ++ [i]).length = l.length + 1 from by simp]; exact h, HB4.out⟩
    · have e8 : (o.k == 8) = false := by simp [h8]
      have HS2 := Lib.hid (show (List.range (i + 1)).filter (isSt p.ops) = l from by rw [HSu.out, if_neg (by simp [h8]), List.append_nil])
      clear h8
      go_wp2_with fail
      go_roundg (gk - 1)
      case measure => omega
      case rel => exact ⟨i + 1, by omega, by go_num, by rw [HS2.out]; exact HOw.out.alloc _, ext_alloc HB.out _⟩
  · have hin : i = p.ops.length := by omega
    subst hin
    rw [← HF.out] at HLl
    have h := HLl.out
    subst h
    go_wp2_with fail
    go_ret
    exact ⟨A3, c3, rfl, by rw [← intsC_flat]; exact HOw.out, HB.out⟩
end Go.Proofs.YtapjhliglmohgaaGreatDoor
/- Numbers and rows as bytes, in plain Lean. -/
namespace Go.Proofs.YtapjhliglmohgaaGreatDoor
open Go.RowKit Go.Sort
/-! ### numbers -/
def zig (n : Int) : Nat := if 0 ≤ n then (2 * n).toNat else (-2 * n - 1).toNat
def zag (u : Nat) : Int := if u % 2 = 0 then ((u / 2 : Nat) : Int) else -((u / 2 : Nat) : Int) - 1
def vB (u : Nat) : List Nat := if u < 128 then [u] else (u % 128 + 128) :: vB (u / 128)
def intB (n : Int) : List Nat := vB (zig n)
/-- What is told of a number: the number and the place behind it, or the error's number. -/
inductive RdI
 | ok (n : Int) (next : Nat)
 | bad (code : Int)
deriving DecidableEq
/-- The number whose first i bytes have come to u; the rest is l. -/
def readU (at_ : Nat) : Nat → Nat → List Nat → RdI
 | _, _, [] => .bad 10
 | i, u, c :: l =>
   if i = 9 ∧ 1 < c then .bad 11
   else if c = 0 ∧ 0 < i then .bad 12
   else if c < 128 then .ok (zag (u + c * 2 ^ (7 * i))) (at_ + i + 1)
   else readU at_ (i + 1) (u + (c % 128) * 2 ^ (7 * i)) l
def readI (b : List Nat) (at_ : Int) : RdI := if at_ < 0 ∨ (b.length : Int) < at_ then .bad 1 else readU at_.toNat 0 0 (b.drop at_.toNat)
/-! ### rows -/
def rowB (r : Rw) : List Nat := intB r.k ++ intB r.v
def rowsB (l : List Rw) : List Nat := intB l.length ++ l.flatMap rowB
def I64 (n : Int) : Prop := -9223372036854775808 ≤ n ∧ n ≤ 9223372036854775807
end Go.Proofs.YtapjhliglmohgaaGreatDoor
/- Numbers as bytes: wire.Int of the program. -/
namespace Go.Proofs.YtapjhliglmohgaaGreatDoor
open Go.RowKit Go.Sort
def byC (b : Nat) : List Value := [.int .u8 (b : Nat)]
def bytesC (l : List Nat) : List Value := l.map fun b => .int .u8 (b : Nat)
theorem bytesC_flat (l : List Nat) : l.flatMap byC = bytesC l := by
 induction l with
 | nil => rfl
 | cons x l ih => rw [List.flatMap_cons, ih]; rfl
theorem ErrAt.farBk {w : World} {v : Value} {at_ code : Int} {g i : Nat} {t : TypeId} {cs : Array Value} {u : Value} (h : ErrAt w v at_ code) (hb : Bk w g t cs) (ht : t ≠ 171) : ErrAt (w.setCell ⟨g, i, none⟩ u) v at_ code := by
 obtain ⟨fb, s, v', n, rfl, h1, h2⟩ := h
 have key : ∀ g' t' cs', Bk w g' t' cs' → t' = 171 → Bk (w.setCell ⟨g, i, none⟩ u) g' t' cs' := fun g' t' cs' hk e => hk.far (hk.ne_ hb (by rw [e]; exact ht.symm)) u
 exact ⟨fb, s, v', n, rfl, key _ _ _ h1 rfl, ErrN.bk key h2⟩
end Go.Proofs.YtapjhliglmohgaaGreatDoor
/- Numbers as bytes: wire.kind, wire.ReadInt of the program. -/
namespace Go.Proofs.YtapjhliglmohgaaGreatDoor
open Go.RowKit Go.Sort
end Go.Proofs.YtapjhliglmohgaaGreatDoor
