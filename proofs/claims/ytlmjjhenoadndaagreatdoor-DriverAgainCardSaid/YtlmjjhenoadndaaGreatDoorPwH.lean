/- ErrF, LogB, LogC, LogD, LogE, LogF: laid together. -/
import Derived.Test.YtlmjjhenoadndaaGreatDoorPwB
import Derived.Test.YtlmjjhenoadndaaGreatDoorPwG

/- errors.As of a *api.Fault, by walks; of nil. -/
namespace Go.Proofs.YtlmjjhenoadndaaGreatDoor
open Go.RowKit Go.Extern.Stop Go.Stop Go.Extern

theorem valueOfPF (t : Addr) (w : World) : (ReflectliteValue.unpack (.iface 151 (.pointer (some t)))).run Tryz.prog w
    = .ok (.agg #[.pointer (some ⟨1, 151, none⟩), .pointer (some ⟨w.heap.size, 0, none⟩), .int .u64 150]) (w.alloc (.cells #[.pointer (some t)] 151)) := by kernel_rfl
theorem typePF (a : Addr) (w : World) : (ReflectliteValue.methodAny (ReflectliteValue.valueError "reflectlite.Value.Type" 0) (fun t _ _ _ => ReflectliteType.toType t) #[.agg #[.pointer (some ⟨1, 151, none⟩), .pointer (some a), .int .u64 150]]).run Tryz.prog w
    = .ok (.iface 274 (.agg #[.pointer (some ⟨1, 151, none⟩)])) w := by kernel_rfl
theorem kindPF (w : World) : ((ReflectliteType.abiMethod fun t => (fun a : Nat => Value.int IntKind.u8 (a : Int)) <$> Rtype.kind t) #[.pointer (some ⟨1, 151, none⟩)]).run Tryz.prog w = .ok (.int .u8 22) w := by kernel_rfl
theorem kindFF (w : World) : ((ReflectliteType.abiMethod fun t => (fun a : Nat => Value.int IntKind.u8 (a : Int)) <$> Rtype.kind t) #[.pointer (some ⟨1, 149, none⟩)]).run Tryz.prog w = .ok (.int .u8 22) w := by kernel_rfl
theorem partsPF (a : Addr) (w : World) : (ReflectliteValue.parts (.agg #[.pointer (some ⟨1, 151, none⟩), .pointer (some a), .int .u64 150])).run Tryz.prog w = .ok (some (151, a, 150)) w := by kernel_rfl
theorem isNilPF (a p : Addr) (W : World) (ha : W.cell? a = some (.pointer (some p))) :
    (ReflectliteValue.method (ReflectliteValue.valueError "reflectlite.Value.IsNil" 0) ReflectliteValue.isNil #[.agg #[.pointer (some ⟨1, 151, none⟩), .pointer (some a), .int .u64 150]]).run Tryz.prog W = .ok (.bool false) W := by
  rw [rlm]
  simp only [Sem.run_bind, partsPF, Result.andThen]
  simp [ReflectliteValue.isNil, loadVar, isAgg, underlying, Tryz.underlying151, ha, Result.andThen]
theorem elemPF (w : World) : (ReflectliteType.method ReflectliteType.elem #[.agg #[.pointer (some ⟨1, 151, none⟩)]]).run Tryz.prog w = .ok (.iface 274 (.agg #[.pointer (some ⟨1, 149, none⟩)])) w := by kernel_rfl
theorem implementsFF (w : World) : (ReflectliteType.relation "Implements" ReflectliteType.implements_ #[.agg #[.pointer (some ⟨1, 149, none⟩)], .iface 274 (.agg #[.pointer (some ⟨1, 28, none⟩)])]).run Tryz.prog w = .ok (.bool true) w := by kernel_rfl
theorem assignableFF (w : World) : (ReflectliteType.relation "AssignableTo" ReflectliteType.assignableTo #[.agg #[.pointer (some ⟨1, 149, none⟩)], .iface 274 (.agg #[.pointer (some ⟨1, 149, none⟩)])]).run Tryz.prog w = .ok (.bool true) w := by kernel_rfl
theorem valueOfFF (p : Addr) (w : World) : (ReflectliteValue.unpack (.iface 149 (.pointer (some p)))).run Tryz.prog w
    = .ok (.agg #[.pointer (some ⟨1, 149, none⟩), .pointer (some ⟨w.heap.size, 0, none⟩), .int .u64 150]) (w.alloc (.cells #[.pointer (some p)] 149)) := by kernel_rfl
theorem elemOfPF (w : World) : (Rtype.elem? 151).run Tryz.prog w = .ok (some 149) w := by kernel_rfl
theorem mkFF (p : Addr) (w : World) : (ReflectliteValue.mk 149 p ReflectliteValue.flagAddr).run Tryz.prog w = .ok (.agg #[.pointer (some ⟨1, 149, none⟩), .pointer (some p), .int .u64 406]) w := by kernel_rfl
theorem elemVPF (a p : Addr) (W : World) (ha : W.cell? a = some (.pointer (some p))) :
    (ReflectliteValue.method (ReflectliteValue.valueError "reflectlite.Value.Elem" 0) ReflectliteValue.elem #[.agg #[.pointer (some ⟨1, 151, none⟩), .pointer (some a), .int .u64 150]]).run Tryz.prog W
      = .ok (.agg #[.pointer (some ⟨1, 149, none⟩), .pointer (some p), .int .u64 406]) W := by
  rw [rlm]
  simp only [Sem.run_bind, partsPF, Result.andThen]
  simp [ReflectliteValue.elem, loadVar, isAgg, underlying, Tryz.underlying151, ha, Result.andThen, elemOfPF, mkFF]
theorem partsFFa (a : Addr) (w : World) : (ReflectliteValue.parts (.agg #[.pointer (some ⟨1, 149, none⟩), .pointer (some a), .int .u64 406])).run Tryz.prog w = .ok (some (149, a, 406)) w := by kernel_rfl
theorem partsFF (a : Addr) (w : World) : (ReflectliteValue.parts (.agg #[.pointer (some ⟨1, 149, none⟩), .pointer (some a), .int .u64 150])).run Tryz.prog w = .ok (some (149, a, 150)) w := by kernel_rfl
theorem directFF (w : World) : (Rtype.directlyAssignable 149 149).run Tryz.prog w = .ok true w := by kernel_rfl
theorem setFF (ta b p : Addr) (old : Value) (W : World) (hb : W.cell? b = some (.pointer (some p))) (ht : W.cell? ta = some old) (hf : W.frozen? ta = false) :
    (ReflectliteValue.set #[.agg #[.pointer (some ⟨1, 149, none⟩), .pointer (some ta), .int .u64 406], .agg #[.pointer (some ⟨1, 149, none⟩), .pointer (some b), .int .u64 150]]).run Tryz.prog W
      = .ok (.tuple #[]) (W.setCell ta (.pointer (some p))) := by
  rw [rls]
  simp only [Sem.run_bind, partsFFa, partsFF, Result.andThen]
  simp [ReflectliteValue.flagAddr, loadVar, isAgg, underlying, Tryz.underlying149, hb, Result.andThen, directFF, storeVar, Value.cells, storeCells, Addr.add]
  rw [run_store Tryz.prog W ta _ _ (by rfl)]
  simp [ht, hf]
def AsPostF (w : World) (t p : Addr) (e : Ending) (w' : World) : Prop := e = .returned (.bool true) ∧ ∃ wx, Below w.heap.size w wx ∧ w' = wx.setCell t (.pointer (some p))
set_option maxHeartbeats 4000000 in
set_option maxRecDepth 100000 in
theorem asF_c (t a p : Addr) (old : Value) (w : World) (ht : w.cell? t = some old) (hf : w.frozen? t = false) (ha : w.cell? a = some (.pointer (some t))) :
    Calls Tryz.prog 144 #[.iface 149 (.pointer (some p)), .iface 151 (.pointer (some t)), .agg #[.pointer (some ⟨1, 151, none⟩), .pointer (some a), .int .u64 150], .iface 274 (.agg #[.pointer (some ⟨1, 149, none⟩)])] w (AsPostF w t p) := by
  have h53 := @run_callFunc_extern Tryz.prog 141 _ (fun args => ReflectliteValue.unpack (args.getD 0 (.tuple #[]))) Tryz.func141 (by kernel_rfl) (by kernel_rfl) (by kernel_rfl) (by kernel_rfl)
  have h67 := @run_callFunc_extern Tryz.prog 188 _ ReflectliteType.typeOf Tryz.func188 (by kernel_rfl) (by kernel_rfl) (by kernel_rfl) (by kernel_rfl)
  have h100 := @run_callFunc_extern Tryz.prog 295 _ (ReflectliteType.relation "AssignableTo" ReflectliteType.assignableTo) Tryz.func295 (by kernel_rfl) (by kernel_rfl) (by kernel_rfl) (by kernel_rfl)
  have h68 := @run_callFunc_extern Tryz.prog 189 _ (ReflectliteValue.method (ReflectliteValue.valueError "reflectlite.Value.Elem" 0) ReflectliteValue.elem) Tryz.func189 (by kernel_rfl) (by kernel_rfl) (by kernel_rfl) (by kernel_rfl)
  have h69 := @run_callFunc_extern Tryz.prog 190 _ ReflectliteValue.set Tryz.func190 (by kernel_rfl) (by kernel_rfl) (by kernel_rfl) (by kernel_rfl)
  have hF1 := typeOfF
  have mA := methodAssignableTo
  have aF := assignableFF
  have vE := valueOfFF
  have htl := World.block_lt_of_cell? w _ ht
  have hal := World.block_lt_of_cell? w _ ha
  go_enter Tryz.func144, Tryz.ntmps144
  go_wp2_with fail
  go_loopg [0] 0 (fun k v0 wr => v0 = .iface 149 (.pointer (some p)) ∧ Bk wr w.heap.size 236 #[.pointer (some ⟨1, 151, none⟩), .pointer (some a), .int .u64 150] ∧ Below w.heap.size w wr)
  case atStart => exact ⟨rfl, Bk.new _ _ _, ext_alloc (Below.refl _ _) _⟩
  case round =>
    obtain ⟨rfl, hx, hb⟩ := hrel
    have x0 : wr.cell? ⟨w.heap.size, 0, none⟩ = some (.pointer (some ⟨1, 151, none⟩)) := by rw [hx.cell]; rfl
    have x1 : wr.cell? ⟨w.heap.size, 1, none⟩ = some (.pointer (some a)) := by rw [hx.cell]; rfl
    have x2 : wr.cell? ⟨w.heap.size, 2, none⟩ = some (.int .u64 150) := by rw [hx.cell]; rfl
    have el := elemVPF a t wr ((hb.cell hal).trans ha)
    have ht2 : wr.cell? t = some old := (hb.cell htl).trans ht
    have htr := World.block_lt_of_cell? wr _ ht2
    have st := setFF t ⟨wr.heap.size, 0, none⟩ p old (wr.alloc (.cells #[.pointer (some p)] 149)) (by simp) ((World.cell?_alloc_lt _ _ _ htr).trans ht2) ((World.frozen?_alloc_old _ _ _ (by omega)).trans ((hb.frozen htl).trans hf))
    clear ht2 hx
    go_wp2_with fail
    go_ret
    exact ⟨rfl, _, ext_alloc hb _, rfl⟩
set_option maxRecDepth 100000 in
set_option maxHeartbeats 4000000 in
theorem AsF_c (t p : Addr) (old : Value) (w : World) (hg : TypeVar w) (ht : w.cell? t = some old) (hf : w.frozen? t = false) :
    Calls Tryz.prog 75 #[.iface 149 (.pointer (some p)), .iface 151 (.pointer (some t))] w (AsPostF w t p) := by
  have h53 := @run_callFunc_extern Tryz.prog 141 _ (fun args => ReflectliteValue.unpack (args.getD 0 (.tuple #[]))) Tryz.func141 (by kernel_rfl) (by kernel_rfl) (by kernel_rfl) (by kernel_rfl)
  have h54 := @run_callFunc_extern Tryz.prog 142 _ (ReflectliteValue.methodAny (ReflectliteValue.valueError "reflectlite.Value.Type" 0) (fun t _ _ _ => ReflectliteType.toType t)) Tryz.func142 (by kernel_rfl) (by kernel_rfl) (by kernel_rfl) (by kernel_rfl)
  have h55 := @run_callFunc_extern Tryz.prog 143 _ (ReflectliteValue.method (ReflectliteValue.valueError "reflectlite.Value.IsNil" 0) ReflectliteValue.isNil) Tryz.func143 (by kernel_rfl) (by kernel_rfl) (by kernel_rfl) (by kernel_rfl)
  have h90 := @run_callFunc_extern Tryz.prog 283 _ (ReflectliteType.abiMethod fun t => do pure (.int .u8 (← Rtype.kind t))) Tryz.func283 (by kernel_rfl) (by kernel_rfl) (by kernel_rfl) (by kernel_rfl)
  have h102 := @run_callFunc_extern Tryz.prog 297 _ (ReflectliteType.method ReflectliteType.elem) Tryz.func297 (by kernel_rfl) (by kernel_rfl) (by kernel_rfl) (by kernel_rfl)
  have h103 := @run_callFunc_extern Tryz.prog 298 _ (ReflectliteType.relation "Implements" ReflectliteType.implements_) Tryz.func298 (by kernel_rfl) (by kernel_rfl) (by kernel_rfl) (by kernel_rfl)
  have vP := valueOfPF
  have tP := typePF
  have mK := methodKind
  have mE := methodElem
  have mI := methodImplements
  have kP := kindPF
  have kE := kindFF
  have eP := elemPF
  have iE := implementsFF
  have htl := World.block_lt_of_cell? w _ ht
  unfold TypeVar at hg
  have hgl := World.block_lt_of_cell? w _ hg
  have n8 := isNilPF ⟨w.heap.size, 0, none⟩ t ((w.alloc (.cells #[.pointer (some t)] 151)).alloc (.cells #[.pointer (some ⟨1, 151, none⟩), .pointer (some ⟨w.heap.size, 0, none⟩), .int .u64 150] 236)) (by simp)
  have u1 : ((w.alloc (.cells #[.pointer (some t)] 151)).alloc (.cells #[.pointer (some ⟨1, 151, none⟩), .pointer (some ⟨w.heap.size, 0, none⟩), .int .u64 150] 236)).cell? t = some old := by
    rw [World.cell?_alloc_lt _ _ _ (by simp; omega), World.cell?_alloc_lt _ _ _ htl]; exact ht
  have u2 : ((w.alloc (.cells #[.pointer (some t)] 151)).alloc (.cells #[.pointer (some ⟨1, 151, none⟩), .pointer (some ⟨w.heap.size, 0, none⟩), .int .u64 150] 236)).frozen? t = false := by
    rw [World.frozen?_alloc_old _ _ _ (by simp; omega), World.frozen?_alloc_old _ _ _ (Nat.ne_of_lt htl)]; exact hf
  have U1 := Lib.hid u1
  have U2 := Lib.hid u2
  clear u1 u2
  go_enter Tryz.func75, Tryz.ntmps75
  go_wp2_with (first | (go_at_call 144; refine (asF_c t ⟨w.heap.size, 0, none⟩ p old _ U1.out U2.out (by simp)).mono ?_; rintro e w1 ⟨rfl, wx, hbx, rfl⟩))
  go_ret
  exact ⟨rfl, wx, ext_trans (ext_alloc (ext_alloc (Below.refl _ _) _) _) hbx, rfl⟩
set_option maxHeartbeats 1000000 in
theorem As_nil (v : Value) (w : World) : Calls Tryz.prog 75 #[.nilIface, v] w (Val w (.bool false)) := by
  go_enter Tryz.func75, Tryz.ntmps75
  go_wp2
  go_ret
  exact ⟨rfl, rfl⟩
end Go.Proofs.YtlmjjhenoadndaaGreatDoor

/- Records on a disk: fault, Blocks, head, block of the program. -/
namespace Go.Proofs.YtlmjjhenoadndaaGreatDoor
open Go.RowKit Go.Sort

theorem logFault_c (n : Nat) (v : Value) (code : Int) (w : World) (h : ErrN w n v code) : Calls Tryz.prog 63 #[v] w (FaultPost w 0 code) := by
  obtain ⟨T, y, rfl⟩ := h.iface
  have HE := Lib.hid h
  clear h
  go_enter Tryz.func63, Tryz.ntmps63
  go_wp2
  go_ret
  exact ⟨_, rfl, ⟨_, _, _, n, rfl, Bk.new _ _ _, HE.out.ext (ext_alloc (Below.refl _ _) _)⟩, ext_alloc (Below.refl _ _) _⟩
set_option maxHeartbeats 4000000 in
theorem blocks_c (n : Nat) (w : World) (hn : n ≤ 1000000) : Calls Tryz.prog 71 #[.int .i64 (n : Nat)] w (Val w (.int .i64 (blocksN n : Nat))) := by
  obtain ⟨q, hq⟩ : ∃ q, q = n / 56 := ⟨_, rfl⟩
  obtain ⟨r, hr⟩ : ∃ r, r = n % 56 := ⟨_, rfl⟩
  have e1 : (n : Int) / 56 = (q : Nat) := by omega
  have e2 : (n : Int) % 56 = (r : Nat) := by omega
  have HB := Lib.hid (show blocksN n = max 1 (q + min r 1) from by unfold blocksN; omega)
  have hql : q ≤ 20000 := by omega
  have hrl : r < 56 := by omega
  have u0 : decide (((n : Nat) : Int) < 0) = false := decide_eq_false (by omega)
  clear hq hr
  by_cases h1 : 1 < r
  · have h1' : (1 : Int) < (r : Nat) := by omega
    by_cases h2 : 1 < q + 1
    · have h2' : (1 : Int) < (q : Nat) + 1 := by omega
      go_enter Tryz.func71, Tryz.ntmps71
      go_wp2_with fail
      go_ret
      exact ⟨by rw [HB.out, show max 1 (q + min r 1) = q + 1 from by omega]; rfl, rfl⟩
    · have h2' : ¬ (1 : Int) < (q : Nat) + 1 := by omega
      go_enter Tryz.func71, Tryz.ntmps71
      go_wp2_with fail
      go_ret
      exact ⟨by rw [HB.out, show max 1 (q + min r 1) = 1 from by omega]; rfl, rfl⟩
  · have h1' : ¬ (1 : Int) < (r : Nat) := by omega
    by_cases h2 : 1 < q + r
    · have h2' : (1 : Int) < (q : Nat) + (r : Nat) := by omega
      go_enter Tryz.func71, Tryz.ntmps71
      go_wp2_with fail
      go_ret
      exact ⟨by rw [HB.out, show max 1 (q + min r 1) = q + r from by omega]; rfl, rfl⟩
    · have h2' : ¬ (1 : Int) < (q : Nat) + (r : Nat) := by omega
      go_enter Tryz.func71, Tryz.ntmps71
      go_wp2_with fail
      go_ret
      exact ⟨by rw [HB.out, show max 1 (q + min r 1) = 1 from by omega]; rfl, rfl⟩
set_option maxRecDepth 100000 in
set_option maxHeartbeats 4000000 in
theorem head_c (r k : Nat) (last : Bool) (w : World) (hr : r ≤ 1000000) (hk : k ≤ 1000000) : Calls Tryz.prog 74 #[.int .i64 (r : Nat), .int .i64 (k : Nat), .bool last] w (BytesPost w (headB r k last)) := by
  have h1 := intB_small hr
  have h2 := intB_small hk
  cases last with
  | true =>
    have HH := Lib.hid (show headB r k true = (intB (r : Nat) ++ intB (k : Nat)) ++ intB 1 from (by unfold headB; simp [List.append_assoc]))
    have h3 : (intB 1).length ≤ 1 := by rw [intB_1]; exact Nat.le_refl _
    go_enter Tryz.func74, Tryz.ntmps74
    go_wp2_with (first
      | (at_builtin; refine wpList_appR byte_app _ rfl (.tmp 13) (.tmp 15) rfl w.heap.size (.slice A3 l3.length c3) l3 (by rfl) HO5.out (intB 1) 0 A5 (intB 1).length c5 (by rfl) rfl (Rd.of_own HO4.out) (by have := HL3.out; omega) (by have := HB4.out.size; omega) ?_; intro A6 c6 w6 hown6 hg6 hc6
         generalize hl6 : l3 ++ intB 1 = l6 at hown6 hc6 ⊢
         have HO6 := Lib.hid hown6; have HB6 := Lib.hid (below_grownOwn HB4.out HO5.out (Nat.le_refl _) hg6); have HL6 := Lib.hid hl6; clear hown6 hg6 hl6)
      | (have hx := HO3.out.1; clear hx; go_at_call 140; refine (wInt_c 1 _ (by omega) (by omega)).mono ?_; rintro e w4 ⟨A5, c5, rfl, hown, hb⟩
         have HO4 := Lib.hid hown; have HO5 := Lib.hid (own_ext HO3.out hb); have HB4 := Lib.hid (ext_trans HB3.out hb); clear hown hb)
      | (at_builtin; (refine wpList_appR byte_app _ rfl (.tmp 10) (.tmp 12) rfl w.heap.size (.slice A1 (intB (r : Nat)).length c1) (intB (r : Nat)) (by rfl) HO1'.out (intB (k : Nat)) 0 A2 (intB (k : Nat)).length c2 (by rfl) rfl (Rd.of_own HO2.out) (by omega) (by have := HB2.out.size; omega) ?_); intro A3 c3 w3 hown3 hg3 hc3
         generalize hl3 : intB (r : Nat) ++ intB (k : Nat) = l3 at hown3 hc3 ⊢
         have HL3 := Lib.hid (show l3.length ≤ 6 from by rw [← hl3, List.length_append]; omega)
         have HO3 := Lib.hid hown3; have HB3 := Lib.hid (below_grownOwn HB2.out HO1'.out (Nat.le_refl _) hg3); have HE3 := Lib.hid hl3; clear hown3 hg3 hl3)
      | (have hx := HO1.out.1; clear hx; go_at_call 140; refine (wInt_c (k : Nat) _ (by omega) (by omega)).mono ?_; rintro e w2 ⟨A2, c2, rfl, hown, hb⟩
         have HO2 := Lib.hid hown; have HO1' := Lib.hid (own_ext HO1.out hb); have HB2 := Lib.hid (ext_trans HB1.out hb); clear hown hb)
      | (go_at_call 140; refine (wInt_c (r : Nat) _ (by omega) (by omega)).mono ?_; rintro e w1 ⟨A1, c1, rfl, hown, hb⟩
         have HO1 := Lib.hid hown; have HB1 := Lib.hid hb; clear hown hb))
    go_ret
    rw [HH.out, HE3.out, HL6.out]
    exact ⟨A6, c6, rfl, HO6.out, HB6.out⟩
  | false =>
    have HH := Lib.hid (show headB r k false = (intB (r : Nat) ++ intB (k : Nat)) ++ intB 0 from (by unfold headB; simp [List.append_assoc]))
    have h3 : (intB 0).length ≤ 1 := by rw [intB_0]; exact Nat.le_refl _
    go_enter Tryz.func74, Tryz.ntmps74
    go_wp2_with (first
      | (at_builtin; refine wpList_appR byte_app _ rfl (.tmp 13) (.tmp 15) rfl w.heap.size (.slice A3 l3.length c3) l3 (by rfl) HO5.out (intB 0) 0 A5 (intB 0).length c5 (by rfl) rfl (Rd.of_own HO4.out) (by have := HL3.out; omega) (by have := HB4.out.size; omega) ?_; intro A6 c6 w6 hown6 hg6 hc6
         generalize hl6 : l3 ++ intB 0 = l6 at hown6 hc6 ⊢
         have HO6 := Lib.hid hown6; have HB6 := Lib.hid (below_grownOwn HB4.out HO5.out (Nat.le_refl _) hg6); have HL6 := Lib.hid hl6; clear hown6 hg6 hl6)
      | (have hx := HO3.out.1; clear hx; go_at_call 140; refine (wInt_c 0 _ (by omega) (by omega)).mono ?_; rintro e w4 ⟨A5, c5, rfl, hown, hb⟩
         have HO4 := Lib.hid hown; have HO5 := Lib.hid (own_ext HO3.out hb); have HB4 := Lib.hid (ext_trans HB3.out hb); clear hown hb)
      | (at_builtin; (refine wpList_appR byte_app _ rfl (.tmp 10) (.tmp 12) rfl w.heap.size (.slice A1 (intB (r : Nat)).length c1) (intB (r : Nat)) (by rfl) HO1'.out (intB (k : Nat)) 0 A2 (intB (k : Nat)).length c2 (by rfl) rfl (Rd.of_own HO2.out) (by omega) (by have := HB2.out.size; omega) ?_); intro A3 c3 w3 hown3 hg3 hc3
         generalize hl3 : intB (r : Nat) ++ intB (k : Nat) = l3 at hown3 hc3 ⊢
         have HL3 := Lib.hid (show l3.length ≤ 6 from by rw [← hl3, List.length_append]; omega)
         have HO3 := Lib.hid hown3; have HB3 := Lib.hid (below_grownOwn HB2.out HO1'.out (Nat.le_refl _) hg3); have HE3 := Lib.hid hl3; clear hown3 hg3 hl3)
      | (have hx := HO1.out.1; clear hx; go_at_call 140; refine (wInt_c (k : Nat) _ (by omega) (by omega)).mono ?_; rintro e w2 ⟨A2, c2, rfl, hown, hb⟩
         have HO2 := Lib.hid hown; have HO1' := Lib.hid (own_ext HO1.out hb); have HB2 := Lib.hid (ext_trans HB1.out hb); clear hown hb)
      | (go_at_call 140; refine (wInt_c (r : Nat) _ (by omega) (by omega)).mono ?_; rintro e w1 ⟨A1, c1, rfl, hown, hb⟩
         have HO1 := Lib.hid hown; have HB1 := Lib.hid hb; clear hown hb))
    go_ret
    rw [HH.out, HE3.out, HL6.out]
    exact ⟨A6, c6, rfl, HO6.out, HB6.out⟩
end Go.Proofs.YtlmjjhenoadndaaGreatDoor

/- Records on a disk: block of the program. -/
namespace Go.Proofs.YtlmjjhenoadndaaGreatDoor
open Go.RowKit Go.Sort

def BlockPost (r : Option (List Nat × Bool)) (w : World) (e : Ending) (w' : World) : Prop :=
  (∀ data last, r = some (data, last) → ∃ A c, e = .returned (.tuple #[.slice A data.length c, .bool last, .bool true]) ∧ Rd w' w'.heap.size 5 1 A data.length (data.flatMap byC) ∧ Below w.heap.size w w') ∧
  (r = none → ∃ v1 v2, e = .returned (.tuple #[v1, v2, .bool false]) ∧ Below w.heap.size w w')
theorem blockPost_none {r : Option (List Nat × Bool)} {w w' : World} {v1 v2 : Value} (hr : r = none) (hb : Below w.heap.size w w') : BlockPost r w (.returned (.tuple #[v1, v2, .bool false])) w' :=
  ⟨(fun d l h => by rw [hr] at h; cases h), fun _ => ⟨v1, v2, rfl, hb⟩⟩
theorem blockPost_some {r : Option (List Nat × Bool)} {w w' : World} {A : Option Addr} {n c : Nat} {data : List Nat} {last : Bool} (hr : r = some (data, last)) (hn : n = data.length) (hR : Rd w' w'.heap.size 5 1 A data.length (data.flatMap byC)) (hb : Below w.heap.size w w') : BlockPost r w (.returned (.tuple #[.slice A n c, .bool last, .bool true])) w' :=
  ⟨(fun d l h => by rw [hr] at h; cases h; exact ⟨A, c, by rw [hn], hR, hb⟩), fun h => by rw [hr] at h; cases h⟩
/-- Where the reading of a head stands. -/
def HeadSt (raw : List Nat) (j : Nat) (x y z : Int) (a : Nat) : Prop :=
  (j = 0 ∧ a = 0 ∧ x = 0 ∧ y = 0 ∧ z = 0) ∨ (j = 1 ∧ readI raw 0 = .ok x a ∧ y = 0 ∧ z = 0) ∨
  (j = 2 ∧ (∃ a1 : Nat, readI raw 0 = .ok x a1 ∧ readI raw (a1 : Nat) = .ok y a) ∧ z = 0) ∨
  (j = 3 ∧ ∃ a1 a2 : Nat, readI raw 0 = .ok x a1 ∧ readI raw (a1 : Nat) = .ok y a2 ∧ readI raw (a2 : Nat) = .ok z a)
theorem readB_bad {raw : List Nat} {r k j a : Nat} {x y z code : Int} (h : HeadSt raw j x y z a) (hj : j < 3) (hb : readI raw (a : Nat) = .bad code) : readB raw r k = none := by
  unfold readB
  rcases h with ⟨rfl, rfl, _⟩ | ⟨rfl, h1, _⟩ | ⟨rfl, ⟨a1, h1, h2⟩, _⟩ | ⟨rfl, _⟩
  · rw [show ((0 : Nat) : Int) = 0 from rfl] at hb; rw [hb]
  · rw [h1]; simp only; rw [hb]
  · rw [h1]; simp only; rw [h2]; simp only; rw [hb]
  · omega
theorem headSt_next {raw : List Nat} {j a a' : Nat} {x y z n : Int} (h : HeadSt raw j x y z a) (hj : j < 3) (hb : readI raw (a : Nat) = .ok n a') : HeadSt raw (j + 1) (if j = 0 then n else x) (if j = 1 then n else y) (if j = 2 then n else z) a' := by
  rcases h with ⟨rfl, rfl, rfl, rfl, rfl⟩ | ⟨rfl, h1, rfl, rfl⟩ | ⟨rfl, ⟨a1, h1, h2⟩, rfl⟩ | ⟨rfl, _⟩
  · exact .inr (.inl ⟨rfl, hb, rfl, rfl⟩)
  · exact .inr (.inr (.inl ⟨rfl, ⟨a, h1, hb⟩, rfl⟩))
  · exact .inr (.inr (.inr ⟨rfl, a1, a, h1, h2, hb⟩))
  · omega
theorem headSt_le {raw : List Nat} {j a : Nat} {x y z : Int} (h : HeadSt raw j x y z a) : a ≤ raw.length := by
  rcases h with ⟨_, rfl, _⟩ | ⟨_, h1, _⟩ | ⟨_, ⟨a1, h1, h2⟩, _⟩ | ⟨_, a1, a2, _, _, h3⟩
  · exact Nat.zero_le _
  · exact (readI_behind h1).2.2
  · exact (readI_behind h2).2.2
  · exact (readI_behind h3).2.2
theorem readB_done {raw : List Nat} {r k a : Nat} {x y z : Int} (h : HeadSt raw 3 x y z a) : readB raw r k = (if x = (r : Nat) ∧ y = (k : Nat) ∧ (z = 0 ∨ z = 1) ∧ ((raw.drop a).length = 56 ∨ (z = 1 ∧ (raw.drop a).length < 56 ∧ (0 < (raw.drop a).length ∨ k = 0))) then some (raw.drop a, decide (z = 1)) else none) := by
  unfold readB
  rcases h with ⟨h, _⟩ | ⟨h, _⟩ | ⟨h, _⟩ | ⟨_, a1, a2, h1, h2, h3⟩
  · omega
  · omega
  · omega
  · rw [h1]; simp only; rw [h2]; simp only; rw [h3]
/-- Is a block full: the two tests of the program. -/
theorem full_cases (m k : Nat) (z : Int) : ∃ fl : Bool, (fl = true ↔ (m = 56 ∨ (z = 1 ∧ m < 56 ∧ (0 < m ∨ k = 0)))) ∧
    ((fl = true ∧ ((m : Int) == 56) = true) ∨ (fl = false ∧ ((m : Int) == 56) = false ∧ (z == 1) = false) ∨ (fl = false ∧ ((m : Int) == 56) = false ∧ (z == 1) = true ∧ decide ((m : Int) < 56) = false) ∨
      (fl = true ∧ ((m : Int) == 56) = false ∧ (z == 1) = true ∧ decide ((m : Int) < 56) = true ∧ decide (0 < m) = true) ∨
      (fl = true ∧ ((m : Int) == 56) = false ∧ (z == 1) = true ∧ decide ((m : Int) < 56) = true ∧ decide (0 < m) = false ∧ ((k : Int) == 0) = true) ∨
      (fl = false ∧ ((m : Int) == 56) = false ∧ (z == 1) = true ∧ decide ((m : Int) < 56) = true ∧ decide (0 < m) = false ∧ ((k : Int) == 0) = false)) := by
  refine ⟨decide (m = 56 ∨ (z = 1 ∧ m < 56 ∧ (0 < m ∨ k = 0))), by simp, ?_⟩
  simp only [decide_eq_true_eq, decide_eq_false_iff_not, beq_iff_eq, beq_eq_false_iff_ne, ne_eq]
  omega
theorem head_cases (x y z : Int) (r k : Nat) : ∃ hd : Bool, (hd = true ↔ (x = (r : Nat) ∧ y = (k : Nat) ∧ (z = 0 ∨ z = 1))) ∧
    ((hd = false ∧ (x == (r : Int)) = false) ∨ (hd = false ∧ (x == (r : Int)) = true ∧ (y == (k : Int)) = false) ∨ (hd = true ∧ (x == (r : Int)) = true ∧ (y == (k : Int)) = true ∧ (z == 0) = true) ∨
      (hd = true ∧ (x == (r : Int)) = true ∧ (y == (k : Int)) = true ∧ (z == 0) = false ∧ (z == 1) = true) ∨ (hd = false ∧ (x == (r : Int)) = true ∧ (y == (k : Int)) = true ∧ (z == 0) = false ∧ (z == 1) = false)) := by
  refine ⟨decide (x = (r : Nat) ∧ y = (k : Nat) ∧ (z = 0 ∨ z = 1)), by simp, ?_⟩
  simp only [decide_eq_true_eq, decide_eq_false_iff_not, beq_iff_eq, beq_eq_false_iff_ne, ne_eq]
  omega
set_option maxRecDepth 100000 in
set_option maxHeartbeats 16000000 in
theorem block_c (S : Nat → Prop) (raw : List Nat) (A : Option Addr) (c r k : Nat) (w : World) (h : RdS w S 1 A raw.length (bytesC raw)) (hb : ∀ x ∈ raw, x < 256) (hl : raw.length ≤ 1000000) (hc : raw.length ≤ c) :
    Calls Tryz.prog 68 #[.slice A raw.length c, .int .i64 (r : Nat), .int .i64 (k : Nat)] w (BlockPost (readB raw r k) w) := by
  have HO := Lib.hid h
  have HBy := Lib.hid hb
  clear h hb
  go_enter Tryz.func68, Tryz.ntmps68
  go_wp2_with fail
  go_loopg [9, 16] 3 (fun gk v9 v16 wr => ∃ (j a : Nat) (x y z : Int), j + gk = 3 ∧ v16 = .int .i64 (j : Nat) ∧ v9 = .int .i64 (a : Nat) ∧ Hid (HeadSt raw j x y z a) ∧ Bk wr w.heap.size 226 #[.int .i64 x, .int .i64 y, .int .i64 z] ∧ Below w.heap.size w wr)
  case atStart => exact ⟨0, 0, 0, 0, 0, by omega, rfl, rfl, Lib.hid (.inl ⟨rfl, rfl, rfl, rfl, rfl⟩), Bk.new _ _ _, ext_alloc (Below.refl _ _) _⟩
  case round =>
    obtain ⟨j, a, x, y, z, hjk, rfl, rfl, hst, hx, hb⟩ := hrel
    have HX := Lib.hid hx
    have HB := Lib.hid hb
    have x0 : wr.cell? ⟨w.heap.size, 0, none⟩ = some (.int .i64 x) := (hx.cell 0).trans rfl
    have x1 : wr.cell? ⟨w.heap.size, 1, none⟩ = some (.int .i64 y) := (hx.cell 1).trans rfl
    have x2 : wr.cell? ⟨w.heap.size, 2, none⟩ = some (.int .i64 z) := (hx.cell 2).trans rfl
    have hxl := hx.lt
    have hal := headSt_le hst.out
    clear hx hb
    by_cases hj : j < 3
    · cases hq : readI raw (a : Nat) with
      | bad code =>
        have HQ := Lib.hid hq
        have HR := Lib.hid (readB_bad (r := r) (k := k) hst.out hj hq)
        have hji : (j : Int) < 3 := by omega
        clear hq x0 x1 x2
        go_wp2_with (first
          | (go_at_call 138; refine (readInt_c S raw A c (a : Nat) _ (HO.out.ext HB.out) HBy.out hl).mono ?_; rintro e w2 hpost; obtain ⟨v, rfl, hE, hb⟩ := hpost.2 code HQ.out; obtain ⟨fb, s, v', n, rfl, hE⟩ := hE; have HB2 := Lib.hid (ext_trans HB.out hb); clear hE hb hpost))
        go_ret3
        exact blockPost_none HR.out HB2.out
      | ok n a' =>
        have HQ := Lib.hid hq
        have HN := Lib.hid (headSt_next hst.out hj hq)
        have hji : (j : Int) < 3 := by omega
        have hal' := (readI_behind hq).2.2
        clear hq x0 x1 x2
        rcases (show j = 0 ∨ j = 1 ∨ j = 2 by omega) with rfl | rfl | rfl
        all_goals
          go_wp2_with (first
            | (go_at_call 138; refine (readInt_c S raw A c (a : Nat) _ (HO.out.ext HB.out) HBy.out hl).mono ?_; rintro e w2 hpost; obtain ⟨rfl, hb⟩ := hpost.1 n a' HQ.out
               have HX2 := Lib.hid (HX.out.ext hb)
               have HB2 := Lib.hid (ext_trans HB.out hb)
               have x0 : w2.cell? ⟨w.heap.size, 0, none⟩ = some (.int .i64 x) := (HX2.out.cell 0).trans rfl
               have x1 : w2.cell? ⟨w.heap.size, 1, none⟩ = some (.int .i64 y) := (HX2.out.cell 1).trans rfl
               have x2 : w2.cell? ⟨w.heap.size, 2, none⟩ = some (.int .i64 z) := (HX2.out.cell 2).trans rfl
               have f0 := HX2.out.frozen 0
               have f1 := HX2.out.frozen 1
               have f2 := HX2.out.frozen 2
               have hxl2 := HX2.out.lt
               clear hb hpost))
        · go_roundg (gk - 1)
          case measure => omega
          case rel => exact ⟨1, a', n, y, z, by omega, rfl, rfl, HN, HX2.out.set_ 0 _, HB2.out.setCell (Nat.le_refl _) _⟩
        · go_roundg (gk - 1)
          case measure => omega
          case rel => exact ⟨2, a', x, n, z, by omega, rfl, rfl, HN, HX2.out.set_ 1 _, HB2.out.setCell (Nat.le_refl _) _⟩
        · go_roundg (gk - 1)
          case measure => omega
          case rel => exact ⟨3, a', x, y, n, by omega, rfl, rfl, HN, HX2.out.set_ 2 _, HB2.out.setCell (Nat.le_refl _) _⟩
    · obtain rfl : j = 3 := by omega
      have HR := Lib.hid (readB_done (r := r) (k := k) hst.out)
      obtain ⟨m, hm⟩ : ∃ m, m = raw.length - a := ⟨_, rfl⟩
      have hml : (raw.drop a).length = m := by rw [List.length_drop, hm]
      rw [hml] at HR
      have HM := Lib.hid hml
      have e1 : raw.length - a = m := hm.symm
      obtain ⟨fl, hfl, hfc⟩ := full_cases m k z
      obtain ⟨hd, hhd, hhc⟩ := head_cases x y z r k
      have HF := Lib.hid hfl
      have HH := Lib.hid hhd
      have hm56 : m ≤ 1000000 := by omega
      clear hfl hhd hml hm
      have ha0 : 0 < raw.length := by
        rcases hst.out with ⟨h, _⟩ | ⟨h, _⟩ | ⟨h, _⟩ | ⟨_, a1, a2, h1, h2, h3⟩
        · omega
        · omega
        · omega
        · have := readI_behind h3; omega
      obtain ⟨ad, rfl, _⟩ := HO.out.cell ha0
      have HRd := Lib.hid (show Rd wr wr.heap.size 5 1 (some ad) raw.length (raw.flatMap byC) from (by rw [bytesC_flat]; exact (HO.out.ext HB.out).rd (Nat.le_refl _)))
      go_upto_region 11 with fail
      go_cut [6] (fun v6 wx => ∃ A6 c6, v6 = .slice A6 m c6 ∧ Rd wr wr.heap.size 5 1 A6 m ((raw.drop a).flatMap byC) ∧ wr = wx)
      case first =>
        have e1' := Lib.hid e1
        by_cases hca : c = a
        · have hcl : raw.length = a := by omega
          clear e1
          go_wp2_with fail
          go_meet
          have hm0 : m = 0 := by have := e1'.out; omega
          refine ⟨some ad, 0, by rw [hm0], ?_, rfl⟩
          · rw [← e1'.out]; exact Rd.dropG byte_app HRd.out rfl a hal (fun h => by omega)
        · clear e1
          go_wp2_with fail
          go_meet
          refine ⟨some (ad.add a), c - a, by rw [e1'.out], ?_, rfl⟩
          · rw [← e1'.out]; exact Rd.dropG byte_app HRd.out rfl a hal (fun h => by rw [Nat.mul_one])
      case rest =>
        obtain ⟨A6, c6, rfl, hR6, rfl⟩ := hcut
        have HR6 := Lib.hid hR6
        clear hR6 e1
        go_upto_region 13 with fail
        go_cut [7, 15] (fun v7 v15 wx => v7 = .bool (z == 1) ∧ v15 = .bool fl ∧ wr = wx)
        case first =>
          clear hhc
          rcases hfc with ⟨hf, t1⟩ | ⟨hf, t1, t2⟩ | ⟨hf, t1, t2, t3⟩ | ⟨hf, t1, t2, t3, t4⟩ | ⟨hf, t1, t2, t3, t4, t5⟩ | ⟨hf, t1, t2, t3, t4, t5⟩
          all_goals
            have HFL := Lib.hid hf
            clear hf
            go_wp2_with fail
            go_meet
            rw [HFL.out]
            exact ⟨by first | rfl | rw [t2], rfl, rfl⟩
        case rest =>
          obtain ⟨rfl, rfl, rfl⟩ := hcut
          have hzz : (z == 1) = decide (z = 1) := rfl
          have HZ := Lib.hid hzz
          clear hfc hzz
          rcases hhc with ⟨hh, t1⟩ | ⟨hh, t1, t2⟩ | ⟨hh, t1, t2, t3⟩ | ⟨hh, t1, t2, t3, t4⟩ | ⟨hh, t1, t2, t3, t4⟩
          · have HHD := Lib.hid hh
            clear hh
            go_wp2_with fail
            go_ret3
            exact blockPost_none (by rw [HR.out, if_neg (fun h => by have := HH.out.2 ⟨h.1, h.2.1, h.2.2.1⟩; rw [HHD.out] at this; cases this)]) HB.out
          · have HHD := Lib.hid hh
            clear hh
            go_wp2_with fail
            go_ret3
            exact blockPost_none (by rw [HR.out, if_neg (fun h => by have := HH.out.2 ⟨h.1, h.2.1, h.2.2.1⟩; rw [HHD.out] at this; cases this)]) HB.out
          · have HHD := Lib.hid hh
            clear hh
            cases hf : fl with
            | false =>
              have HFL := Lib.hid hf
              go_wp2_with fail
              go_ret3
              exact blockPost_none (by rw [HR.out, if_neg (fun h => by have := HF.out.2 h.2.2.2; rw [HFL.out] at this; cases this)]) HB.out
            | true =>
              have HFL := Lib.hid hf
              have HS := Lib.hid (show readB raw r k = some (raw.drop a, (z == 1)) from (by rw [HR.out, if_pos ⟨(HH.out.1 HHD.out).1, (HH.out.1 HHD.out).2.1, (HH.out.1 HHD.out).2.2, HF.out.1 HFL.out⟩]; rfl))
              go_wp2_with fail
              go_ret3
              exact blockPost_some HS.out HM.out.symm (by rw [HM.out]; exact HR6.out) HB.out
          · have HHD := Lib.hid hh
            clear hh
            cases hf : fl with
            | false =>
              have HFL := Lib.hid hf
              go_wp2_with fail
              go_ret3
              exact blockPost_none (by rw [HR.out, if_neg (fun h => by have := HF.out.2 h.2.2.2; rw [HFL.out] at this; cases this)]) HB.out
            | true =>
              have HFL := Lib.hid hf
              have HS := Lib.hid (show readB raw r k = some (raw.drop a, (z == 1)) from (by rw [HR.out, if_pos ⟨(HH.out.1 HHD.out).1, (HH.out.1 HHD.out).2.1, (HH.out.1 HHD.out).2.2, HF.out.1 HFL.out⟩]; rfl))
              go_wp2_with fail
              go_ret3
              exact blockPost_some HS.out HM.out.symm (by rw [HM.out]; exact HR6.out) HB.out
          · have HHD := Lib.hid hh
            clear hh
            go_wp2_with fail
            go_ret3
            exact blockPost_none (by rw [HR.out, if_neg (fun h => by have := HH.out.2 ⟨h.1, h.2.1, h.2.2.1⟩; rw [HHD.out] at this; cases this)]) HB.out
end Go.Proofs.YtlmjjhenoadndaaGreatDoor

/- Records on a disk: the log in memory; Gone, Left. -/
namespace Go.Proofs.YtlmjjhenoadndaaGreatDoor
open Go.RowKit Go.Sort

theorem quiet_val {P : Program} {f : FuncId} {args : Array Value} {w : World} {n : Nat} {v : Value} (h : Calls P f args (w.drewN n) (Val (w.drewN n) v)) : Calls P f args (w.drewN n) fun e w'' => e = .returned v ∧ ∃ m, w'' = w.drewN m :=
  h.mono fun _ _ ⟨he, hw⟩ => ⟨he, n, hw.symm⟩
theorem quiet_val0 {P : Program} {f : FuncId} {args : Array Value} {w : World} {v : Value} (h : Calls P f args w (Val w v)) : Calls P f args w fun e w'' => e = .returned v ∧ ∃ m, w'' = w.drewN m :=
  h.mono fun _ _ ⟨he, hw⟩ => ⟨he, 0, hw.symm⟩
/-- The log: its block; the life of its disk when it was opened, how many records there are, the block behind them. -/
def LogAt (w : World) (lb db life n next : Nat) : Prop := Bk w lb 139 #[.pointer (some ⟨db, 0, none⟩), .int .i64 (life : Nat), .int .i64 (n : Nat), .int .i64 (next : Nat)]
section
variable {B db lb life n next : Nat} {R : Nat → Prop} {d : DiskD}
theorem DiskIs.drewN {w : World} (h : DiskIs B db R d w) (k : Nat) : DiskIs B db R d (w.drewN k) := h.ext (below_drewN (Below.refl _ _) k)
theorem DiskIs.room_le {w : World} (h : DiskIs B db R d w) : 1 ≤ d.room ∧ d.room ≤ 65536 ∧ d.life ≤ 1000000 := by
  obtain ⟨mb, es, wr, h⟩ := h
  exact ⟨h.room1, h.room2, h.life⟩
def goneD (d : DiskD) (life : Nat) : Bool := d.down || decide (d.life ≠ life)
set_option maxRecDepth 100000 in
set_option maxHeartbeats 4000000 in
theorem gone_c (w : World) (h : DiskIs B db R d w) (hl : LogAt w lb db life n next) : Calls Tryz.prog 70 #[.pointer (some ⟨lb, 0, none⟩)] w (BoolPost w (goneD d life)) := by
  have HD := Lib.hid h
  have z0 : w.cell? ⟨lb, 0, none⟩ = some (.pointer (some ⟨db, 0, none⟩)) := (hl.cell 0).trans rfl
  have z1 : w.cell? ⟨lb, 1, none⟩ = some (.int .i64 (life : Nat)) := (hl.cell 1).trans rfl
  have hll := hl.lt
  cases hd : d.down with
  | true =>
    have HDn := Lib.hid hd
    have HG := Lib.hid (show goneD d life = true from by unfold goneD; rw [hd]; rfl)
    have HC := Lib.hid (fun W h => dDown_c (B := B) (db := db) (R := R) (d := d) W h)
    rw [hd] at HC
    clear h hl hd
    go_enter Tryz.func70, Tryz.ntmps70
    go_wp2_with fail
    go_quiet ((go_at_call 64; exact quiet_val (HC.out _ (HD.out.drewN _))))
    go_wp2_with fail
    go_ret
    rw [HG.out]
    exact ⟨rfl, below_drewN (Below.refl _ _) _⟩
  | false =>
    have HC := Lib.hid (fun W h => dDown_c (B := B) (db := db) (R := R) (d := d) W h)
    rw [hd] at HC
    have HL := Lib.hid (fun W h => dLife_c (B := B) (db := db) (R := R) (d := d) W h)
    have HG := Lib.hid (show goneD d life = decide (d.life ≠ life) from by unfold goneD; rw [hd]; rfl)
    clear h hl hd
    by_cases he : d.life = life
    · have u0 : ((d.life : Int) != (life : Int)) = false := by rw [he]; simp
      have HE := Lib.hid (show decide (d.life ≠ life) = false from by simp [he])
      clear he
      go_enter Tryz.func70, Tryz.ntmps70
      go_wp2_with fail
      go_quiet (first | (go_at_call 64; exact quiet_val (HC.out _ (HD.out.drewN _))) | (go_at_call 65; exact quiet_val (HL.out _ (HD.out.drewN _))))
      go_wp2_with fail
      go_ret
      rw [HG.out, HE.out]
      exact ⟨rfl, below_drewN (Below.refl _ _) _⟩
    · have u0 : ((d.life : Int) != (life : Int)) = true := by rw [bne_iff_ne]; omega
      have HE := Lib.hid (show decide (d.life ≠ life) = true from by simp [he])
      clear he
      go_enter Tryz.func70, Tryz.ntmps70
      go_wp2_with fail
      go_quiet (first | (go_at_call 64; exact quiet_val (HC.out _ (HD.out.drewN _))) | (go_at_call 65; exact quiet_val (HL.out _ (HD.out.drewN _))))
      go_wp2_with fail
      go_ret
      rw [HG.out, HE.out]
      exact ⟨rfl, below_drewN (Below.refl _ _) _⟩
set_option maxRecDepth 100000 in
set_option maxHeartbeats 4000000 in
theorem left_c (w : World) (h : DiskIs B db R d w) (hl : LogAt w lb db life n next) (hn : next ≤ d.room) : Calls Tryz.prog 72 #[.pointer (some ⟨lb, 0, none⟩)] w (IntPost w (d.room - next : Nat)) := by
  have HD := Lib.hid h
  have hr := h.room_le.2.1
  have z0 : w.cell? ⟨lb, 0, none⟩ = some (.pointer (some ⟨db, 0, none⟩)) := (hl.cell 0).trans rfl
  have z3 : w.cell? ⟨lb, 3, none⟩ = some (.int .i64 (next : Nat)) := (hl.cell 3).trans rfl
  have hll := hl.lt
  have HC := Lib.hid (fun W h => dRoom_c (B := B) (db := db) (R := R) (d := d) W h)
  obtain ⟨m, hm⟩ : ∃ m, m = d.room - next := ⟨_, rfl⟩
  have e1 : IntKind.i64.wrap ((d.room : Int) - (next : Nat)) = (m : Nat) := by rw [show (d.room : Int) - (next : Nat) = (m : Nat) by omega]; exact IntWalk.i64_in _ (by omega)
  rw [← hm]
  clear h hl hm
  go_enter Tryz.func72, Tryz.ntmps72
  go_wp2_with fail
  go_quiet ((go_at_call 66; exact quiet_val (HC.out _ (HD.out.drewN _))))
  go_wp2_with fail
  go_ret
  exact ⟨rfl, below_drewN (Below.refl _ _) _⟩
end
end Go.Proofs.YtlmjjhenoadndaaGreatDoor

/- Records on a disk: Open of the program. -/
namespace Go.Proofs.YtlmjjhenoadndaaGreatDoor
open Go.RowKit Go.Sort

/-- A slice of bytes, of its own. -/
structure By where
  A : Option Addr
  c : Nat
  l : List Nat
def bsC (x : By) : List Value := [.slice x.A x.l.length x.c]
theorem bs_app : AppC bsC 25 39 1 24 (.slice none 0 0) :=
  ⟨Tryz.underlying25, by kernel_rfl, rfl, by decide, fun _ => rfl, fun x u hu => by simp only [bsC, List.mem_cons, List.not_mem_nil, or_false] at hu; subst hu; rfl, by decide⟩
/-- A record that was read whole: in a block of bytes below b0. -/
def Fin_ (w : World) (b0 : Nat) (x : By) : Prop := Rd w 0 5 1 x.A x.l.length (x.l.flatMap byC) ∧ (0 < x.l.length → ∃ ad, x.A = some ad ∧ ad.block < b0)
theorem Fin_.ext {w w' : World} {b0 : Nat} {x : By} (h : Fin_ w b0 x) (hb : Below w.heap.size w w') : Fin_ w' b0 x := ⟨h.1.ext hb, h.2⟩
theorem Fin_.mono {w : World} {b0 b1 : Nat} {x : By} (h : Fin_ w b0 x) (hb : b0 ≤ b1) : Fin_ w b1 x := ⟨h.1, fun h0 => by obtain ⟨ad, h1, h2⟩ := h.2 h0; exact ⟨ad, h1, by omega⟩⟩
theorem Fin_.grown {w w' : World} {b0 : Nat} {x : By} {row : Option Nat} (h : Fin_ w b0 x) (hg : w.grownBy w' row) (hr : ∀ k, row = some k → b0 ≤ k) : Fin_ w' b0 x :=
  ⟨h.1.same fun h0 ad hA hl => by
    obtain ⟨ad', hA', hb⟩ := h.2 h0
    rw [hA] at hA'
    injection hA' with hA'
    subst hA'
    exact hg.block _ hl (fun e => by have := hr _ e.symm; omega), h.2⟩
theorem Fin_.grownOwn {w w' : World} {b0 base z m : Nat} {x : By} {e : TypeId} {v : Value} {ys : List Value} (h : Fin_ w b0 x) (hown : w.ownsRow base e z v m ys) (hne : e ≠ 5) (hg : w.grownBy w' v.ownBlock) : Fin_ w' b0 x := ⟨h.1.grownOwn hown hne (Nat.zero_le _) hg, h.2⟩
def LOpenPost (db : Nat) (d : DiskD) (w : World) (e : Ending) (w' : World) : Prop :=
  ∃ (lb : Nat) (A : Option Addr) (c : Nat) (xs : List By), e = .returned (.tuple #[.pointer (some ⟨lb, 0, none⟩), .slice A xs.length c, .nilIface]) ∧ xs.map (·.l) = (openD d).1 ∧ LogAt w' lb db d.life (openD d).1.length (openD d).2 ∧
    w'.ownsRow w.heap.size 39 1 (.slice A xs.length c) xs.length (xs.flatMap bsC) ∧ (∀ x ∈ xs, Rd w' 0 5 1 x.A x.l.length (x.l.flatMap byC)) ∧ Below w.heap.size w w' ∧ w.heap.size ≤ lb
theorem readB_nil (r k : Nat) : readB [] r k = none := by unfold readB readI; rfl
theorem readB_len {raw data : List Nat} {r k : Nat} {last : Bool} (h : readB raw r k = some (data, last)) : data.length ≤ 56 ∧ (∀ x ∈ data, x ∈ raw) := by
  unfold readB at h
  split at h
  · cases h
  · split at h
    · cases h
    · split at h
      · cases h
      · simp only at h
        split at h
        · next hc =>
          have hx := Option.some.inj h
          simp only [Prod.mk.injEq] at hx
          obtain ⟨h1, h2⟩ := hx
          rw [← h1]
          refine ⟨by omega, fun x hx => List.mem_of_mem_drop hx⟩
        · cases h
theorem own_blocks_ne {w : World} {base base' z z' n n' k : Nat} {e e' : TypeId} {v v' : Value} {xs xs' : List Value} (h : w.ownsRow base e z v n xs) (h' : w.ownsRow base' e' z' v' n' xs') (hne : e ≠ e') (hk : v.ownBlock = some k) (hk' : v'.ownBlock = some k) : False := by
  rcases own_ne_own h h' hne with h1 | h1
  · rw [h1] at hk; cases hk
  · rw [hk, hk'] at h1; exact h1 rfl
theorem fin_of_own {w w' : World} {base base' m c n : Nat} {v : Value} {ys : List Value} {A : Option Addr} {rd : List Nat} {o : Obj} (ho : (w.alloc o).ownsRow base 39 m v n ys) (hg : (w.alloc o).grownBy w' v.ownBlock) (h : w.ownsRow base' 5 1 (.slice A rd.length c) rd.length (rd.flatMap byC)) : Fin_ w' w'.heap.size ⟨A, c, rd⟩ := by
  refine ⟨((Rd.of_own (B := 0) h).alloc o).grownOwn ho (by decide) (Nat.zero_le _) hg, fun h0 => ?_⟩
  obtain ⟨gg, hgg, hg1, _⟩ := own_some h h0
  refine ⟨_, hgg, ?_⟩
  have h1 := (h.lt gg (by rw [hgg]; rfl)).2
  have h2 := hg.size
  simp only [World.size_alloc] at h2
  show gg < _
  omega
section
variable {B db : Nat} {R : Nat → Prop} {d : DiskD}
def DReadSome (raw : List Nat) (w : World) (e : Ending) (w' : World) : Prop :=
  ∃ A c, e = .returned (.tuple #[.slice A raw.length c, .bool true, .nilIface]) ∧ RdS w' (fun _ => True) 1 A raw.length (bytesC raw) ∧ raw.length ≤ c ∧ Below w.heap.size w w'
theorem dRead_some {a : Nat} {raw : List Nat} {w : World} (h : DiskIs B db R d w) (hd : d.down = false) (ha : a < d.room) (hr : d.blk a = some raw) : Calls Tryz.prog 67 #[.pointer (some ⟨db, 0, none⟩), .int .i64 (a : Nat)] w (DReadSome raw w) :=
  (dRead_c a w h hd ha).mono fun e w' hp => by
    rw [hr] at hp
    obtain ⟨A, c, he, ho, hb⟩ := hp
    simp only [Option.getD_some, Option.isSome_some] at he ho
    obtain ⟨_, _, hv, hc⟩ := own_shape ho
    have h1 := RdS.of_own (S := fun _ => True) ho (fun _ _ => trivial)
    rw [bytesC_flat] at h1
    exact ⟨A, c, he, h1, by injection hv with _ _ hv; omega, hb⟩
set_option maxRecDepth 100000 in
set_option maxHeartbeats 16000000 in
theorem lOpen_c (w : World) (h : DiskIs B db R d w) (hd : d.down = false) : Calls Tryz.prog 11 #[.pointer (some ⟨db, 0, none⟩)] w (LOpenPost db d w) := by
  have HD := Lib.hid h
  have HDn := Lib.hid hd
  have hroom := h.room_le
  have HC := Lib.hid (fun W h => dDown_c (B := B) (db := db) (R := R) (d := d) W h)
  rw [hd] at HC
  have HLf := Lib.hid (fun W h => dLife_c (B := B) (db := db) (R := R) (d := d) W h)
  have HRm := Lib.hid (fun W h => dRoom_c (B := B) (db := db) (R := R) (d := d) W h)
  have HBy := Lib.hid (show ∀ n l, d.blk n = some l → (∀ x ∈ l, x < 256) ∧ l.length ≤ 64 from by
    obtain ⟨mb, es, wr, h⟩ := h
    intro n l hl
    have h1 := h.all n
    rw [hl] at h1
    cases hg : mget es ((n : Nat) : Int) with
    | none => rw [hg] at h1; cases h1
    | some v =>
      obtain ⟨n', l', A, c, e1, e2, _, _, e3, e4⟩ := h.ent _ _ (mget_mem hg)
      obtain rfl : n' = n := by omega
      rw [hl] at e2
      cases e2
      exact ⟨e3, e4⟩)
  clear h hd
  go_enter Tryz.func11, Tryz.ntmps11
  go_wp2_with (first
    | (go_at_call 64; refine (HC.out _ HD.out).mono ?_; rintro e w' ⟨rfl, rfl⟩)
    | (go_at_call 65; refine (HLf.out _ HD.out).mono ?_; rintro e w' ⟨rfl, rfl⟩))
  obtain ⟨lb, hlbe⟩ : ∃ lb, lb = w.heap.size := ⟨_, rfl⟩
  have hlb : w.heap.size ≤ lb := by omega
  have HL0 := Lib.hid (Bk.new w 139 #[.pointer (some ⟨db, 0, none⟩), .int .i64 (d.life : Nat), .int .i64 0, .int .i64 0])
  rw [← hlbe] at HL0 ⊢
  have HS0 := Lib.hid (show openD d = scan d.blk d.room 0 [] [] 0 0 from rfl)
  clear hlbe
  go_loopg [6, 7, 8, 9] d.room (fun gk v6 v7 v8 v9 wr => ∃ (at_ place nx b0 : Nat) (xs : List By) (rec : List Nat), at_ + gk = d.room ∧ v9 = .int .i64 (at_ : Nat) ∧ v8 = .int .i64 (place : Nat) ∧ place ≤ at_ ∧ xs.length ≤ at_ ∧ rec.length ≤ 64 * at_ ∧ nx ≤ at_ ∧
    Hid (openD d = scan d.blk gk at_ (xs.map (·.l)) rec place nx) ∧ wr.ownsRow w.heap.size 39 1 v6 xs.length (xs.flatMap bsC) ∧ wr.ownsRow b0 5 1 v7 rec.length (rec.flatMap byC) ∧ w.heap.size ≤ b0 ∧ b0 ≤ wr.heap.size ∧
    (∀ x ∈ xs, Fin_ wr b0 x) ∧ Bk wr lb 139 #[.pointer (some ⟨db, 0, none⟩), .int .i64 (d.life : Nat), .int .i64 0, .int .i64 (nx : Nat)] ∧ Below w.heap.size w wr)
  case atStart => exact ⟨0, 0, 0, w.heap.size, [], [], by omega, rfl, rfl, Nat.le_refl _, by simp, by simp, Nat.le_refl _, HS0, World.ownsRow_nil _ _ _ _, World.ownsRow_nil _ _ _ _, Nat.le_refl _, by simp, (fun x hx => by cases hx), HL0.out, ext_alloc (Below.refl _ _) _⟩
  case round =>
    obtain ⟨at_, place, nx, b0, xs, rec, hak, rfl, rfl, hpl, hxl, hrl, hnx, hsc, ho6, ho7, hb01, hb02, hfin, hL, hb⟩ := hrel
    obtain ⟨A6, c6, rfl, hc6⟩ := own_shape ho6
    obtain ⟨A7, c7, rfl, hc7⟩ := own_shape ho7
    have HO6 := Lib.hid ho6
    have HO7 := Lib.hid ho7
    have HF := Lib.hid hfin
    have HL := Lib.hid hL
    have HB := Lib.hid hb
    have HDr := Lib.hid (HD.out.ext hb)
    clear ho6 ho7 hfin hL hb
    by_cases hlt : at_ < d.room
    · obtain ⟨g, rfl⟩ : ∃ g, gk = g + 1 := ⟨gk - 1, by omega⟩
      have HRd := Lib.hid (dRead_c (B := B) (db := db) (R := R) (d := d) at_ wr HDr.out HDn.out hlt)
      cases hbk : d.blk at_ with
      | none =>
        rw [hbk] at HRd
        have HSt := Lib.hid (show openD d = (xs.map (·.l), nx) from (by have h := hsc.out; rw [scan, hbk] at h; exact h))
        clear hbk
        have HBC := Lib.hid (fun W A c h => block_c (fun _ => True) [] A c (xs.length + 1) place W h (by simp) (by simp) (Nat.zero_le _))
        go_upto_region 23 with (first
          | (go_at_call 66; refine (HRm.out _ HDr.out).mono ?_; rintro e w' ⟨rfl, rfl⟩)
          | (go_at_call 67; refine HRd.out.mono ?_; rintro e w2 ⟨A2, c2, rfl, ho2, hb2⟩; have HB2 := Lib.hid hb2; clear ho2 hb2)
          | (go_at_call 68; refine (HBC.out _ _ _ RdS.none_).mono ?_; rw [readB_nil]; rintro e w3 hpost; obtain ⟨v1, v2, rfl, hb3⟩ := hpost.2 rfl; have HB3 := Lib.hid (ext_trans HB2.out hb3); clear hb3 hpost))
        have HL3 := Lib.hid (HL.out.ext HB3.out)
        have HO63 := Lib.hid (own_ext HO6.out HB3.out)
        have HF3 := Lib.hid (fun x hx => (HF.out x hx).ext HB3.out)
        have HBB3 := Lib.hid (ext_trans HB.out HB3.out)
        have HS := Lib.hid (show openD d = (xs.map (·.l), nx) from HSt.out)
        have z1 : w3.cell? ⟨lb, 1, none⟩ = some (.int .i64 (d.life : Nat)) := (HL3.out.cell 1).trans rfl
        have z2 : w3.cell? ⟨lb, 2, none⟩ = some (.int .i64 0) := (HL3.out.cell 2).trans rfl
        have f2 := HL3.out.frozen 2
        have hll := HL3.out.lt
        go_wp2_with fail
        go_ret3
        unfold LOpenPost
        rw [HS.out]
        refine ⟨lb, A6, c6, xs, rfl, by show _ = _; rfl, ?_, ?_, fun x hx => ?_, ?_, hlb⟩
        · show Bk _ lb _ _
          rw [List.length_map]
          exact HL3.out.set_ 2 _
        · exact own_far HL3.out HO63.out (by decide) 2 _
        · exact (HF3.out x hx).1.farBk (Nat.zero_le _) HL3.out (by decide) _
        · exact HBB3.out.setCell (by show w.heap.size ≤ lb; exact hlb) _
      | some raw =>
        have HRd := Lib.hid (dRead_some (w := wr) HDr.out HDn.out hlt hbk)
        obtain ⟨hrby, hr64⟩ := HBy.out at_ raw hbk
        have HRb := Lib.hid hrby
        have HSt := Lib.hid (show openD d = (match readB raw (xs.length + 1) place with
            | none => (xs.map (·.l), nx)
            | some (data, true) => scan d.blk g (at_ + 1) (xs.map (·.l) ++ [rec ++ data]) [] 0 (at_ + 1)
            | some (data, false) => scan d.blk g (at_ + 1) (xs.map (·.l)) (rec ++ data) (place + 1) nx) from (by have h := hsc.out; rw [scan, hbk] at h; simp only [List.length_map] at h; exact h))
        clear hbk hrby
        have HBC := Lib.hid (fun W S A c h hc => block_c S raw A c (xs.length + 1) place W h HRb.out (by omega) hc)
        cases hrd : readB raw (xs.length + 1) place with
        | none =>
          rw [hrd] at HSt HBC
          clear hrd
          go_upto_region 23 with (first
            | (go_at_call 66; refine (HRm.out _ HDr.out).mono ?_; rintro e w' ⟨rfl, rfl⟩)
            | (go_at_call 67; refine HRd.out.mono ?_; rintro e w2 ⟨A2, c2, rfl, hr2, hc2, hb2⟩; have HB2 := Lib.hid hb2; have HR2 := Lib.hid hr2; clear hr2 hb2)
            | (go_at_call 68; refine (HBC.out _ (fun _ => True) _ _ HR2.out hc2).mono ?_; rintro e w3 hpost; obtain ⟨v1, v2, rfl, hb3⟩ := hpost.2 rfl; have HB3 := Lib.hid (ext_trans HB2.out hb3); clear hb3 hpost))
          have HL3 := Lib.hid (HL.out.ext HB3.out)
          have HO63 := Lib.hid (own_ext HO6.out HB3.out)
          have HF3 := Lib.hid (fun x hx => (HF.out x hx).ext HB3.out)
          have HBB3 := Lib.hid (ext_trans HB.out HB3.out)
          have HS := Lib.hid (show openD d = (xs.map (·.l), nx) from HSt.out)
          have z1 : w3.cell? ⟨lb, 1, none⟩ = some (.int .i64 (d.life : Nat)) := (HL3.out.cell 1).trans rfl
          have z2 : w3.cell? ⟨lb, 2, none⟩ = some (.int .i64 0) := (HL3.out.cell 2).trans rfl
          have f2 := HL3.out.frozen 2
          have hll := HL3.out.lt
          go_wp2_with fail
          go_ret3
          unfold LOpenPost
          rw [HS.out]
          refine ⟨lb, A6, c6, xs, rfl, by show _ = _; rfl, ?_, ?_, fun x hx => ?_, ?_, hlb⟩
          · show Bk _ lb _ _
            rw [List.length_map]
            exact HL3.out.set_ 2 _
          · exact own_far HL3.out HO63.out (by decide) 2 _
          · exact (HF3.out x hx).1.farBk (Nat.zero_le _) HL3.out (by decide) _
          · exact HBB3.out.setCell (by show w.heap.size ≤ lb; exact hlb) _
        | some x =>
          obtain ⟨data, last⟩ := x
          rw [hrd] at HSt HBC
          obtain ⟨hd56, hdm⟩ := readB_len hrd
          have HDM := Lib.hid hdm
          clear hrd hdm
          go_upto_region 17 with (first
            | (go_at_call 66; refine (HRm.out _ HDr.out).mono ?_; rintro e w' ⟨rfl, rfl⟩)
            | (go_at_call 67; refine HRd.out.mono ?_; rintro e w2 ⟨A2, c2, rfl, hr2, hc2, hb2⟩; have HB2 := Lib.hid hb2; have HR2 := Lib.hid hr2; clear hr2 hb2)
            | (go_at_call 68; refine (HBC.out _ (fun _ => True) _ _ HR2.out hc2).mono ?_; rintro e w3 hpost; obtain ⟨A3, c3, rfl, hR3, hb3⟩ := hpost.1 data last rfl; have HB3 := Lib.hid (ext_trans HB2.out hb3); have HR3 := Lib.hid hR3; clear hb3 hR3 hpost))
          have HL3 := Lib.hid (HL.out.ext HB3.out)
          have HO63 := Lib.hid (own_ext HO6.out HB3.out)
          have HO73 := Lib.hid (own_ext HO7.out HB3.out)
          have HF3 := Lib.hid (fun x hx => (HF.out x hx).ext HB3.out)
          have HBB3 := Lib.hid (ext_trans HB.out HB3.out)
          have hb3l : b0 ≤ w3.heap.size := Nat.le_trans hb02 HB3.out.size
          have hpl2 : place ≤ 65536 := by omega
          obtain ⟨rd, hrde⟩ : ∃ rd, rd = rec ++ data := ⟨_, rfl⟩
          have hrdl : rd.length = rec.length + data.length := by rw [hrde, List.length_append]
          have HRDL := Lib.hid hrdl
          have HRDE := Lib.hid hrde
          clear hrdl hrde
          cases last with
          | false =>
            have HSn := Lib.hid (show openD d = scan d.blk g (at_ + 1) (xs.map (·.l)) rd (place + 1) nx from (by rw [HRDE.out]; exact HSt.out))
            go_wp2_with (first
              | (at_builtin; refine wpList_appR byte_app _ rfl (.tmp 63) (.tmp 64) rfl b0 (.slice A7 rec.length c7) rec (by rfl) HO73.out data w3.heap.size A3 data.length c3 (by rfl) rfl HR3.out (by omega) hb3l ?_; intro A4 c4 w4 hown4 hg4 hc4
                 rw [← HRDE.out] at hown4 ⊢
                 have HO4 := Lib.hid hown4
                 have HF4 := Lib.hid (fun x hx => (HF3.out x hx).grown hg4 (fun k hk => (HO73.out.lt k hk).1))
                 have HL4 := Lib.hid (HL3.out.grown hg4 (fun e => own_blk_ne' HO73.out HL3.out (by decide) e.symm))
                 have HO64 := Lib.hid (own_fr (S := fun k => (Value.slice A7 rec.length c7).ownBlock = some k) HO63.out (Fr.refl.grown hg4 (fun k hk => .inl hk)) (fun k hk hk' => own_blocks_ne HO63.out HO73.out (by decide) hk hk'))
                 have HB4 := Lib.hid (below_grownOwn HBB3.out HO73.out hb01 hg4)
                 have hs4 := hg4.size
                 clear hown4 hg4))
            go_roundg g
            case measure => omega
            case rel => exact ⟨at_ + 1, place + 1, nx, b0, xs, rd, by omega, by go_num, by go_num, by omega, by omega, by have := HRDL.out; omega, by omega, HSn, HO64.out, HO4.out, hb01, by omega, HF4.out, HL4.out, HB4.out⟩
          | true =>
            have HSn := Lib.hid (show openD d = scan d.blk g (at_ + 1) (xs.map (·.l) ++ [rd]) [] 0 (at_ + 1) from (by rw [HRDE.out]; exact HSt.out))
            have hx0 : xs.length ≤ 65536 := by omega
            go_wp2_with (first
              | (at_builtin
                 refine wpList_appE bs_app _ rfl (.tmp 69) (.tmp 71) rfl w.heap.size (.slice A6 xs.length c6) xs (by rfl) (HO64.out.alloc _) ⟨A4, c4, rd⟩ _ rfl (Bk.new _ _ _) (by omega) (by have := HB4.out.size; simp only [World.size_alloc]; omega) ?_; intro A5 c5 w5 hown5 hg5 hc5
                 have HO5 := Lib.hid hown5
                 have hOa := HO64.out.alloc (.cells (bsC ⟨A4, c4, rd⟩).toArray 39)
                 have HF5 := Lib.hid (fun x hx => ((HF4.out x hx).ext (ext_alloc (Below.refl w4.heap.size w4) (.cells (bsC ⟨A4, c4, rd⟩).toArray 39))).grownOwn hOa (by decide) hg5)
                 have HN5 := Lib.hid (fin_of_own hOa hg5 HO4.out)
                 have HL5 := Lib.hid ((HL4.out.alloc (.cells (bsC ⟨A4, c4, rd⟩).toArray 39)).grown hg5 (fun e => own_blk_ne' hOa (HL4.out.alloc (.cells (bsC ⟨A4, c4, rd⟩).toArray 39)) (by decide) e.symm))
                 have HB5 := Lib.hid (below_grownOwn (ext_alloc HB4.out (.cells (bsC ⟨A4, c4, rd⟩).toArray 39)) hOa (Nat.le_refl _) hg5)
                 have l3 : w5.cell? ⟨lb, 3, none⟩ = some (.int .i64 (nx : Nat)) := (HL5.out.cell 3).trans rfl
                 have lf3 := HL5.out.frozen 3
                 have ll5 := HL5.out.lt
                 have hs5 : w4.heap.size ≤ w5.heap.size := by have := hg5.size; simp only [World.size_alloc] at this; omega
                 clear hown5 hg5 hOa)
              | (at_builtin; refine wpList_appR byte_app _ rfl (.tmp 63) (.tmp 64) rfl b0 (.slice A7 rec.length c7) rec (by rfl) HO73.out data w3.heap.size A3 data.length c3 (by rfl) rfl HR3.out (by omega) hb3l ?_; intro A4 c4 w4 hown4 hg4 hc4
                 rw [← HRDE.out] at hown4 ⊢
                 have HO4 := Lib.hid hown4
                 have HF4 := Lib.hid (fun x hx => (HF3.out x hx).grown hg4 (fun k hk => (HO73.out.lt k hk).1))
                 have HL4 := Lib.hid (HL3.out.grown hg4 (fun e => own_blk_ne' HO73.out HL3.out (by decide) e.symm))
                 have HO64 := Lib.hid (own_fr (S := fun k => (Value.slice A7 rec.length c7).ownBlock = some k) HO63.out (Fr.refl.grown hg4 (fun k hk => .inl hk)) (fun k hk hk' => own_blocks_ne HO63.out HO73.out (by decide) hk hk'))
                 have HB4 := Lib.hid (below_grownOwn HBB3.out HO73.out hb01 hg4)
                 have hs4 := hg4.size
                 clear hown4 hg4))
            go_roundg g
            case measure => omega
            case rel =>
              refine ⟨at_ + 1, 0, at_ + 1, w5.heap.size, xs ++ [⟨A4, c4, rd⟩], [], by omega, by go_num, rfl, by omega, by simp; omega, by simp, Nat.le_refl _, Lib.hid (by rw [HSn.out, List.map_append]; rfl), ?_, World.ownsRow_nil _ _ _ _, by omega, by simp, fun x hx => ?_, ?_, HB5.out.setCell (by show w.heap.size ≤ lb; exact hlb) _⟩
              · have h := own_far HL5.out HO5.out (by decide) 3 (.int .i64 ((at_ : Int) + 1))
                rw [show (xs ++ [(⟨A4, c4, rd⟩ : By)]).length = xs.length + 1 from by simp] at h ⊢
                exact h
              · have hx' : Fin_ w5 w5.heap.size x := by
                  rcases List.mem_append.1 hx with hx | hx
                  · exact (HF5.out x hx).mono (by omega)
                  · rw [List.mem_singleton] at hx; rw [hx]; exact HN5.out
                exact ⟨hx'.1.farBk (Nat.zero_le _) HL5.out (by decide) _, hx'.2⟩
              · exact HL5.out.set_ 3 _
    · have hg0 : gk = 0 := by omega
      subst hg0
      have HS := Lib.hid (show openD d = (xs.map (·.l), nx) from hsc.out)
      have z1 : wr.cell? ⟨lb, 1, none⟩ = some (.int .i64 (d.life : Nat)) := (HL.out.cell 1).trans rfl
      have z2 : wr.cell? ⟨lb, 2, none⟩ = some (.int .i64 0) := (HL.out.cell 2).trans rfl
      have f2 := HL.out.frozen 2
      have hll := HL.out.lt
      go_wp2_with (first | (go_at_call 66; refine (HRm.out _ HDr.out).mono ?_; rintro e w' ⟨rfl, rfl⟩))
      go_ret3
      unfold LOpenPost
      rw [HS.out]
      refine ⟨lb, A6, c6, xs, rfl, by show _ = _; rfl, ?_, ?_, fun x hx => ?_, ?_, hlb⟩
      · show Bk _ lb _ _
        rw [List.length_map]
        exact HL.out.set_ 2 _
      · exact own_far HL.out HO6.out (by decide) 2 _
      · exact (HF.out x hx).1.farBk (Nat.zero_le _) HL.out (by decide) _
      · exact HB.out.setCell (by show w.heap.size ≤ lb; exact hlb) _
end
end Go.Proofs.YtlmjjhenoadndaaGreatDoor

/- Records on a disk: Append of the program. -/
namespace Go.Proofs.YtlmjjhenoadndaaGreatDoor
open Go.RowKit Go.Sort

/-- m blocks of a record, from the k-th on: the disk, and whether all were kept. -/
def writeAll (r p : Nat) (b : List Nat) : Nat → Nat → DiskD → DiskD × Bool
  | 0, _, d => (d, true)
  | m + 1, k, d => if (d.write (p + k) (blockB r b k)).2 then writeAll r p b m (k + 1) (d.write (p + k) (blockB r b k)).1 else ((d.write (p + k) (blockB r b k)).1, false)
/-- What becomes of the disk when a record is appended, and the error's number. -/
def appendD (d : DiskD) (life n next : Nat) (b : List Nat) : DiskD × Option Int :=
  if goneD d life then (d, some 70)
  else if d.room - next < blocksN b.length then (d, some 71)
  else let x := writeAll (n + 1) next b (blocksN b.length) 0 d; (x.1, if x.2 then none else some 70)
theorem TypeVar.fr {S : Nat → Prop} {w w' : World} (h : TypeVar w) (hf : Fr S w w') (hn : ¬ S 0) : TypeVar w' := by
  have hl := World.block_lt_of_cell? w _ h
  exact (World.cell?_of_block (a := ⟨0, 0, none⟩) (hf.block _ hl hn)).trans h
def LAppPost (B db lb life n next : Nat) (R : Nat → Prop) (nb : Nat) (x : DiskD × Option Int) (w : World) (e : Ending) (w' : World) : Prop :=
  (x.2 = none → e = .returned .nilIface ∧ LogAt w' lb db life (n + 1) (next + nb)) ∧ (∀ c, x.2 = some c → ∃ v at_, e = .returned v ∧ ErrAt w' v at_ c ∧ LogAt w' lb db life n next) ∧
  ∃ R' : Nat → Prop, DiskIs B db R' x.1 w' ∧ Fr (fun k => R k ∨ k = lb) w w' ∧ (∀ k, R' k → R k ∨ w.heap.size ≤ k)
theorem write_room (d : DiskD) (n : Nat) (l : List Nat) : (d.write n l).1.room = d.room := by
  unfold DiskD.write
  split
  · rfl
  · split <;> rfl
theorem write_life {d : DiskD} {n : Nat} {l : List Nat} (h : (d.write n l).2 = true) : (d.write n l).1.life = d.life := by
  unfold DiskD.write at h ⊢
  split
  · rfl
  · next h1 =>
    rw [if_neg h1] at h
    split
    · next h2 => rw [if_pos h2] at h; cases h
    · rfl
theorem write_down {d : DiskD} {n : Nat} {l : List Nat} (h : (d.write n l).2 = true) : (d.write n l).1.down = false := by
  unfold DiskD.write at h ⊢
  split
  · next h1 => rw [if_pos h1] at h; cases h
  · next h1 =>
    rw [if_neg h1] at h
    split
    · next h2 => rw [if_pos h2] at h; cases h
    · rfl
theorem part_slice (b : List Nat) (k : Nat) : partB b k = (b.take (min (56 * (k + 1)) b.length)).drop (56 * k) := by
  unfold partB
  rw [List.drop_take]
  by_cases h : 56 * (k + 1) ≤ b.length
  · rw [Nat.min_eq_left h]
    congr 1
    omega
  · rw [Nat.min_eq_right (by omega), List.take_of_length_le (by rw [List.length_drop]; omega), List.take_of_length_le (by rw [List.length_drop]; omega)]
theorem RdS.sub {w : World} {S : Nat → Prop} {ad : Addr} {n u m : Nat} {xs : List Value} (h : RdS w S 1 (some ad) n xs) (hu : u + m ≤ n) : RdS w S 1 (some (ad.add (u * 1))) m ((xs.drop u).take m) := by
  have hl := h.1
  refine ⟨by rw [List.length_take, List.length_drop]; omega, fun h0 => ?_⟩
  obtain ⟨ad', hA, hS, hlt, hc⟩ := h.2 (by omega)
  injection hA with hA
  subst hA
  refine ⟨_, rfl, by rw [block_of_add]; exact hS, by rw [block_of_add]; exact hlt, fun j v hv => ?_⟩
  rw [List.getElem?_take] at hv
  split at hv
  · rw [List.getElem?_drop] at hv
    have := hc (u + j) v hv
    rw [add_of_add, Nat.mul_one]
    exact this
  · cases hv
theorem part_bytes (b : List Nat) (k m : Nat) (hm : m = (partB b k).length) : bytesC (partB b k) = ((bytesC b).drop (k * 56)).take m := by
  unfold bytesC partB at *
  rw [List.map_take, List.map_drop, Nat.mul_comm]
  rw [List.length_take, List.length_drop] at hm
  by_cases h : 56 ≤ b.length - 56 * k
  · rw [show m = 56 by omega, Nat.mul_comm]
  · rw [List.take_of_length_le (by simp; omega), List.take_of_length_le (by simp; omega), Nat.mul_comm]
section
variable {B db lb life n next : Nat} {R : Nat → Prop} {d : DiskD}
set_option maxRecDepth 100000 in
set_option maxHeartbeats 16000000 in
theorem lAppend_c (S : Nat → Prop) (b : List Nat) (A : Option Addr) (c : Nat) (w : World) (h : DiskIs B db R d w) (hL : LogAt w lb db life n next) (hlb : ¬ R lb) (hlbB : B ≤ lb) (hg : TypeVar w) (hgB : 0 < B)
    (hr : RdS w S 1 A b.length (bytesC b)) (hS : ∀ k, S k → ¬ R k ∧ k ≠ lb) (hby : ∀ x ∈ b, x < 256) (hb0 : 0 < b.length) (hbl : b.length ≤ 1000000) (hbc : b.length ≤ c) (hn : n ≤ 65536) (hnx : next ≤ d.room) (hlf : d.life + 1 ≤ 1000000) :
    Calls Tryz.prog 13 #[.pointer (some ⟨lb, 0, none⟩), .slice A b.length c] w (LAppPost B db lb life n next R (blocksN b.length) (appendD d life n next b) w) := by
  have HD := Lib.hid h
  have HL := Lib.hid hL
  have hroom := h.room_le
  have HG := Lib.hid (gone_c w h hL)
  have HLe := Lib.hid (fun W h hl => left_c (B := B) (db := db) (lb := lb) (life := life) (n := n) (next := next) (R := R) (d := d) W h hl hnx)
  have hll := hL.lt
  have hlbw : lb < w.heap.size := hL.lt
  have hbp := blocksN_pos b.length
  have hnb : blocksN b.length ≤ 20000 := by unfold blocksN; omega
  cases hgn : goneD d life with
  | true =>
    have HA := Lib.hid (show appendD d life n next b = (d, some 70) from by unfold appendD; rw [if_pos hgn])
    rw [hgn] at HG
    clear h hL hg hr hS hby hgn
    go_enter Tryz.func13, Tryz.ntmps13
    go_wp2_with (first
      | (go_at_call 70; refine HG.out.mono ?_; rintro e w1 ⟨rfl, hb⟩; have HB1 := Lib.hid hb; clear hb)
      | (go_at_call 63; refine (logFault_c 0 _ 70 _ rfl).mono ?_; rintro e w2 ⟨v, rfl, hE, hb⟩; have HE := Lib.hid hE; have HB2 := Lib.hid (ext_trans HB1.out hb); clear hE hb))
    go_ret
    rw [HA.out]
    exact ⟨(fun h => by cases h), (fun c' h => by cases h; exact ⟨v, 0, rfl, HE.out, HL.out.ext HB2.out⟩), R, HD.out.ext HB2.out, Fr.of_below HB2.out, fun k hk => .inl hk⟩
  | false =>
    rw [hgn] at HG
    have hdn : d.down = false ∧ d.life = life := by
      unfold goneD at hgn
      simp only [Bool.or_eq_false_iff, decide_eq_false_iff_not, ne_eq, Decidable.not_not] at hgn
      exact ⟨hgn.1, hgn.2⟩
    by_cases hfull : d.room - next < blocksN b.length
    · have HA := Lib.hid (show appendD d life n next b = (d, some 71) from by unfold appendD; rw [if_neg (by rw [hgn]; simp), if_pos hfull])
      have hfi : ((d.room - next : Nat) : Int) < (blocksN b.length : Nat) := by omega
      obtain ⟨nb, hnbe⟩ : ∃ nb, nb = blocksN b.length := ⟨_, rfl⟩
      have HBk := Lib.hid (blocks_c b.length)
      rw [← hnbe] at hfi HBk ⊢
      clear h hL hg hr hS hby hgn hfull hnbe hdn
      go_enter Tryz.func13, Tryz.ntmps13
      go_wp2_with (first
        | (go_at_call 70; refine HG.out.mono ?_; rintro e w1 ⟨rfl, hb⟩; have HB1 := Lib.hid hb; clear hb)
        | (go_at_call 71; refine (HBk.out _ hbl).mono ?_; rintro e w' ⟨rfl, rfl⟩)
        | (go_at_call 72; refine (HLe.out _ (HD.out.ext HB1.out) (HL.out.ext HB1.out)).mono ?_; rintro e w2 ⟨rfl, hb⟩; have HB2 := Lib.hid (ext_trans HB1.out hb); clear hb)
        | (go_at_call 63; refine (logFault_c 0 _ 71 _ rfl).mono ?_; rintro e w3 ⟨v, rfl, hE, hb⟩; have HE := Lib.hid hE; have HB3 := Lib.hid (ext_trans HB2.out hb); clear hE hb))
      go_ret
      rw [HA.out]
      exact ⟨(fun h => by cases h), (fun c' h => by cases h; exact ⟨v, 0, rfl, HE.out, HL.out.ext HB3.out⟩), R, HD.out.ext HB3.out, Fr.of_below HB3.out, fun k hk => .inl hk⟩
    · have hfi : ¬ ((d.room - next : Nat) : Int) < (blocksN b.length : Nat) := by omega
      obtain ⟨nb, hnbe⟩ : ∃ nb, nb = blocksN b.length := ⟨_, rfl⟩
      have HA := Lib.hid (show appendD d life n next b = ((writeAll (n + 1) next b nb 0 d).1, if (writeAll (n + 1) next b nb 0 d).2 then none else some 70) from by unfold appendD; rw [if_neg (by rw [hgn]; simp), if_neg hfull, hnbe])
      have HBk := Lib.hid (blocks_c b.length)
      have HR := Lib.hid hr
      have HBy := Lib.hid hby
      have HSd := Lib.hid hS
      have HTV := Lib.hid hg
      have HNB := Lib.hid hnbe
      have hnbl : nb ≤ 20000 := by omega
      have hnbr : next + nb ≤ d.room := by omega
      have hnb56 : 56 * nb ≤ b.length + 55 := by rw [hnbe]; unfold blocksN; omega
      rw [← hnbe] at hfi HBk ⊢
      obtain ⟨ad, hAd, _⟩ := hr.cell hb0
      subst hAd
      have HLw := hlbw
      have hdn1 := Lib.hid hdn.1
      have hdn2 := Lib.hid hdn.2
      have z1 := Lib.hid (show ∀ k, R k → B ≤ k from fun k hk => (h.bd k hk).1)
      have hfull' : ¬ d.room - next < nb := by rw [hnbe]; exact hfull
      clear h hL hg hr hS hby hgn hfull hnbe hdn
      go_enter Tryz.func13, Tryz.ntmps13
      go_wp2_with (first
        | (go_at_call 70; refine HG.out.mono ?_; rintro e w1 ⟨rfl, hb⟩; have HB1 := Lib.hid hb; clear hb)
        | (go_at_call 71; refine (HBk.out _ hbl).mono ?_; rintro e w' ⟨rfl, rfl⟩)
        | (go_at_call 72; refine (HLe.out _ (HD.out.ext HB1.out) (HL.out.ext HB1.out)).mono ?_; rintro e w2 ⟨rfl, hb⟩; have HB2 := Lib.hid (ext_trans HB1.out hb); clear hb))
      go_loopg [4, 26] nb (fun gk v4 v26 wr => ∃ (k : Nat) (dk : DiskD) (Rk : Nat → Prop), k + gk = nb ∧ v26 = .int .i64 (k : Nat) ∧ v4 = .nilIface ∧ DiskIs B db Rk dk wr ∧ LogAt wr lb db life n next ∧ Fr R w wr ∧ (∀ k, Rk k → R k ∨ w.heap.size ≤ k) ∧
        Hid (dk.down = false ∧ dk.life = d.life) ∧ Hid (dk.room = d.room) ∧ Hid (writeAll (n + 1) next b nb 0 d = writeAll (n + 1) next b gk k dk))
      case atStart => exact ⟨0, d, R, by omega, rfl, rfl, HD.out.ext HB2.out, HL.out.ext HB2.out, Fr.of_below HB2.out, fun k hk => .inl hk, Lib.hid ⟨hdn1.out, rfl⟩, Lib.hid rfl, Lib.hid rfl⟩
      case round =>
        obtain ⟨k, dk, Rk, hkg, rfl, rfl, hD, hL, hF, hRk, hdk, hrm, hwr⟩ := hrel
        have HDk := Lib.hid hD
        have HLk := Lib.hid hL
        have HF := Lib.hid hF
        have HRk := Lib.hid hRk
        clear hD hL hF hRk
        by_cases hk : k < nb
        · obtain ⟨g, rfl⟩ : ∃ g, gk = g + 1 := ⟨gk - 1, by omega⟩
          have hul : 56 * k < b.length := by omega
          have hkI : (k : Int) < (nb : Nat) := by omega
          obtain ⟨pl, hpl⟩ : ∃ pl, pl = (partB b k).length := ⟨_, rfl⟩
          have hpl2 : pl = min 56 (b.length - 56 * k) := by rw [hpl]; unfold partB; rw [List.length_take, List.length_drop]
          have HPL := Lib.hid hpl
          have HPL2 := Lib.hid hpl2
          clear hpl hpl2
          go_upto_region 9 with fail
          go_cut [7] (fun v7 wx => v7 = .slice (some (ad.add (k * 56))) pl (c - k * 56) ∧ wr = wx)
          case first =>
            by_cases h56 : 56 * k + 56 ≤ b.length
            · have hn1 : ¬ (b.length : Int) < (56 * k + 56 : Nat) := by omega
              go_wp2_with fail
              go_meet
              exact ⟨by rw [show pl = (k + 1) * 56 - k * 56 by have := HPL2.out; omega], rfl⟩
            · have hn1 : (b.length : Int) < (56 * k + 56 : Nat) := by omega
              go_wp2_with fail
              go_meet
              exact ⟨by rw [show pl = b.length - k * 56 by have := HPL2.out; omega], rfl⟩
          case rest =>
            obtain ⟨rfl, rfl⟩ := hcut
            have HRc := Lib.hid (show RdS wr S 1 (some (ad.add (k * 56))) pl (bytesC (partB b k)) from by
              have h1 := ((HR.out.fr HF.out (fun k hk => (HSd.out k hk).1))).sub (u := k * 56) (m := pl) (by have := HPL2.out; omega)
              rw [part_bytes b k pl HPL.out]
              rw [Nat.mul_one] at h1
              exact h1)
            have HPby := Lib.hid (show ∀ x ∈ partB b k, x < 256 from fun x hx => HBy.out x (List.mem_of_mem_drop (List.mem_of_mem_take hx)))
            have hpl56 : pl ≤ 56 := by have := HPL2.out; omega
            obtain ⟨n1, hn1⟩ : ∃ n1, n1 = n + 1 := ⟨_, rfl⟩
            obtain ⟨p1, hp1⟩ : ∃ p1, p1 = next + k := ⟨_, rfl⟩
            obtain ⟨m1, hm1⟩ : ∃ m1, m1 + 1 = nb := ⟨nb - 1, by omega⟩
            have en : IntKind.i64.wrap ((n : Int) + 1) = (n1 : Nat) := by rw [show (n : Int) + 1 = (n1 : Nat) by omega]; exact IntWalk.i64_in _ (by omega)
            have ep : IntKind.i64.wrap ((next : Int) + (k : Nat)) = (p1 : Nat) := by rw [show (next : Int) + (k : Nat) = (p1 : Nat) by omega]; exact IntWalk.i64_in _ (by omega)
            have em : IntKind.i64.wrap ((nb : Int) - 1) = (m1 : Nat) := by rw [show (nb : Int) - 1 = (m1 : Nat) by omega]; exact IntWalk.i64_in _ (by omega)
            have ht : ((k : Int) == (m1 : Int)) = lastB b k := by
              unfold lastB
              rw [← HNB.out, ← hm1, Bool.eq_iff_iff, beq_iff_eq, decide_eq_true_iff]
              omega
            have hp1d : p1 < d.room := by omega
            have hn1l : n1 ≤ 1000000 := by omega
            have HN1 := Lib.hid hn1
            have HP1 := Lib.hid hp1
            have HM1 := Lib.hid hm1
            clear hn1 hp1 hm1
            obtain ⟨la, hls⟩ : ∃ la, la = lastB b k := ⟨_, rfl⟩
            rw [← hls] at ht
            have HW := Lib.hid (show headB n1 k la ++ partB b k = blockB (n + 1) b k from by unfold blockB; rw [hls, HN1.out])
            have HWr := Lib.hid (fun A c W h hr hS => dWrite_c (B := B) (db := db) (R := Rk) (d := dk) (fun k => wr.heap.size ≤ k) p1 (blockB (n + 1) b k) A c W h (by rw [hrm.out]; exact hp1d) hr hS (blockB_byte HBy.out) (by have := blockB_len (r := n + 1) (k := k) b (by omega) (by omega); omega) (by rw [hdk.out.2]; exact hlf))
            have HSt := Lib.hid (show writeAll (n + 1) next b nb 0 d = (if (dk.write p1 (blockB (n + 1) b k)).2 then writeAll (n + 1) next b g (k + 1) (dk.write p1 (blockB (n + 1) b k)).1 else ((dk.write p1 (blockB (n + 1) b k)).1, false)) from by rw [hwr.out, writeAll, ← HP1.out])
            clear hls
            cases hok : (dk.write p1 (blockB (n + 1) b k)).2 with
            | true =>
              have HOk := Lib.hid hok
              rw [hok] at HSt
              clear hok
              have y0 : wr.cell? ⟨lb, 0, none⟩ = some (.pointer (some ⟨db, 0, none⟩)) := (HLk.out.cell 0).trans rfl
              have y2 : wr.cell? ⟨lb, 2, none⟩ = some (.int .i64 (n : Nat)) := (HLk.out.cell 2).trans rfl
              have y3 : wr.cell? ⟨lb, 3, none⟩ = some (.int .i64 (next : Nat)) := (HLk.out.cell 3).trans rfl
              have hwl := HLk.out.lt
              go_wp2_with fail
              go_region_held3 (fun w' => w'.cell? ⟨lb, 0, none⟩ = some (.pointer (some ⟨db, 0, none⟩)) ∧ w'.cell? ⟨lb, 2, none⟩ = some (.int .i64 (n : Nat)) ∧ w'.cell? ⟨lb, 3, none⟩ = some (.int .i64 (next : Nat)))
                (go_keep)
                (first
                  | (go_at_call 74; refine (head_c n1 k _ _ hn1l (by omega)).mono ?_
                     rintro e w5 ⟨A5, c5, rfl, hown, hb⟩
                     have HB5 := Lib.hid (show Below wr.heap.size wr w5 from ext_trans (below_drewN (Below.refl _ _) 1) hb)
                     have HP5 := Lib.hid (show Rd w5 w5.heap.size 5 1 (some (ad.add (k * 56))) pl ((partB b k).flatMap byC) from (by rw [bytesC_flat]; exact (HRc.out.ext HB5.out).rd (Nat.le_refl _)))
                     have HO5 := Lib.hid (show w5.ownsRow wr.heap.size 5 1 _ _ _ from hown)
                     have HL5 := Lib.hid (HLk.out.ext HB5.out)
                     have q0 : w5.cell? ⟨lb, 0, none⟩ = some (.pointer (some ⟨db, 0, none⟩)) := (HL5.out.cell 0).trans rfl
                     have q2 : w5.cell? ⟨lb, 2, none⟩ = some (.int .i64 (n : Nat)) := (HL5.out.cell 2).trans rfl
                     have q3 : w5.cell? ⟨lb, 3, none⟩ = some (.int .i64 (next : Nat)) := (HL5.out.cell 3).trans rfl
                     have q4 := HL5.out.lt
                     clear hown hb)
                  | (have hx := HO5.out.1; clear hx
                     refine step_appR byte_app _ rfl (.tmp 63) (.tmp 64) rfl wr.heap.size (.slice A5 (headB n1 k la).length c5) (headB n1 k la) (by rfl) HO5.out (partB b k) w5.heap.size (some (ad.add (k * 56))) pl (c - k * 56) (by rfl) HPL.out (HP5.out) (by have := HPL.out; have := headB_len la hn1l (show k ≤ 1000000 by omega); omega) (by have := HB5.out.size; omega) ?_
                     rw [HW.out]
                     intro A6 c6 w6 hown6 hg6 hc6
                     have HB6 := Lib.hid (below_grownOwn HB5.out HO5.out (Nat.le_refl _) hg6)
                     have HO6 := Lib.hid hown6
                     have HC6 := Lib.hid hc6
                     have HL6 := Lib.hid (HLk.out.ext HB6.out)
                     have q0 : w6.cell? ⟨lb, 0, none⟩ = some (.pointer (some ⟨db, 0, none⟩)) := (HL6.out.cell 0).trans rfl
                     have q2 : w6.cell? ⟨lb, 2, none⟩ = some (.int .i64 (n : Nat)) := (HL6.out.cell 2).trans rfl
                     have q3 : w6.cell? ⟨lb, 3, none⟩ = some (.int .i64 (next : Nat)) := (HL6.out.cell 3).trans rfl
                     have q4 := HL6.out.lt
                     clear hown6 hg6 hc6)
                  | (have hx := HO6.out.1; clear hx
                     go_at_call 73
                     refine (HWr.out (A6) c6 w6 (HDk.out.ext HB6.out) (RdS.of_own (S := fun k => wr.heap.size ≤ k) (base := wr.heap.size) HO6.out (fun k hk => (HO6.out.lt k hk).1) |> fun h => by rw [bytesC_flat] at h; exact h) (fun j hj hr => by have := (HDk.out.bd j hr).2; omega)).mono ?_
                     rintro e w7 ⟨hy, hn, Rk', hD7, hF7, hR7⟩
                     obtain rfl := hy HOk.out
                     have HD7 := Lib.hid hD7
                     have HF7 := Lib.hid (show Fr R w w7 from (HF.out.ext HB6.out).trans hF7 (fun j hj => HRk.out j hj))
                     have HR7 := Lib.hid (show ∀ j, Rk' j → R j ∨ w.heap.size ≤ j from fun j hj => (hR7 j hj).elim (HRk.out j) (fun h1 => .inr (by have h2 := HF.out.size; have h3 := HB6.out.size; omega)))
                     have HL7 := Lib.hid (show LogAt w7 lb db life n next from HL6.out.fr hF7 (fun hr => by exact (HRk.out _ hr).elim hlb (fun h1 => by have := HLw; omega)))
                     have q0 : w7.cell? ⟨lb, 0, none⟩ = some (.pointer (some ⟨db, 0, none⟩)) := (HL7.out.cell 0).trans rfl
                     have q2 : w7.cell? ⟨lb, 2, none⟩ = some (.int .i64 (n : Nat)) := (HL7.out.cell 2).trans rfl
                     have q3 : w7.cell? ⟨lb, 3, none⟩ = some (.int .i64 (next : Nat)) := (HL7.out.cell 3).trans rfl
                     have q4 := HL7.out.lt
                     clear hF7 hR7 hD7 hy hn))
              clear y0 y2 y3 q0 q2 q3 q4
              go_wp2_with (first
                | (go_at_call 75; refine (As_nil _ _).mono ?_; rintro e w8 ⟨rfl, rfl⟩))
              go_roundg g
              case measure => omega
              case rel => exact ⟨k + 1, _, Rk', by omega, by go_num, rfl, HD7.out.ext (ext_alloc (Below.refl _ _) _), HL7.out.ext (ext_alloc (Below.refl _ _) _), HF7.out.alloc _, HR7.out, Lib.hid ⟨write_down HOk.out, (write_life HOk.out).trans hdk.out.2⟩, Lib.hid ((write_room _ _ _).trans hrm.out), Lib.hid HSt.out⟩
            | false =>
              have HOk := Lib.hid hok
              rw [hok] at HSt
              clear hok
              have y0 : wr.cell? ⟨lb, 0, none⟩ = some (.pointer (some ⟨db, 0, none⟩)) := (HLk.out.cell 0).trans rfl
              have y2 : wr.cell? ⟨lb, 2, none⟩ = some (.int .i64 (n : Nat)) := (HLk.out.cell 2).trans rfl
              have y3 : wr.cell? ⟨lb, 3, none⟩ = some (.int .i64 (next : Nat)) := (HLk.out.cell 3).trans rfl
              have hwl := HLk.out.lt
              go_wp2_with fail
              go_region_held3 (fun w' => w'.cell? ⟨lb, 0, none⟩ = some (.pointer (some ⟨db, 0, none⟩)) ∧ w'.cell? ⟨lb, 2, none⟩ = some (.int .i64 (n : Nat)) ∧ w'.cell? ⟨lb, 3, none⟩ = some (.int .i64 (next : Nat)))
                (go_keep)
                (first
                  | (go_at_call 74; refine (head_c n1 k _ _ hn1l (by omega)).mono ?_
                     rintro e w5 ⟨A5, c5, rfl, hown, hb⟩
                     have HB5 := Lib.hid (show Below wr.heap.size wr w5 from ext_trans (below_drewN (Below.refl _ _) 1) hb)
                     have HP5 := Lib.hid (show Rd w5 w5.heap.size 5 1 (some (ad.add (k * 56))) pl ((partB b k).flatMap byC) from (by rw [bytesC_flat]; exact (HRc.out.ext HB5.out).rd (Nat.le_refl _)))
                     have HO5 := Lib.hid (show w5.ownsRow wr.heap.size 5 1 _ _ _ from hown)
                     have HL5 := Lib.hid (HLk.out.ext HB5.out)
                     have q0 : w5.cell? ⟨lb, 0, none⟩ = some (.pointer (some ⟨db, 0, none⟩)) := (HL5.out.cell 0).trans rfl
                     have q2 : w5.cell? ⟨lb, 2, none⟩ = some (.int .i64 (n : Nat)) := (HL5.out.cell 2).trans rfl
                     have q3 : w5.cell? ⟨lb, 3, none⟩ = some (.int .i64 (next : Nat)) := (HL5.out.cell 3).trans rfl
                     have q4 := HL5.out.lt
                     clear hown hb)
                  | (have hx := HO5.out.1; clear hx
                     refine step_appR byte_app _ rfl (.tmp 63) (.tmp 64) rfl wr.heap.size (.slice A5 (headB n1 k la).length c5) (headB n1 k la) (by rfl) HO5.out (partB b k) w5.heap.size (some (ad.add (k * 56))) pl (c - k * 56) (by rfl) HPL.out (HP5.out) (by have := HPL.out; have := headB_len la hn1l (show k ≤ 1000000 by omega); omega) (by have := HB5.out.size; omega) ?_
                     rw [HW.out]
                     intro A6 c6 w6 hown6 hg6 hc6
                     have HB6 := Lib.hid (below_grownOwn HB5.out HO5.out (Nat.le_refl _) hg6)
                     have HO6 := Lib.hid hown6
                     have HC6 := Lib.hid hc6
                     have HL6 := Lib.hid (HLk.out.ext HB6.out)
                     have q0 : w6.cell? ⟨lb, 0, none⟩ = some (.pointer (some ⟨db, 0, none⟩)) := (HL6.out.cell 0).trans rfl
                     have q2 : w6.cell? ⟨lb, 2, none⟩ = some (.int .i64 (n : Nat)) := (HL6.out.cell 2).trans rfl
                     have q3 : w6.cell? ⟨lb, 3, none⟩ = some (.int .i64 (next : Nat)) := (HL6.out.cell 3).trans rfl
                     have q4 := HL6.out.lt
                     clear hown6 hg6 hc6)
                  | (have hx := HO6.out.1; clear hx
                     go_at_call 73
                     refine (HWr.out (A6) c6 w6 (HDk.out.ext HB6.out) (RdS.of_own (S := fun k => wr.heap.size ≤ k) (base := wr.heap.size) HO6.out (fun k hk => (HO6.out.lt k hk).1) |> fun h => by rw [bytesC_flat] at h; exact h) (fun j hj hr => by have := (HDk.out.bd j hr).2; omega)).mono ?_
                     rintro e w7 ⟨hy, hn, Rk', hD7, hF7, hR7⟩
                     obtain ⟨v7, at7, rfl, hE⟩ := hn HOk.out; have HE := Lib.hid hE; clear hE
                     have HD7 := Lib.hid hD7
                     have HF7 := Lib.hid (show Fr R w w7 from (HF.out.ext HB6.out).trans hF7 (fun j hj => HRk.out j hj))
                     have HR7 := Lib.hid (show ∀ j, Rk' j → R j ∨ w.heap.size ≤ j from fun j hj => (hR7 j hj).elim (HRk.out j) (fun h1 => .inr (by have h2 := HF.out.size; have h3 := HB6.out.size; omega)))
                     have HL7 := Lib.hid (show LogAt w7 lb db life n next from HL6.out.fr hF7 (fun hr => by exact (HRk.out _ hr).elim hlb (fun h1 => by have := HLw; omega)))
                     have q0 : w7.cell? ⟨lb, 0, none⟩ = some (.pointer (some ⟨db, 0, none⟩)) := (HL7.out.cell 0).trans rfl
                     have q2 : w7.cell? ⟨lb, 2, none⟩ = some (.int .i64 (n : Nat)) := (HL7.out.cell 2).trans rfl
                     have q3 : w7.cell? ⟨lb, 3, none⟩ = some (.int .i64 (next : Nat)) := (HL7.out.cell 3).trans rfl
                     have q4 := HL7.out.lt
                     clear hF7 hR7 hD7 hy hn))
              clear y0 y2 y3 q0 q2 q3 q4
              obtain ⟨fb, sv, v', n', rfl, hfb, hfn⟩ := HE.out
              have HEN := Lib.hid (show ErrN w7 (n' + 1) (.iface 149 (.pointer (some ⟨fb, 0, none⟩))) 70 from ⟨fb, sv, _, v', rfl, hfb, hfn⟩)
              have HTV7 := Lib.hid (TypeVar.fr (S := No) (HTV.out.fr HF7.out (fun h => by have := z1.out _ h; omega)) (Fr.of_below (ext_alloc (Below.refl _ _) (.cells #[.pointer none] 149 (0, 0)))) (fun h => h))
              have HX0 := Lib.hid (Bk.new w7 149 #[.pointer none])
              have HXf := Lib.hid (HX0.out.frozen 0)
              clear hfb hfn
              go_wp2_with (first
                | (go_at_call 75; refine (AsF_c ⟨w7.heap.size, 0, none⟩ ⟨fb, 0, none⟩ (.pointer none) _ HTV7.out ((HX0.out.cell 0).trans rfl) HXf.out).mono ?_
                   rintro e w8 ⟨rfl, wx, hbx, rfl⟩
                   have HX8 := Lib.hid (HX0.out.ext hbx)
                   have HB8 := Lib.hid (show Below w7.heap.size w7 (wx.setCell ⟨w7.heap.size, 0, none⟩ (.pointer (some ⟨fb, 0, none⟩))) from (ext_trans (ext_alloc (Below.refl _ _) _) hbx).setCell (Nat.le_refl _) _)
                   have q1 : (wx.setCell ⟨w7.heap.size, 0, none⟩ (.pointer (some ⟨fb, 0, none⟩))).cell? ⟨w7.heap.size, 0, none⟩ = some (.pointer (some ⟨fb, 0, none⟩)) := ((HX8.out.set_ 0 _).cell 0).trans rfl
                   generalize wx.setCell ⟨w7.heap.size, 0, none⟩ (.pointer (some ⟨fb, 0, none⟩)) = w8 at HB8 q1 ⊢
                   clear hbx)
                | (go_at_call 63; refine (logFault_c (n' + 1) _ 70 _ (HEN.out.ext HB8.out)).mono ?_; rintro e w9 ⟨v, rfl, hE, hb⟩; have HE9 := Lib.hid hE; have HB9 := Lib.hid (ext_trans HB8.out hb); clear hE hb))
              go_ret
              rw [HA.out, HSt.out]
              exact ⟨(fun h => by cases h), (fun c' h => by cases h; exact ⟨v, 0, rfl, HE9.out, HL7.out.ext HB9.out⟩), Rk', HD7.out.ext HB9.out, (HF7.out.ext HB9.out).mono (fun j _ hj => .inl hj), HR7.out⟩
        · obtain rfl : gk = 0 := by omega
          have hkI : ¬ (k : Int) < (nb : Nat) := by omega
          obtain rfl : k = nb := by omega
          have y2 : wr.cell? ⟨lb, 2, none⟩ = some (.int .i64 (n : Nat)) := (HLk.out.cell 2).trans rfl
          have y3 : wr.cell? ⟨lb, 3, none⟩ = some (.int .i64 (next : Nat)) := (HLk.out.cell 3).trans rfl
          have f2 := HLk.out.frozen 2
          have f3 := HLk.out.frozen 3
          have hwl := HLk.out.lt
          have HSt := Lib.hid (show writeAll (n + 1) next b k 0 d = (dk, true) from hwr.out)
          go_wp2_with fail
          go_ret
          rw [HA.out, HSt.out]
          have hfr : Fr (fun k => R k ∨ k = lb) w wr := HF.out.mono (fun j _ hj => .inl hj)
          refine ⟨fun _ => ⟨rfl, ?_⟩, (fun c' h => by cases h), Rk, ?_, (hfr.set_ (.inl (.inr rfl)) _).set_ (.inl (.inr rfl)) _, HRk.out⟩
          · exact (HLk.out.set_ 2 _).set_ 3 _
          · exact DiskIs.fr (S := fun k => k = lb) HDk.out ((Fr.one wr lb 2 _).set_ (p := ⟨lb, 3, none⟩) (.inl rfl) _) (fun j hj e => by subst e; exact (HRk.out _ hj).elim hlb (fun h1 => by have := hlbw; omega))
end
end Go.Proofs.YtlmjjhenoadndaaGreatDoor
