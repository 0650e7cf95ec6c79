/- api.Code by walks over errors.As. -/
import Derived.Test.YtgigdhfdpabmoaaDoorErr
namespace Go.Proofs.YtgigdhfdpabmoaaDoor
open Go.RowKit Go.Extern.Stop Go.Stop Go.Extern

def AsPost (w : World) (t : Addr) (c : Int) (e : Ending) (w' : World) : Prop := e = .returned (.bool true) ∧ ∃ wx, Below w.heap.size w wx ∧ w' = wx.setCell t (.int .i64 c)

set_option maxHeartbeats 4000000 in
set_option maxRecDepth 100000 in
theorem as_c (n : Nat) (v : Value) (c : Int) (t a : Addr) (old : Value) (w : World) (h : ErrN w n v c) (ht : w.cell? t = some old) (hf : w.frozen? t = false) (ha : w.cell? a = some (.pointer (some t))) :
    Calls Tryd.prog 56 #[v, .iface 85 (.pointer (some t)), .agg #[.pointer (some ⟨1, 85, none⟩), .pointer (some a), .int .u64 150], .iface 114 (.agg #[.pointer (some ⟨1, 61, none⟩)])] w (AsPost w t c) := by
  have h53 := @run_callFunc_extern Tryd.prog 53 _ (fun args => ReflectliteValue.unpack (args.getD 0 (.tuple #[]))) Tryd.func53 (by kernel_rfl) (by kernel_rfl) (by kernel_rfl) (by kernel_rfl)
  have h67 := @run_callFunc_extern Tryd.prog 67 _ ReflectliteType.typeOf Tryd.func67 (by kernel_rfl) (by kernel_rfl) (by kernel_rfl) (by kernel_rfl)
  have h100 := @run_callFunc_extern Tryd.prog 100 _ (ReflectliteType.relation "AssignableTo" ReflectliteType.assignableTo) Tryd.func100 (by kernel_rfl) (by kernel_rfl) (by kernel_rfl) (by kernel_rfl)
  have h68 := @run_callFunc_extern Tryd.prog 68 _ (ReflectliteValue.method (ReflectliteValue.valueError "reflectlite.Value.Elem" 0) ReflectliteValue.elem) Tryd.func68 (by kernel_rfl) (by kernel_rfl) (by kernel_rfl) (by kernel_rfl)
  have h69 := @run_callFunc_extern Tryd.prog 69 _ ReflectliteValue.set Tryd.func69 (by kernel_rfl) (by kernel_rfl) (by kernel_rfl) (by kernel_rfl)
  have hE1 := typeOfE
  have hF1 := typeOfF
  have mA := methodAssignableTo
  have aE := assignableE
  have aF := assignableF
  have vE := valueOfE
  have nA := noAsF
  have uF := unwrapF
  have mU := methodUnwrap
  have htl := World.block_lt_of_cell? w _ ht
  have hal := World.block_lt_of_cell? w _ ha
  go_enter Tryd.func56, Tryd.ntmps56
  go_wp2_with fail
  go_loopg [0] n (fun k v0 wr => ErrN wr k v0 c ∧ Bk wr w.heap.size 92 #[.pointer (some ⟨1, 85, none⟩), .pointer (some a), .int .u64 150] ∧ Below w.heap.size w wr)
  case atStart => exact ⟨h.ext (ext_alloc (Below.refl _ _) _), Bk.new _ _ _, ext_alloc (Below.refl _ _) _⟩
  case round =>
    obtain ⟨hn, hx, hb⟩ := hrel
    have x0 : wr.cell? ⟨w.heap.size, 0, none⟩ = some (.pointer (some ⟨1, 85, none⟩)) := by rw [hx.cell]; rfl
    have x1 : wr.cell? ⟨w.heap.size, 1, none⟩ = some (.pointer (some a)) := by rw [hx.cell]; rfl
    have x2 : wr.cell? ⟨w.heap.size, 2, none⟩ = some (.int .u64 150) := by rw [hx.cell]; rfl
    cases gk with
    | zero =>
      obtain rfl : _ = Value.iface 61 (.int .i64 c) := hn
      have el := elemVP a t wr ((hb.cell hal).trans ha)
      have ht2 : wr.cell? t = some old := (hb.cell htl).trans ht
      have htr := World.block_lt_of_cell? wr _ ht2
      have st := setE t ⟨wr.heap.size, 0, none⟩ c old (wr.alloc (.cells #[.int .i64 c] 61)) (by simp) ((World.cell?_alloc_lt _ _ _ htr).trans ht2) ((World.frozen?_alloc_old _ _ _ (by omega)).trans ((hb.frozen htl).trans hf))
      clear hF1 aF nA uF mU ht2 hx
      go_wp2_with fail
      go_ret
      exact ⟨rfl, _, ext_alloc hb _, rfl⟩
    | succ gk =>
      obtain ⟨fb, s, at_, v', rfl, hf1, hv'⟩ := hn
      have hv2 : ∃ T y, v' = .iface T y := by
        cases gk with
        | zero => exact ⟨_, _, hv'⟩
        | succ k => obtain ⟨_, _, _, _, e, _⟩ := hv'; exact ⟨_, _, e⟩
      obtain ⟨T, y, rfl⟩ := hv2
      have f2 : wr.cell? ⟨fb, 2, none⟩ = some (.iface T y) := by rw [hf1.cell]; rfl
      have HX := Lib.hid hx
      have HV := Lib.hid hv'
      clear hE1 aE hx hv'
      go_wp2_with (first | go_in)
      go_roundg gk
      case measure => omega
      case rel => exact ⟨HV.out, HX.out, hb⟩

theorem ErrN.iface {w : World} {n : Nat} {v : Value} {c : Int} (h : ErrN w n v c) : ∃ T y, v = .iface T y := by
  cases n with
  | zero => exact ⟨_, _, h⟩
  | succ k => obtain ⟨_, _, _, _, e, _⟩ := h; exact ⟨_, _, e⟩

/-- The package-level variable errors.errorType, as it is laid. -/
def TypeVar (w : World) : Prop := w.cell? ⟨0, 0, none⟩ = some (.iface 114 (.agg #[.pointer (some ⟨1, 28, none⟩)]))

set_option maxRecDepth 100000 in
set_option maxHeartbeats 4000000 in
theorem As_c (n : Nat) (v : Value) (c : Int) (t : Addr) (old : Value) (w : World) (h : ErrN w n v c) (hg : TypeVar w) (ht : w.cell? t = some old) (hf : w.frozen? t = false) :
    Calls Tryd.prog 50 #[v, .iface 85 (.pointer (some t))] w (AsPost w t c) := by
  have h53 := @run_callFunc_extern Tryd.prog 53 _ (fun args => ReflectliteValue.unpack (args.getD 0 (.tuple #[]))) Tryd.func53 (by kernel_rfl) (by kernel_rfl) (by kernel_rfl) (by kernel_rfl)
  have h54 := @run_callFunc_extern Tryd.prog 54 _ (ReflectliteValue.methodAny (ReflectliteValue.valueError "reflectlite.Value.Type" 0) (fun t _ _ _ => ReflectliteType.toType t)) Tryd.func54 (by kernel_rfl) (by kernel_rfl) (by kernel_rfl) (by kernel_rfl)
  have h55 := @run_callFunc_extern Tryd.prog 55 _ (ReflectliteValue.method (ReflectliteValue.valueError "reflectlite.Value.IsNil" 0) ReflectliteValue.isNil) Tryd.func55 (by kernel_rfl) (by kernel_rfl) (by kernel_rfl) (by kernel_rfl)
  have h90 := @run_callFunc_extern Tryd.prog 90 _ (ReflectliteType.abiMethod fun t => do pure (.int .u8 (← Rtype.kind t))) Tryd.func90 (by kernel_rfl) (by kernel_rfl) (by kernel_rfl) (by kernel_rfl)
  have h102 := @run_callFunc_extern Tryd.prog 102 _ (ReflectliteType.method ReflectliteType.elem) Tryd.func102 (by kernel_rfl) (by kernel_rfl) (by kernel_rfl) (by kernel_rfl)
  have h103 := @run_callFunc_extern Tryd.prog 103 _ (ReflectliteType.relation "Implements" ReflectliteType.implements_) Tryd.func103 (by kernel_rfl) (by kernel_rfl) (by kernel_rfl) (by kernel_rfl)
  have vP := valueOfP
  have tP := typeP
  have mK := methodKind
  have mE := methodElem
  have mI := methodImplements
  have kP := kindP
  have kE := kindE
  have eP := elemP
  have iE := implementsE
  have htl := World.block_lt_of_cell? w _ ht
  unfold TypeVar at hg
  have hgl := World.block_lt_of_cell? w _ hg
  obtain ⟨T, y, rfl⟩ := h.iface
  have n8 := isNilP ⟨w.heap.size, 0, none⟩ t ((w.alloc (.cells #[.pointer (some t)] 85)).alloc (.cells #[.pointer (some ⟨1, 85, none⟩), .pointer (some ⟨w.heap.size, 0, none⟩), .int .u64 150] 92)) (by simp)
  have HE := Lib.hid h
  have u1 : ((w.alloc (.cells #[.pointer (some t)] 85)).alloc (.cells #[.pointer (some ⟨1, 85, none⟩), .pointer (some ⟨w.heap.size, 0, none⟩), .int .u64 150] 92)).cell? t = some old := by
    rw [World.cell?_alloc_lt _ _ _ (by simp; omega), World.cell?_alloc_lt _ _ _ htl]; exact ht
  have u2 : ((w.alloc (.cells #[.pointer (some t)] 85)).alloc (.cells #[.pointer (some ⟨1, 85, none⟩), .pointer (some ⟨w.heap.size, 0, none⟩), .int .u64 150] 92)).frozen? t = false := by
    rw [World.frozen?_alloc_old _ _ _ (by simp; omega), World.frozen?_alloc_old _ _ _ (Nat.ne_of_lt htl)]; exact hf
  have U1 := Lib.hid u1
  have U2 := Lib.hid u2
  clear h u1 u2
  go_enter Tryd.func50, Tryd.ntmps50
  go_wp2_with (first | (go_at_call 56; refine (as_c n _ c t ⟨w.heap.size, 0, none⟩ old _ (HE.out.ext (ext_alloc (ext_alloc (Below.refl _ _) _) _)) U1.out U2.out (by simp)).mono ?_; rintro e w1 ⟨rfl, wx, hbx, rfl⟩))
  go_ret
  exact ⟨rfl, wx, ext_trans (ext_alloc (ext_alloc (Below.refl _ _) _) _) hbx, rfl⟩

def CodePost (w : World) (c : Int) (e : Ending) (w' : World) : Prop := e = .returned (.int .i64 c) ∧ Below w.heap.size w w'

set_option maxHeartbeats 1000000 in
theorem Code_nil (w : World) : Calls Tryd.prog 42 #[.nilIface] w (CodePost w 0) := by
  go_enter Tryd.func42, Tryd.ntmps42
  go_wp2
  go_ret
  exact ⟨rfl, Below.refl _ _⟩

set_option maxHeartbeats 1000000 in
theorem Code_c (n : Nat) (v : Value) (c : Int) (w : World) (h : ErrN w n v c) (hg : TypeVar w) : Calls Tryd.prog 42 #[v] w (CodePost w c) := by
  obtain ⟨T, y, rfl⟩ := h.iface
  have HE := Lib.hid h
  have HG := Lib.hid (show TypeVar (w.alloc (.cells #[.int .i64 0] 61)) from (World.cell?_alloc_lt _ _ _ (World.block_lt_of_cell? w _ hg)).trans hg)
  clear h hg
  go_enter Tryd.func42, Tryd.ntmps42
  go_wp2_with (first | (go_at_call 50; refine (As_c n _ c ⟨w.heap.size, 0, none⟩ (.int .i64 0) _ (HE.out.ext (ext_alloc (Below.refl _ _) _)) HG.out (by simp) (by simp)).mono ?_; rintro e w1 ⟨rfl, wx, hbx, rfl⟩; have hc : wx.cell? ⟨w.heap.size, 0, none⟩ = some (.int .i64 0) := (hbx.cell (p := ⟨w.heap.size, 0, none⟩) (by simp)).trans (by simp); have hc2 := World.cell?_setCell_same wx _ (.int .i64 c) hc))
  go_ret
  exact ⟨rfl, (ext_trans (ext_alloc (Below.refl _ _) _) hbx).setCell (Nat.le_refl _) _⟩

set_option maxHeartbeats 400000 in
theorem code_nil (w : World) : Calls Tryd.prog 15 #[.nilIface] w (CodePost w 0) := by
  go_enter Tryd.func15, Tryd.ntmps15
  go_wp2_with (first | (go_at_call 42; refine (Code_nil _).mono ?_; rintro e w1 ⟨rfl, hb⟩))
  go_ret
  exact ⟨rfl, hb⟩

set_option maxHeartbeats 400000 in
theorem code_c (n : Nat) (v : Value) (c : Int) (w : World) (h : ErrN w n v c) (hg : TypeVar w) : Calls Tryd.prog 15 #[v] w (CodePost w c) := by
  go_enter Tryd.func15, Tryd.ntmps15
  go_wp2_with (first | (go_at_call 42; refine (Code_c n v c _ h hg).mono ?_; rintro e w1 ⟨rfl, hb⟩))
  go_ret
  exact ⟨rfl, hb⟩
end Go.Proofs.YtgigdhfdpabmoaaDoor
