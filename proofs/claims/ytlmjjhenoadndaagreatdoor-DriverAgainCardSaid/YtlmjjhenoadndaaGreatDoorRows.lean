/-
  NARROWER THAN 'FOR EVERY INPUT', by the rows' own cells (each row's printed sentence says how): CkptReads: laid · CkptWhole: laid · CkptPlays: laid · CkptKeeps: laid · DriverAgain: laid · DriverPlays: laid.
  DERIVED. THE GIVEN ROWS OF THIS SEAT. 6 by the template 'for every input the law returns true; each argument reads behind the call as it read before'; 0 by the template 'total and deterministic' (their statements: YtlmjjhenoadndaaGreatDoorTotals.lean).
  GIVEN WITH THE SEED: the statements are not yours to turn. If you find one false, say at which input.
  Laid BY PROGRAM, IN A SANDBOX (cutbox-rows.mjs): the forced cells as the released guide's own fill.sh prints them over the translation be80692c4eca0e00… (all of the seat's roots in one cut). By AI agents, Wed Nov 11 2026. No macro, syntax, notation, axiom, sorry.
-/
import Derived.Test.YtlmjjhenoadndaaGreatDoorChecked
import GoSem.Claim
import GoSem.ClaimJoined
import GoSem.ClaimMapViews
import Derived.JoinedTies
import Derived.KernelRfl
namespace Go.Proofs.YtlmjjhenoadndaaGreatDoor
/- THE CELL 'sum', in the pinned program and in every row, IS THE sha256 OF THE DUMP (.gsa) THAT YtlmjjhenoadndaaGreatDoorProg.lean LOADS. Nothing in Lean hashes anything: it is a label: what it is worth is what the hold of that sum in a sandbox is worth. -/
noncomputable def Tryz.pinned : Pinned := { name := "ytlmjjhenoadndaagreatdoor", sum := "be80692c4eca0e0009739c0136c3e0cd58e90cac6c92525aac93f4e9bb2082bb", checked := Tryz.checked }
namespace Rows
def none {H : Type} : Left H := { results := [], args := [] }

/- WHAT THE LISTED PACKAGE-LEVEL VARIABLES READ AS WHEN THE CALL BEGINS. Each datum BY PROGRAM (the guide's laid-datum.mjs) off the statement by which the dump's own 'gosem.cut.vars' lays the variable. In a bare row this is a premise. The card (YtlmjjhenoadndaaGreatDoorCards.lean) ties it to the program's text. -/
def laid_errors_errorType {H : Type} : DataW H := .iface "internal/reflectlite.rtype" (.agg [.ptr (.lit (.string [101, 114, 114, 111, 114]))])

/-- 'tributarylaw14.CkptReads': WHATEVER THE INPUT: true; the input reads as it did. -/
def ckptReadsSpec : ChangeSpec := { name := "ckptReads", fn := fun _ => fun
  | [d1, d2] => { results := [.lit (.bool true)], args := [d1, d2] }
  | _ => none }
def ckptReadsRow : OpenClaim := { program := "ytlmjjhenoadndaagreatdoor", sum := "be80692c4eca0e0009739c0136c3e0cd58e90cac6c92525aac93f4e9bb2082bb", func := "tributary/tributarylaw14.CkptReads", spec := "ckptReads", inPlace := ["internal/reflectlite.ValueOf", "(internal/reflectlite.Value).Type", "(internal/reflectlite.Value).IsNil", "internal/reflectlite.TypeOf", "(internal/reflectlite.Value).Elem", "(internal/reflectlite.Value).Set"], unfollowed := true, recurses := true, named := ["errors.errorType"], plainKeys := false, apart := false, laid := [("errors.errorType", laid_errors_errorType)] }
def CkptReadsSaid : Prop := ckptReadsRow.holds Tryz.pinned (OpenSpec.ofChange ckptReadsSpec)

/-- ITS FALSE NEIGHBOUR: 'it returns false'. Refute it at one input. -/
def ckptReadsWrong : ChangeSpec := { name := "ckptReads", fn := fun _ => fun
  | [d1, d2] => { results := [.lit (.bool false)], args := [d1, d2] }
  | _ => none }
def CkptReadsWrongFalsely : Prop := ckptReadsRow.holds Tryz.pinned (OpenSpec.ofChange ckptReadsWrong)

/-- 'tributarylaw14.CkptWhole': WHATEVER THE INPUT: true; the input reads as it did. -/
def ckptWholeSpec : ChangeSpec := { name := "ckptWhole", fn := fun _ => fun
  | [d1, d2, d3, d4] => { results := [.lit (.bool true)], args := [d1, d2, d3, d4] }
  | _ => none }
def ckptWholeRow : OpenClaim := { program := "ytlmjjhenoadndaagreatdoor", sum := "be80692c4eca0e0009739c0136c3e0cd58e90cac6c92525aac93f4e9bb2082bb", func := "tributary/tributarylaw14.CkptWhole", spec := "ckptWhole", inPlace := ["internal/reflectlite.TypeOf", "internal/reflectlite.ValueOf", "(internal/reflectlite.Value).Type", "(internal/reflectlite.Value).IsNil", "(internal/reflectlite.Value).Elem", "(internal/reflectlite.Value).Set"], unfollowed := true, recurses := true, named := ["errors.errorType"], plainKeys := false, apart := false, laid := [("errors.errorType", laid_errors_errorType)] }
def CkptWholeSaid : Prop := ckptWholeRow.holds Tryz.pinned (OpenSpec.ofChange ckptWholeSpec)

/-- ITS FALSE NEIGHBOUR: 'it returns false'. Refute it at one input. -/
def ckptWholeWrong : ChangeSpec := { name := "ckptWhole", fn := fun _ => fun
  | [d1, d2, d3, d4] => { results := [.lit (.bool false)], args := [d1, d2, d3, d4] }
  | _ => none }
def CkptWholeWrongFalsely : Prop := ckptWholeRow.holds Tryz.pinned (OpenSpec.ofChange ckptWholeWrong)

/-- 'tributarylaw14.CkptPlays': WHATEVER THE INPUT: true; the input reads as it did. -/
def ckptPlaysSpec : ChangeSpec := { name := "ckptPlays", fn := fun _ => fun
  | [d1, d2, d3] => { results := [.lit (.bool true)], args := [d1, d2, d3] }
  | _ => none }
def ckptPlaysRow : OpenClaim := { program := "ytlmjjhenoadndaagreatdoor", sum := "be80692c4eca0e0009739c0136c3e0cd58e90cac6c92525aac93f4e9bb2082bb", func := "tributary/tributarylaw14.CkptPlays", spec := "ckptPlays", inPlace := ["internal/reflectlite.TypeOf", "internal/reflectlite.ValueOf", "(internal/reflectlite.Value).Type", "(internal/reflectlite.Value).IsNil", "(internal/reflectlite.Value).Elem", "(internal/reflectlite.Value).Set"], unfollowed := true, recurses := true, named := ["errors.errorType"], plainKeys := false, apart := false, laid := [("errors.errorType", laid_errors_errorType)] }
def CkptPlaysSaid : Prop := ckptPlaysRow.holds Tryz.pinned (OpenSpec.ofChange ckptPlaysSpec)

/-- ITS FALSE NEIGHBOUR: 'it returns false'. Refute it at one input. -/
def ckptPlaysWrong : ChangeSpec := { name := "ckptPlays", fn := fun _ => fun
  | [d1, d2, d3] => { results := [.lit (.bool false)], args := [d1, d2, d3] }
  | _ => none }
def CkptPlaysWrongFalsely : Prop := ckptPlaysRow.holds Tryz.pinned (OpenSpec.ofChange ckptPlaysWrong)

/-- 'tributarylaw14.CkptKeeps': WHATEVER THE INPUT: true; the input reads as it did. -/
def ckptKeepsSpec : ChangeSpec := { name := "ckptKeeps", fn := fun _ => fun
  | [d1, d2] => { results := [.lit (.bool true)], args := [d1, d2] }
  | _ => none }
def ckptKeepsRow : OpenClaim := { program := "ytlmjjhenoadndaagreatdoor", sum := "be80692c4eca0e0009739c0136c3e0cd58e90cac6c92525aac93f4e9bb2082bb", func := "tributary/tributarylaw14.CkptKeeps", spec := "ckptKeeps", inPlace := ["internal/reflectlite.TypeOf", "internal/reflectlite.ValueOf", "(internal/reflectlite.Value).Type", "(internal/reflectlite.Value).IsNil", "(internal/reflectlite.Value).Elem", "(internal/reflectlite.Value).Set"], unfollowed := true, recurses := true, named := ["errors.errorType"], plainKeys := false, apart := false, laid := [("errors.errorType", laid_errors_errorType)] }
def CkptKeepsSaid : Prop := ckptKeepsRow.holds Tryz.pinned (OpenSpec.ofChange ckptKeepsSpec)

/-- ITS FALSE NEIGHBOUR: 'it returns false'. Refute it at one input. -/
def ckptKeepsWrong : ChangeSpec := { name := "ckptKeeps", fn := fun _ => fun
  | [d1, d2] => { results := [.lit (.bool false)], args := [d1, d2] }
  | _ => none }
def CkptKeepsWrongFalsely : Prop := ckptKeepsRow.holds Tryz.pinned (OpenSpec.ofChange ckptKeepsWrong)

/-- 'tributarylaw17.DriverAgain': WHATEVER THE INPUT: true; the input reads as it did. -/
def driverAgainSpec : ChangeSpec := { name := "driverAgain", fn := fun _ => fun
  | [d1, d2, d3] => { results := [.lit (.bool true)], args := [d1, d2, d3] }
  | _ => none }
def driverAgainRow : OpenClaim := { program := "ytlmjjhenoadndaagreatdoor", sum := "be80692c4eca0e0009739c0136c3e0cd58e90cac6c92525aac93f4e9bb2082bb", func := "tributary/tributarylaw17.DriverAgain", spec := "driverAgain", inPlace := ["internal/reflectlite.TypeOf", "internal/reflectlite.ValueOf", "(internal/reflectlite.Value).Type", "(internal/reflectlite.Value).IsNil", "(internal/reflectlite.Value).Elem", "(internal/reflectlite.Value).Set"], unfollowed := true, recurses := true, named := ["errors.errorType"], plainKeys := false, apart := false, laid := [("errors.errorType", laid_errors_errorType)] }
def DriverAgainSaid : Prop := driverAgainRow.holds Tryz.pinned (OpenSpec.ofChange driverAgainSpec)

/-- ITS FALSE NEIGHBOUR: 'it returns false'. Refute it at one input. -/
def driverAgainWrong : ChangeSpec := { name := "driverAgain", fn := fun _ => fun
  | [d1, d2, d3] => { results := [.lit (.bool false)], args := [d1, d2, d3] }
  | _ => none }
def DriverAgainWrongFalsely : Prop := driverAgainRow.holds Tryz.pinned (OpenSpec.ofChange driverAgainWrong)

/-- 'tributarylaw17.DriverPlays': WHATEVER THE INPUT: true; the input reads as it did. -/
def driverPlaysSpec : ChangeSpec := { name := "driverPlays", fn := fun _ => fun
  | [d1, d2, d3] => { results := [.lit (.bool true)], args := [d1, d2, d3] }
  | _ => none }
def driverPlaysRow : OpenClaim := { program := "ytlmjjhenoadndaagreatdoor", sum := "be80692c4eca0e0009739c0136c3e0cd58e90cac6c92525aac93f4e9bb2082bb", func := "tributary/tributarylaw17.DriverPlays", spec := "driverPlays", inPlace := ["internal/reflectlite.TypeOf", "internal/reflectlite.ValueOf", "(internal/reflectlite.Value).Type", "(internal/reflectlite.Value).IsNil", "(internal/reflectlite.Value).Elem", "(internal/reflectlite.Value).Set"], unfollowed := true, recurses := true, named := ["errors.errorType"], plainKeys := false, apart := false, laid := [("errors.errorType", laid_errors_errorType)] }
def DriverPlaysSaid : Prop := driverPlaysRow.holds Tryz.pinned (OpenSpec.ofChange driverPlaysSpec)

/-- ITS FALSE NEIGHBOUR: 'it returns false'. Refute it at one input. -/
def driverPlaysWrong : ChangeSpec := { name := "driverPlays", fn := fun _ => fun
  | [d1, d2, d3] => { results := [.lit (.bool false)], args := [d1, d2, d3] }
  | _ => none }
def DriverPlaysWrongFalsely : Prop := driverPlaysRow.holds Tryz.pinned (OpenSpec.ofChange driverPlaysWrong)

/- THE SECOND FORM. 'bulk': how many values and letters a reading holds, each counted each time it is reached (what is shared counts as often as it is met; a slice's spare places count too). A statement '..UptoSaid' is the law's where the arguments, and the package variables that the reading takes, are together of bulk at most 1048576: NARROWER than '..Said'. Prove '..Said' where nothing that the law and all that it calls make is longer than what came in: it says more and counts as full. Else prove '..UptoSaid'. A law counts once. -/
mutual
def uptoBulk {H : Type} : DataW H → Nat
  | .lit (.string bytes) => bytes.length + 1
  | .lit _ => 1
  | .nil => 1
  | .ptr d => uptoBulk d + 1
  | .slice elems spare => uptoBulkAll elems + uptoBulkAll spare + 1
  | .agg parts => uptoBulkAll parts + 1
  | .iface _ d => uptoBulk d + 1
  | .map entries => uptoBulkEntries entries + 1
  | .held _ => 1
def uptoBulkAll {H : Type} : List (DataW H) → Nat
  | [] => 0
  | d :: r => uptoBulk d + uptoBulkAll r
def uptoBulkEntries {H : Type} : List (Lit × DataW H) → Nat
  | [] => 0
  | x :: r => uptoBulkEntry x + uptoBulkEntries r
def uptoBulkEntry {H : Type} : Lit × DataW H → Nat
  | (.string bytes, d) => bytes.length + uptoBulk d + 1
  | (_, d) => uptoBulk d + 1
 end
def uptoSmall : (H : Type) → List (DataW H) → Bool := fun _ ds => decide (uptoBulkAll ds ≤ 1048576)
def OpenSpec.upto (s : _root_.Go.ChangeSpec) : _root_.Go.OpenSpec := { _root_.Go.OpenSpec.ofChange s with cond := some uptoSmall }

/-- 'tributarylaw14.CkptReads', WHERE WHAT IT READS IS OF BULK AT MOST 1048576: true; the input reads as it did. -/
def ckptReadsUptoRow : OpenClaim := { program := "ytlmjjhenoadndaagreatdoor", sum := "be80692c4eca0e0009739c0136c3e0cd58e90cac6c92525aac93f4e9bb2082bb", func := "tributary/tributarylaw14.CkptReads", spec := "ckptReads", inPlace := ["internal/reflectlite.ValueOf", "(internal/reflectlite.Value).Type", "(internal/reflectlite.Value).IsNil", "internal/reflectlite.TypeOf", "(internal/reflectlite.Value).Elem", "(internal/reflectlite.Value).Set"], unfollowed := true, recurses := true, named := ["errors.errorType"], plainKeys := false, apart := false, laid := [("errors.errorType", laid_errors_errorType)], narrowed := true }
def CkptReadsUptoSaid : Prop := ckptReadsUptoRow.holds Tryz.pinned (OpenSpec.upto ckptReadsSpec)

/-- 'tributarylaw14.CkptWhole', WHERE WHAT IT READS IS OF BULK AT MOST 1048576: true; the input reads as it did. -/
def ckptWholeUptoRow : OpenClaim := { program := "ytlmjjhenoadndaagreatdoor", sum := "be80692c4eca0e0009739c0136c3e0cd58e90cac6c92525aac93f4e9bb2082bb", func := "tributary/tributarylaw14.CkptWhole", spec := "ckptWhole", inPlace := ["internal/reflectlite.TypeOf", "internal/reflectlite.ValueOf", "(internal/reflectlite.Value).Type", "(internal/reflectlite.Value).IsNil", "(internal/reflectlite.Value).Elem", "(internal/reflectlite.Value).Set"], unfollowed := true, recurses := true, named := ["errors.errorType"], plainKeys := false, apart := false, laid := [("errors.errorType", laid_errors_errorType)], narrowed := true }
def CkptWholeUptoSaid : Prop := ckptWholeUptoRow.holds Tryz.pinned (OpenSpec.upto ckptWholeSpec)

/-- 'tributarylaw14.CkptPlays', WHERE WHAT IT READS IS OF BULK AT MOST 1048576: true; the input reads as it did. -/
def ckptPlaysUptoRow : OpenClaim := { program := "ytlmjjhenoadndaagreatdoor", sum := "be80692c4eca0e0009739c0136c3e0cd58e90cac6c92525aac93f4e9bb2082bb", func := "tributary/tributarylaw14.CkptPlays", spec := "ckptPlays", inPlace := ["internal/reflectlite.TypeOf", "internal/reflectlite.ValueOf", "(internal/reflectlite.Value).Type", "(internal/reflectlite.Value).IsNil", "(internal/reflectlite.Value).Elem", "(internal/reflectlite.Value).Set"], unfollowed := true, recurses := true, named := ["errors.errorType"], plainKeys := false, apart := false, laid := [("errors.errorType", laid_errors_errorType)], narrowed := true }
def CkptPlaysUptoSaid : Prop := ckptPlaysUptoRow.holds Tryz.pinned (OpenSpec.upto ckptPlaysSpec)

/-- 'tributarylaw14.CkptKeeps', WHERE WHAT IT READS IS OF BULK AT MOST 1048576: true; the input reads as it did. -/
def ckptKeepsUptoRow : OpenClaim := { program := "ytlmjjhenoadndaagreatdoor", sum := "be80692c4eca0e0009739c0136c3e0cd58e90cac6c92525aac93f4e9bb2082bb", func := "tributary/tributarylaw14.CkptKeeps", spec := "ckptKeeps", inPlace := ["internal/reflectlite.TypeOf", "internal/reflectlite.ValueOf", "(internal/reflectlite.Value).Type", "(internal/reflectlite.Value).IsNil", "(internal/reflectlite.Value).Elem", "(internal/reflectlite.Value).Set"], unfollowed := true, recurses := true, named := ["errors.errorType"], plainKeys := false, apart := false, laid := [("errors.errorType", laid_errors_errorType)], narrowed := true }
def CkptKeepsUptoSaid : Prop := ckptKeepsUptoRow.holds Tryz.pinned (OpenSpec.upto ckptKeepsSpec)

/-- 'tributarylaw17.DriverAgain', WHERE WHAT IT READS IS OF BULK AT MOST 1048576: true; the input reads as it did. -/
def driverAgainUptoRow : OpenClaim := { program := "ytlmjjhenoadndaagreatdoor", sum := "be80692c4eca0e0009739c0136c3e0cd58e90cac6c92525aac93f4e9bb2082bb", func := "tributary/tributarylaw17.DriverAgain", spec := "driverAgain", inPlace := ["internal/reflectlite.TypeOf", "internal/reflectlite.ValueOf", "(internal/reflectlite.Value).Type", "(internal/reflectlite.Value).IsNil", "(internal/reflectlite.Value).Elem", "(internal/reflectlite.Value).Set"], unfollowed := true, recurses := true, named := ["errors.errorType"], plainKeys := false, apart := false, laid := [("errors.errorType", laid_errors_errorType)], narrowed := true }
def DriverAgainUptoSaid : Prop := driverAgainUptoRow.holds Tryz.pinned (OpenSpec.upto driverAgainSpec)

/-- 'tributarylaw17.DriverPlays', WHERE WHAT IT READS IS OF BULK AT MOST 1048576: true; the input reads as it did. -/
def driverPlaysUptoRow : OpenClaim := { program := "ytlmjjhenoadndaagreatdoor", sum := "be80692c4eca0e0009739c0136c3e0cd58e90cac6c92525aac93f4e9bb2082bb", func := "tributary/tributarylaw17.DriverPlays", spec := "driverPlays", inPlace := ["internal/reflectlite.TypeOf", "internal/reflectlite.ValueOf", "(internal/reflectlite.Value).Type", "(internal/reflectlite.Value).IsNil", "(internal/reflectlite.Value).Elem", "(internal/reflectlite.Value).Set"], unfollowed := true, recurses := true, named := ["errors.errorType"], plainKeys := false, apart := false, laid := [("errors.errorType", laid_errors_errorType)], narrowed := true }
def DriverPlaysUptoSaid : Prop := driverPlaysUptoRow.holds Tryz.pinned (OpenSpec.upto driverPlaysSpec)

end Rows
end Go.Proofs.YtlmjjhenoadndaaGreatDoor
