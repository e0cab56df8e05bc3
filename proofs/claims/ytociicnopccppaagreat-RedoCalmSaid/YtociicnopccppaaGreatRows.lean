/-
  No cell of these rows narrows 'for every input' (looked for: loops, veiled, ifaces, maps, wideKeys, modest, calm, conditions, laid).
  DERIVED. THE GIVEN ROWS OF THIS SEAT. 4 by the template 'for every input the law returns true; each argument reads behind the call as it read before'; 0 by the template 'total and deterministic' (their statements: YtociicnopccppaaGreatTotals.lean).
  GIVEN WITH THE SEED: the statements are not yours to turn. If you find one false, say at which input.
  Laid BY PROGRAM, IN A SANDBOX (cutbox-rows.mjs): the forced cells as the released guide's own fill.sh prints them over the translation 6b23358367db73c6… (all of the seat's roots in one cut). By AI agents, Wed Nov 11 2026. No macro, syntax, notation, axiom, sorry.
-/
import Derived.Test.YtociicnopccppaaGreatChecked
import GoSem.Claim
import GoSem.ClaimJoined
import GoSem.ClaimMapViews
import Derived.JoinedTies
import Derived.KernelRfl
namespace Go.Proofs.YtociicnopccppaaGreat
/- THE CELL 'sum', in the pinned program and in every row, IS THE sha256 OF THE DUMP (.gsa) THAT YtociicnopccppaaGreatProg.lean LOADS. Nothing in Lean hashes anything: it is a label: what it is worth is what the hold of that sum in a sandbox is worth. -/
noncomputable def Tryz.pinned : Pinned := { name := "ytociicnopccppaagreat", sum := "6b23358367db73c60e6e0991c93af87ca8ed4ddb73d7bf1a00ea916bc59da6b0", checked := Tryz.checked }
namespace Rows
def none {H : Type} : Left H := { results := [], args := [] }

/-- 'manciplelaw16.RedoCalm': WHATEVER THE INPUT: true; the input reads as it did. -/
def redoCalmSpec : ChangeSpec := { name := "redoCalm", fn := fun _ => fun
  | [d1, d2, d3, d4, d5] => { results := [.lit (.bool true)], args := [d1, d2, d3, d4, d5] }
  | _ => none }
def redoCalmRow : OpenClaim := { program := "ytociicnopccppaagreat", sum := "6b23358367db73c60e6e0991c93af87ca8ed4ddb73d7bf1a00ea916bc59da6b0", func := "manciple/manciplelaw16.RedoCalm", spec := "redoCalm", unfollowed := true, recurses := true, apart := false }
def RedoCalmSaid : Prop := redoCalmRow.holds Tryz.pinned (OpenSpec.ofChange redoCalmSpec)

/-- ITS FALSE NEIGHBOUR: 'it returns false'. Refute it at one input. -/
def redoCalmWrong : ChangeSpec := { name := "redoCalm", fn := fun _ => fun
  | [d1, d2, d3, d4, d5] => { results := [.lit (.bool false)], args := [d1, d2, d3, d4, d5] }
  | _ => none }
def RedoCalmWrongFalsely : Prop := redoCalmRow.holds Tryz.pinned (OpenSpec.ofChange redoCalmWrong)

/-- 'manciplelaw16.RedoKeeps': WHATEVER THE INPUT: true; the input reads as it did. -/
def redoKeepsSpec : ChangeSpec := { name := "redoKeeps", fn := fun _ => fun
  | [d1, d2, d3, d4, d5, d6, d7, d8] => { results := [.lit (.bool true)], args := [d1, d2, d3, d4, d5, d6, d7, d8] }
  | _ => none }
def redoKeepsRow : OpenClaim := { program := "ytociicnopccppaagreat", sum := "6b23358367db73c60e6e0991c93af87ca8ed4ddb73d7bf1a00ea916bc59da6b0", func := "manciple/manciplelaw16.RedoKeeps", spec := "redoKeeps", unfollowed := true, recurses := true, apart := false }
def RedoKeepsSaid : Prop := redoKeepsRow.holds Tryz.pinned (OpenSpec.ofChange redoKeepsSpec)

/-- ITS FALSE NEIGHBOUR: 'it returns false'. Refute it at one input. -/
def redoKeepsWrong : ChangeSpec := { name := "redoKeeps", fn := fun _ => fun
  | [d1, d2, d3, d4, d5, d6, d7, d8] => { results := [.lit (.bool false)], args := [d1, d2, d3, d4, d5, d6, d7, d8] }
  | _ => none }
def RedoKeepsWrongFalsely : Prop := redoKeepsRow.holds Tryz.pinned (OpenSpec.ofChange redoKeepsWrong)

/-- 'manciplelaw16.RedoOnce': WHATEVER THE INPUT: true; the input reads as it did. -/
def redoOnceSpec : ChangeSpec := { name := "redoOnce", fn := fun _ => fun
  | [d1, d2, d3, d4, d5, d6, d7, d8] => { results := [.lit (.bool true)], args := [d1, d2, d3, d4, d5, d6, d7, d8] }
  | _ => none }
def redoOnceRow : OpenClaim := { program := "ytociicnopccppaagreat", sum := "6b23358367db73c60e6e0991c93af87ca8ed4ddb73d7bf1a00ea916bc59da6b0", func := "manciple/manciplelaw16.RedoOnce", spec := "redoOnce", unfollowed := true, recurses := true, apart := false }
def RedoOnceSaid : Prop := redoOnceRow.holds Tryz.pinned (OpenSpec.ofChange redoOnceSpec)

/-- ITS FALSE NEIGHBOUR: 'it returns false'. Refute it at one input. -/
def redoOnceWrong : ChangeSpec := { name := "redoOnce", fn := fun _ => fun
  | [d1, d2, d3, d4, d5, d6, d7, d8] => { results := [.lit (.bool false)], args := [d1, d2, d3, d4, d5, d6, d7, d8] }
  | _ => none }
def RedoOnceWrongFalsely : Prop := redoOnceRow.holds Tryz.pinned (OpenSpec.ofChange redoOnceWrong)

/-- 'manciplelaw16.RedoTwice': WHATEVER THE INPUT: true; the input reads as it did. -/
def redoTwiceSpec : ChangeSpec := { name := "redoTwice", fn := fun _ => fun
  | [d1, d2, d3, d4, d5, d6, d7, d8] => { results := [.lit (.bool true)], args := [d1, d2, d3, d4, d5, d6, d7, d8] }
  | _ => none }
def redoTwiceRow : OpenClaim := { program := "ytociicnopccppaagreat", sum := "6b23358367db73c60e6e0991c93af87ca8ed4ddb73d7bf1a00ea916bc59da6b0", func := "manciple/manciplelaw16.RedoTwice", spec := "redoTwice", unfollowed := true, recurses := true, apart := false }
def RedoTwiceSaid : Prop := redoTwiceRow.holds Tryz.pinned (OpenSpec.ofChange redoTwiceSpec)

/-- ITS FALSE NEIGHBOUR: 'it returns false'. Refute it at one input. -/
def redoTwiceWrong : ChangeSpec := { name := "redoTwice", fn := fun _ => fun
  | [d1, d2, d3, d4, d5, d6, d7, d8] => { results := [.lit (.bool false)], args := [d1, d2, d3, d4, d5, d6, d7, d8] }
  | _ => none }
def RedoTwiceWrongFalsely : Prop := redoTwiceRow.holds Tryz.pinned (OpenSpec.ofChange redoTwiceWrong)

/- THE SECOND FORM. 'bulk': how many values and letters a reading holds, each counted each time it is reached (what is shared counts as often as it is met; a slice's spare places count too). A statement '..UptoSaid' is the law's where the arguments, and the package variables that the reading takes, are together of bulk at most 1048576: NARROWER than '..Said'. Prove '..Said' where nothing that the law and all that it calls make is longer than what came in: it says more and counts as full. Else prove '..UptoSaid'. A law counts once. -/
mutual
def uptoBulk {H : Type} : DataW H → Nat
  | .lit (.string bytes) => bytes.length + 1
  | .lit _ => 1
  | .nil => 1
  | .ptr d => uptoBulk d + 1
  | .slice elems spare => uptoBulkAll elems + uptoBulkAll spare + 1
  | .agg parts => uptoBulkAll parts + 1
  | .iface _ d => uptoBulk d + 1
  | .map entries => uptoBulkEntries entries + 1
  | .held _ => 1
def uptoBulkAll {H : Type} : List (DataW H) → Nat
  | [] => 0
  | d :: r => uptoBulk d + uptoBulkAll r
def uptoBulkEntries {H : Type} : List (Lit × DataW H) → Nat
  | [] => 0
  | x :: r => uptoBulkEntry x + uptoBulkEntries r
def uptoBulkEntry {H : Type} : Lit × DataW H → Nat
  | (.string bytes, d) => bytes.length + uptoBulk d + 1
  | (_, d) => uptoBulk d + 1
 end
def uptoSmall : (H : Type) → List (DataW H) → Bool := fun _ ds => decide (uptoBulkAll ds ≤ 1048576)
def OpenSpec.upto (s : _root_.Go.ChangeSpec) : _root_.Go.OpenSpec := { _root_.Go.OpenSpec.ofChange s with cond := some uptoSmall }

/-- 'manciplelaw16.RedoCalm', WHERE WHAT IT READS IS OF BULK AT MOST 1048576: true; the input reads as it did. -/
def redoCalmUptoRow : OpenClaim := { program := "ytociicnopccppaagreat", sum := "6b23358367db73c60e6e0991c93af87ca8ed4ddb73d7bf1a00ea916bc59da6b0", func := "manciple/manciplelaw16.RedoCalm", spec := "redoCalm", unfollowed := true, recurses := true, apart := false, narrowed := true }
def RedoCalmUptoSaid : Prop := redoCalmUptoRow.holds Tryz.pinned (OpenSpec.upto redoCalmSpec)

/-- 'manciplelaw16.RedoKeeps', WHERE WHAT IT READS IS OF BULK AT MOST 1048576: true; the input reads as it did. -/
def redoKeepsUptoRow : OpenClaim := { program := "ytociicnopccppaagreat", sum := "6b23358367db73c60e6e0991c93af87ca8ed4ddb73d7bf1a00ea916bc59da6b0", func := "manciple/manciplelaw16.RedoKeeps", spec := "redoKeeps", unfollowed := true, recurses := true, apart := false, narrowed := true }
def RedoKeepsUptoSaid : Prop := redoKeepsUptoRow.holds Tryz.pinned (OpenSpec.upto redoKeepsSpec)

/-- 'manciplelaw16.RedoOnce', WHERE WHAT IT READS IS OF BULK AT MOST 1048576: true; the input reads as it did. -/
def redoOnceUptoRow : OpenClaim := { program := "ytociicnopccppaagreat", sum := "6b23358367db73c60e6e0991c93af87ca8ed4ddb73d7bf1a00ea916bc59da6b0", func := "manciple/manciplelaw16.RedoOnce", spec := "redoOnce", unfollowed := true, recurses := true, apart := false, narrowed := true }
def RedoOnceUptoSaid : Prop := redoOnceUptoRow.holds Tryz.pinned (OpenSpec.upto redoOnceSpec)

/-- 'manciplelaw16.RedoTwice', WHERE WHAT IT READS IS OF BULK AT MOST 1048576: true; the input reads as it did. -/
def redoTwiceUptoRow : OpenClaim := { program := "ytociicnopccppaagreat", sum := "6b23358367db73c60e6e0991c93af87ca8ed4ddb73d7bf1a00ea916bc59da6b0", func := "manciple/manciplelaw16.RedoTwice", spec := "redoTwice", unfollowed := true, recurses := true, apart := false, narrowed := true }
def RedoTwiceUptoSaid : Prop := redoTwiceUptoRow.holds Tryz.pinned (OpenSpec.upto redoTwiceSpec)

end Rows
end Go.Proofs.YtociicnopccppaaGreat
