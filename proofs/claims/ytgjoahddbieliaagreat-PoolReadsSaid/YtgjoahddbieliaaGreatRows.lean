/-
  No cell of these rows narrows 'for every input' (looked for: loops, veiled, ifaces, maps, wideKeys, modest, calm, conditions, laid).
  DERIVED. THE GIVEN ROWS OF THIS SEAT. 7 by the template 'for every input the law returns true; each argument reads behind the call as it read before'; 0 by the template 'total and deterministic' (their statements: YtgjoahddbieliaaGreatTotals.lean).
  GIVEN WITH THE SEED: the statements are not yours to turn. If you find one false, say at which input.
  Laid BY PROGRAM, IN A SANDBOX (cutbox-rows.mjs): the forced cells as the released guide's own fill.sh prints them over the translation 4c7cb305a80448a9… (all of the seat's roots in one cut). By AI agents, Wed Nov 11 2026. No macro, syntax, notation, axiom, sorry.
-/
import Derived.Test.YtgjoahddbieliaaGreatChecked
import GoSem.Claim
import GoSem.ClaimJoined
import GoSem.ClaimMapViews
import Derived.JoinedTies
import Derived.KernelRfl
namespace Go.Proofs.YtgjoahddbieliaaGreat
/- THE CELL 'sum', in the pinned program and in every row, IS THE sha256 OF THE DUMP (.gsa) THAT YtgjoahddbieliaaGreatProg.lean LOADS. Nothing in Lean hashes anything: it is a label: what it is worth is what the hold of that sum in a sandbox is worth. -/
noncomputable def Tryz.pinned : Pinned := { name := "ytgjoahddbieliaagreat", sum := "4c7cb305a80448a933aedb91f5ee0f63f0ac48daeb640fab4594705e7bbf7848", checked := Tryz.checked }
namespace Rows
def none {H : Type} : Left H := { results := [], args := [] }

/-- 'manciplelaw12.PoolPins': WHATEVER THE INPUT: true; the input reads as it did. -/
def poolPinsSpec : ChangeSpec := { name := "poolPins", fn := fun _ => fun
  | [d] => { results := [.lit (.bool true)], args := [d] }
  | _ => none }
def poolPinsRow : OpenClaim := { program := "ytgjoahddbieliaagreat", sum := "4c7cb305a80448a933aedb91f5ee0f63f0ac48daeb640fab4594705e7bbf7848", func := "manciple/manciplelaw12.PoolPins", spec := "poolPins", unfollowed := true, recurses := true, apart := false }
def PoolPinsSaid : Prop := poolPinsRow.holds Tryz.pinned (OpenSpec.ofChange poolPinsSpec)

/-- ITS FALSE NEIGHBOUR: 'it returns false'. Refute it at one input. -/
def poolPinsWrong : ChangeSpec := { name := "poolPins", fn := fun _ => fun
  | [d] => { results := [.lit (.bool false)], args := [d] }
  | _ => none }
def PoolPinsWrongFalsely : Prop := poolPinsRow.holds Tryz.pinned (OpenSpec.ofChange poolPinsWrong)

/-- 'manciplelaw12.PoolAhead': WHATEVER THE INPUT: true; the input reads as it did. -/
def poolAheadSpec : ChangeSpec := { name := "poolAhead", fn := fun _ => fun
  | [d1, d2, d3] => { results := [.lit (.bool true)], args := [d1, d2, d3] }
  | _ => none }
def poolAheadRow : OpenClaim := { program := "ytgjoahddbieliaagreat", sum := "4c7cb305a80448a933aedb91f5ee0f63f0ac48daeb640fab4594705e7bbf7848", func := "manciple/manciplelaw12.PoolAhead", spec := "poolAhead", unfollowed := true, recurses := true, apart := false }
def PoolAheadSaid : Prop := poolAheadRow.holds Tryz.pinned (OpenSpec.ofChange poolAheadSpec)

/-- ITS FALSE NEIGHBOUR: 'it returns false'. Refute it at one input. -/
def poolAheadWrong : ChangeSpec := { name := "poolAhead", fn := fun _ => fun
  | [d1, d2, d3] => { results := [.lit (.bool false)], args := [d1, d2, d3] }
  | _ => none }
def PoolAheadWrongFalsely : Prop := poolAheadRow.holds Tryz.pinned (OpenSpec.ofChange poolAheadWrong)

/-- 'manciplelaw12.PoolStamps': WHATEVER THE INPUT: true; the input reads as it did. -/
def poolStampsSpec : ChangeSpec := { name := "poolStamps", fn := fun _ => fun
  | [d1, d2, d3] => { results := [.lit (.bool true)], args := [d1, d2, d3] }
  | _ => none }
def poolStampsRow : OpenClaim := { program := "ytgjoahddbieliaagreat", sum := "4c7cb305a80448a933aedb91f5ee0f63f0ac48daeb640fab4594705e7bbf7848", func := "manciple/manciplelaw12.PoolStamps", spec := "poolStamps", unfollowed := true, recurses := true, apart := false }
def PoolStampsSaid : Prop := poolStampsRow.holds Tryz.pinned (OpenSpec.ofChange poolStampsSpec)

/-- ITS FALSE NEIGHBOUR: 'it returns false'. Refute it at one input. -/
def poolStampsWrong : ChangeSpec := { name := "poolStamps", fn := fun _ => fun
  | [d1, d2, d3] => { results := [.lit (.bool false)], args := [d1, d2, d3] }
  | _ => none }
def PoolStampsWrongFalsely : Prop := poolStampsRow.holds Tryz.pinned (OpenSpec.ofChange poolStampsWrong)

/-- 'manciplelaw12.PoolReads': WHATEVER THE INPUT: true; the input reads as it did. -/
def poolReadsSpec : ChangeSpec := { name := "poolReads", fn := fun _ => fun
  | [d1, d2, d3] => { results := [.lit (.bool true)], args := [d1, d2, d3] }
  | _ => none }
def poolReadsRow : OpenClaim := { program := "ytgjoahddbieliaagreat", sum := "4c7cb305a80448a933aedb91f5ee0f63f0ac48daeb640fab4594705e7bbf7848", func := "manciple/manciplelaw12.PoolReads", spec := "poolReads", unfollowed := true, recurses := true, apart := false }
def PoolReadsSaid : Prop := poolReadsRow.holds Tryz.pinned (OpenSpec.ofChange poolReadsSpec)

/-- ITS FALSE NEIGHBOUR: 'it returns false'. Refute it at one input. -/
def poolReadsWrong : ChangeSpec := { name := "poolReads", fn := fun _ => fun
  | [d1, d2, d3] => { results := [.lit (.bool false)], args := [d1, d2, d3] }
  | _ => none }
def PoolReadsWrongFalsely : Prop := poolReadsRow.holds Tryz.pinned (OpenSpec.ofChange poolReadsWrong)

/-- 'manciplelaw12.PoolDoes': WHATEVER THE INPUT: true; the input reads as it did. -/
def poolDoesSpec : ChangeSpec := { name := "poolDoes", fn := fun _ => fun
  | [d1, d2, d3, d4] => { results := [.lit (.bool true)], args := [d1, d2, d3, d4] }
  | _ => none }
def poolDoesRow : OpenClaim := { program := "ytgjoahddbieliaagreat", sum := "4c7cb305a80448a933aedb91f5ee0f63f0ac48daeb640fab4594705e7bbf7848", func := "manciple/manciplelaw12.PoolDoes", spec := "poolDoes", unfollowed := true, recurses := true, apart := false }
def PoolDoesSaid : Prop := poolDoesRow.holds Tryz.pinned (OpenSpec.ofChange poolDoesSpec)

/-- ITS FALSE NEIGHBOUR: 'it returns false'. Refute it at one input. -/
def poolDoesWrong : ChangeSpec := { name := "poolDoes", fn := fun _ => fun
  | [d1, d2, d3, d4] => { results := [.lit (.bool false)], args := [d1, d2, d3, d4] }
  | _ => none }
def PoolDoesWrongFalsely : Prop := poolDoesRow.holds Tryz.pinned (OpenSpec.ofChange poolDoesWrong)

/-- 'manciplelaw12.PoolTorn': WHATEVER THE INPUT: true; the input reads as it did. -/
def poolTornSpec : ChangeSpec := { name := "poolTorn", fn := fun _ => fun
  | [d1, d2, d3, d4, d5, d6, d7] => { results := [.lit (.bool true)], args := [d1, d2, d3, d4, d5, d6, d7] }
  | _ => none }
def poolTornRow : OpenClaim := { program := "ytgjoahddbieliaagreat", sum := "4c7cb305a80448a933aedb91f5ee0f63f0ac48daeb640fab4594705e7bbf7848", func := "manciple/manciplelaw12.PoolTorn", spec := "poolTorn", unfollowed := true, recurses := true, apart := false }
def PoolTornSaid : Prop := poolTornRow.holds Tryz.pinned (OpenSpec.ofChange poolTornSpec)

/-- ITS FALSE NEIGHBOUR: 'it returns false'. Refute it at one input. -/
def poolTornWrong : ChangeSpec := { name := "poolTorn", fn := fun _ => fun
  | [d1, d2, d3, d4, d5, d6, d7] => { results := [.lit (.bool false)], args := [d1, d2, d3, d4, d5, d6, d7] }
  | _ => none }
def PoolTornWrongFalsely : Prop := poolTornRow.holds Tryz.pinned (OpenSpec.ofChange poolTornWrong)

/-- 'manciplelaw12.PoolOpens': WHATEVER THE INPUT: true; the input reads as it did. -/
def poolOpensSpec : ChangeSpec := { name := "poolOpens", fn := fun _ => fun
  | [d1, d2, d3, d4, d5] => { results := [.lit (.bool true)], args := [d1, d2, d3, d4, d5] }
  | _ => none }
def poolOpensRow : OpenClaim := { program := "ytgjoahddbieliaagreat", sum := "4c7cb305a80448a933aedb91f5ee0f63f0ac48daeb640fab4594705e7bbf7848", func := "manciple/manciplelaw12.PoolOpens", spec := "poolOpens", unfollowed := true, recurses := true, apart := false }
def PoolOpensSaid : Prop := poolOpensRow.holds Tryz.pinned (OpenSpec.ofChange poolOpensSpec)

/-- ITS FALSE NEIGHBOUR: 'it returns false'. Refute it at one input. -/
def poolOpensWrong : ChangeSpec := { name := "poolOpens", fn := fun _ => fun
  | [d1, d2, d3, d4, d5] => { results := [.lit (.bool false)], args := [d1, d2, d3, d4, d5] }
  | _ => none }
def PoolOpensWrongFalsely : Prop := poolOpensRow.holds Tryz.pinned (OpenSpec.ofChange poolOpensWrong)

/- THE SECOND FORM. 'bulk': how many values and letters a reading holds, each counted each time it is reached (what is shared counts as often as it is met; a slice's spare places count too). A statement '..UptoSaid' is the law's where the arguments, and the package variables that the reading takes, are together of bulk at most 1048576: NARROWER than '..Said'. Prove '..Said' where nothing that the law and all that it calls make is longer than what came in: it says more and counts as full. Else prove '..UptoSaid'. A law counts once. -/
mutual
def uptoBulk {H : Type} : DataW H → Nat
  | .lit (.string bytes) => bytes.length + 1
  | .lit _ => 1
  | .nil => 1
  | .ptr d => uptoBulk d + 1
  | .slice elems spare => uptoBulkAll elems + uptoBulkAll spare + 1
  | .agg parts => uptoBulkAll parts + 1
  | .iface _ d => uptoBulk d + 1
  | .map entries => uptoBulkEntries entries + 1
  | .held _ => 1
def uptoBulkAll {H : Type} : List (DataW H) → Nat
  | [] => 0
  | d :: r => uptoBulk d + uptoBulkAll r
def uptoBulkEntries {H : Type} : List (Lit × DataW H) → Nat
  | [] => 0
  | x :: r => uptoBulkEntry x + uptoBulkEntries r
def uptoBulkEntry {H : Type} : Lit × DataW H → Nat
  | (.string bytes, d) => bytes.length + uptoBulk d + 1
  | (_, d) => uptoBulk d + 1
 end
def uptoSmall : (H : Type) → List (DataW H) → Bool := fun _ ds => decide (uptoBulkAll ds ≤ 1048576)
def OpenSpec.upto (s : _root_.Go.ChangeSpec) : _root_.Go.OpenSpec := { _root_.Go.OpenSpec.ofChange s with cond := some uptoSmall }

/-- 'manciplelaw12.PoolPins', WHERE WHAT IT READS IS OF BULK AT MOST 1048576: true; the input reads as it did. -/
def poolPinsUptoRow : OpenClaim := { program := "ytgjoahddbieliaagreat", sum := "4c7cb305a80448a933aedb91f5ee0f63f0ac48daeb640fab4594705e7bbf7848", func := "manciple/manciplelaw12.PoolPins", spec := "poolPins", unfollowed := true, recurses := true, apart := false, narrowed := true }
def PoolPinsUptoSaid : Prop := poolPinsUptoRow.holds Tryz.pinned (OpenSpec.upto poolPinsSpec)

/-- 'manciplelaw12.PoolAhead', WHERE WHAT IT READS IS OF BULK AT MOST 1048576: true; the input reads as it did. -/
def poolAheadUptoRow : OpenClaim := { program := "ytgjoahddbieliaagreat", sum := "4c7cb305a80448a933aedb91f5ee0f63f0ac48daeb640fab4594705e7bbf7848", func := "manciple/manciplelaw12.PoolAhead", spec := "poolAhead", unfollowed := true, recurses := true, apart := false, narrowed := true }
def PoolAheadUptoSaid : Prop := poolAheadUptoRow.holds Tryz.pinned (OpenSpec.upto poolAheadSpec)

/-- 'manciplelaw12.PoolStamps', WHERE WHAT IT READS IS OF BULK AT MOST 1048576: true; the input reads as it did. -/
def poolStampsUptoRow : OpenClaim := { program := "ytgjoahddbieliaagreat", sum := "4c7cb305a80448a933aedb91f5ee0f63f0ac48daeb640fab4594705e7bbf7848", func := "manciple/manciplelaw12.PoolStamps", spec := "poolStamps", unfollowed := true, recurses := true, apart := false, narrowed := true }
def PoolStampsUptoSaid : Prop := poolStampsUptoRow.holds Tryz.pinned (OpenSpec.upto poolStampsSpec)

/-- 'manciplelaw12.PoolReads', WHERE WHAT IT READS IS OF BULK AT MOST 1048576: true; the input reads as it did. -/
def poolReadsUptoRow : OpenClaim := { program := "ytgjoahddbieliaagreat", sum := "4c7cb305a80448a933aedb91f5ee0f63f0ac48daeb640fab4594705e7bbf7848", func := "manciple/manciplelaw12.PoolReads", spec := "poolReads", unfollowed := true, recurses := true, apart := false, narrowed := true }
def PoolReadsUptoSaid : Prop := poolReadsUptoRow.holds Tryz.pinned (OpenSpec.upto poolReadsSpec)

/-- 'manciplelaw12.PoolDoes', WHERE WHAT IT READS IS OF BULK AT MOST 1048576: true; the input reads as it did. -/
def poolDoesUptoRow : OpenClaim := { program := "ytgjoahddbieliaagreat", sum := "4c7cb305a80448a933aedb91f5ee0f63f0ac48daeb640fab4594705e7bbf7848", func := "manciple/manciplelaw12.PoolDoes", spec := "poolDoes", unfollowed := true, recurses := true, apart := false, narrowed := true }
def PoolDoesUptoSaid : Prop := poolDoesUptoRow.holds Tryz.pinned (OpenSpec.upto poolDoesSpec)

/-- 'manciplelaw12.PoolTorn', WHERE WHAT IT READS IS OF BULK AT MOST 1048576: true; the input reads as it did. -/
def poolTornUptoRow : OpenClaim := { program := "ytgjoahddbieliaagreat", sum := "4c7cb305a80448a933aedb91f5ee0f63f0ac48daeb640fab4594705e7bbf7848", func := "manciple/manciplelaw12.PoolTorn", spec := "poolTorn", unfollowed := true, recurses := true, apart := false, narrowed := true }
def PoolTornUptoSaid : Prop := poolTornUptoRow.holds Tryz.pinned (OpenSpec.upto poolTornSpec)

/-- 'manciplelaw12.PoolOpens', WHERE WHAT IT READS IS OF BULK AT MOST 1048576: true; the input reads as it did. -/
def poolOpensUptoRow : OpenClaim := { program := "ytgjoahddbieliaagreat", sum := "4c7cb305a80448a933aedb91f5ee0f63f0ac48daeb640fab4594705e7bbf7848", func := "manciple/manciplelaw12.PoolOpens", spec := "poolOpens", unfollowed := true, recurses := true, apart := false, narrowed := true }
def PoolOpensUptoSaid : Prop := poolOpensUptoRow.holds Tryz.pinned (OpenSpec.upto poolOpensSpec)

end Rows
end Go.Proofs.YtgjoahddbieliaaGreat
