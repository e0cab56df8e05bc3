/-
  No cell of these rows narrows 'for every input' (looked for: loops, veiled, ifaces, maps, wideKeys, modest, calm, conditions, laid).
  DERIVED. THE GIVEN ROWS OF THIS SEAT. 3 by the template 'for every input the law returns true; each argument reads behind the call as it read before'; 0 by the template 'total and deterministic' (their statements: YtemacanaihaldaaGreatTotals.lean).
  GIVEN WITH THE SEED: the statements are not yours to turn. If you find one false, say at which input.
  Laid BY PROGRAM, IN A SANDBOX (cutbox-rows.mjs): the forced cells as the released guide's own fill.sh prints them over the translation 3cbf98162879f937… (all of the seat's roots in one cut). By AI agents, Wed Nov 11 2026. No macro, syntax, notation, axiom, sorry.
-/
import Derived.Test.YtemacanaihaldaaGreatChecked
import GoSem.Claim
import GoSem.ClaimJoined
import GoSem.ClaimMapViews
import Derived.JoinedTies
import Derived.KernelRfl
namespace Go.Proofs.YtemacanaihaldaaGreat
/- THE CELL 'sum', in the pinned program and in every row, IS THE sha256 OF THE DUMP (.gsa) THAT YtemacanaihaldaaGreatProg.lean LOADS. Nothing in Lean hashes anything: it is a label: what it is worth is what the hold of that sum in a sandbox is worth. -/
noncomputable def Tryz.pinned : Pinned := { name := "ytemacanaihaldaagreat", sum := "3cbf98162879f937cd4a9cc7438dab6e4eb555113ba036083efc86bb830160a2", checked := Tryz.checked }
namespace Rows
def none {H : Type} : Left H := { results := [], args := [] }

/-- 'manciplelaw12.PoolTorn': WHATEVER THE INPUT: true; the input reads as it did. -/
def poolTornSpec : ChangeSpec := { name := "poolTorn", fn := fun _ => fun
  | [d1, d2, d3, d4, d5, d6, d7] => { results := [.lit (.bool true)], args := [d1, d2, d3, d4, d5, d6, d7] }
  | _ => none }
def poolTornRow : OpenClaim := { program := "ytemacanaihaldaagreat", sum := "3cbf98162879f937cd4a9cc7438dab6e4eb555113ba036083efc86bb830160a2", func := "manciple/manciplelaw12.PoolTorn", spec := "poolTorn", unfollowed := true, recurses := true, apart := false }
def PoolTornSaid : Prop := poolTornRow.holds Tryz.pinned (OpenSpec.ofChange poolTornSpec)

/-- ITS FALSE NEIGHBOUR: 'it returns false'. Refute it at one input. -/
def poolTornWrong : ChangeSpec := { name := "poolTorn", fn := fun _ => fun
  | [d1, d2, d3, d4, d5, d6, d7] => { results := [.lit (.bool false)], args := [d1, d2, d3, d4, d5, d6, d7] }
  | _ => none }
def PoolTornWrongFalsely : Prop := poolTornRow.holds Tryz.pinned (OpenSpec.ofChange poolTornWrong)

/-- 'manciplelaw15.TxnRoom': WHATEVER THE INPUT: true; the input reads as it did. -/
def txnRoomSpec : ChangeSpec := { name := "txnRoom", fn := fun _ => fun
  | [d1, d2, d3, d4, d5] => { results := [.lit (.bool true)], args := [d1, d2, d3, d4, d5] }
  | _ => none }
def txnRoomRow : OpenClaim := { program := "ytemacanaihaldaagreat", sum := "3cbf98162879f937cd4a9cc7438dab6e4eb555113ba036083efc86bb830160a2", func := "manciple/manciplelaw15.TxnRoom", spec := "txnRoom", unfollowed := true, recurses := true, apart := false }
def TxnRoomSaid : Prop := txnRoomRow.holds Tryz.pinned (OpenSpec.ofChange txnRoomSpec)

/-- ITS FALSE NEIGHBOUR: 'it returns false'. Refute it at one input. -/
def txnRoomWrong : ChangeSpec := { name := "txnRoom", fn := fun _ => fun
  | [d1, d2, d3, d4, d5] => { results := [.lit (.bool false)], args := [d1, d2, d3, d4, d5] }
  | _ => none }
def TxnRoomWrongFalsely : Prop := txnRoomRow.holds Tryz.pinned (OpenSpec.ofChange txnRoomWrong)

/-- 'manciplelaw16.RedoCalm': WHATEVER THE INPUT: true; the input reads as it did. -/
def redoCalmSpec : ChangeSpec := { name := "redoCalm", fn := fun _ => fun
  | [d1, d2, d3, d4, d5] => { results := [.lit (.bool true)], args := [d1, d2, d3, d4, d5] }
  | _ => none }
def redoCalmRow : OpenClaim := { program := "ytemacanaihaldaagreat", sum := "3cbf98162879f937cd4a9cc7438dab6e4eb555113ba036083efc86bb830160a2", func := "manciple/manciplelaw16.RedoCalm", spec := "redoCalm", unfollowed := true, recurses := true, apart := false }
def RedoCalmSaid : Prop := redoCalmRow.holds Tryz.pinned (OpenSpec.ofChange redoCalmSpec)

/-- ITS FALSE NEIGHBOUR: 'it returns false'. Refute it at one input. -/
def redoCalmWrong : ChangeSpec := { name := "redoCalm", fn := fun _ => fun
  | [d1, d2, d3, d4, d5] => { results := [.lit (.bool false)], args := [d1, d2, d3, d4, d5] }
  | _ => none }
def RedoCalmWrongFalsely : Prop := redoCalmRow.holds Tryz.pinned (OpenSpec.ofChange redoCalmWrong)

/- THE SECOND FORM. 'bulk': how many values and letters a reading holds, each counted each time it is reached (what is shared counts as often as it is met; a slice's spare places count too). A statement '..UptoSaid' is the law's where the arguments, and the package variables that the reading takes, are together of bulk at most 1048576: NARROWER than '..Said'. Prove '..Said' where nothing that the law and all that it calls make is longer than what came in: it says more and counts as full. Else prove '..UptoSaid'. A law counts once. -/
mutual
def uptoBulk {H : Type} : DataW H → Nat
  | .lit (.string bytes) => bytes.length + 1
  | .lit _ => 1
  | .nil => 1
  | .ptr d => uptoBulk d + 1
  | .slice elems spare => uptoBulkAll elems + uptoBulkAll spare + 1
  | .agg parts => uptoBulkAll parts + 1
  | .iface _ d => uptoBulk d + 1
  | .map entries => uptoBulkEntries entries + 1
  | .held _ => 1
def uptoBulkAll {H : Type} : List (DataW H) → Nat
  | [] => 0
  | d :: r => uptoBulk d + uptoBulkAll r
def uptoBulkEntries {H : Type} : List (Lit × DataW H) → Nat
  | [] => 0
  | x :: r => uptoBulkEntry x + uptoBulkEntries r
def uptoBulkEntry {H : Type} : Lit × DataW H → Nat
  | (.string bytes, d) => bytes.length + uptoBulk d + 1
  | (_, d) => uptoBulk d + 1
 end
def uptoSmall : (H : Type) → List (DataW H) → Bool := fun _ ds => decide (uptoBulkAll ds ≤ 1048576)
def OpenSpec.upto (s : _root_.Go.ChangeSpec) : _root_.Go.OpenSpec := { _root_.Go.OpenSpec.ofChange s with cond := some uptoSmall }

/-- 'manciplelaw12.PoolTorn', WHERE WHAT IT READS IS OF BULK AT MOST 1048576: true; the input reads as it did. -/
def poolTornUptoRow : OpenClaim := { program := "ytemacanaihaldaagreat", sum := "3cbf98162879f937cd4a9cc7438dab6e4eb555113ba036083efc86bb830160a2", func := "manciple/manciplelaw12.PoolTorn", spec := "poolTorn", unfollowed := true, recurses := true, apart := false, narrowed := true }
def PoolTornUptoSaid : Prop := poolTornUptoRow.holds Tryz.pinned (OpenSpec.upto poolTornSpec)

/-- 'manciplelaw15.TxnRoom', WHERE WHAT IT READS IS OF BULK AT MOST 1048576: true; the input reads as it did. -/
def txnRoomUptoRow : OpenClaim := { program := "ytemacanaihaldaagreat", sum := "3cbf98162879f937cd4a9cc7438dab6e4eb555113ba036083efc86bb830160a2", func := "manciple/manciplelaw15.TxnRoom", spec := "txnRoom", unfollowed := true, recurses := true, apart := false, narrowed := true }
def TxnRoomUptoSaid : Prop := txnRoomUptoRow.holds Tryz.pinned (OpenSpec.upto txnRoomSpec)

/-- 'manciplelaw16.RedoCalm', WHERE WHAT IT READS IS OF BULK AT MOST 1048576: true; the input reads as it did. -/
def redoCalmUptoRow : OpenClaim := { program := "ytemacanaihaldaagreat", sum := "3cbf98162879f937cd4a9cc7438dab6e4eb555113ba036083efc86bb830160a2", func := "manciple/manciplelaw16.RedoCalm", spec := "redoCalm", unfollowed := true, recurses := true, apart := false, narrowed := true }
def RedoCalmUptoSaid : Prop := redoCalmUptoRow.holds Tryz.pinned (OpenSpec.upto redoCalmSpec)

end Rows
end Go.Proofs.YtemacanaihaldaaGreat
