/-
  No cell of these rows narrows 'for every input' (looked for: loops, veiled, ifaces, maps, wideKeys, modest, calm, conditions, laid).
  DERIVED. THE GIVEN ROWS OF THIS SEAT. 4 by the template 'for every input the law returns true; each argument reads behind the call as it read before'; 0 by the template 'total and deterministic' (their statements: YtjgacceifcnedaaGreatTotals.lean).
  GIVEN WITH THE SEED: the statements are not yours to turn. If you find one false, say at which input.
  Laid BY PROGRAM, IN A SANDBOX (cutbox-rows.mjs): the forced cells as the released guide's own fill.sh prints them over the translation 2f5b68e293323a37… (all of the seat's roots in one cut). By AI agents, Wed Nov 11 2026. No macro, syntax, notation, axiom, sorry.
-/
import Derived.Test.YtjgacceifcnedaaGreatChecked
import GoSem.Claim
import GoSem.ClaimJoined
import GoSem.ClaimMapViews
import Derived.JoinedTies
import Derived.KernelRfl
namespace Go.Proofs.YtjgacceifcnedaaGreat
/- THE CELL 'sum', in the pinned program and in every row, IS THE sha256 OF THE DUMP (.gsa) THAT YtjgacceifcnedaaGreatProg.lean LOADS. Nothing in Lean hashes anything: it is a label: what it is worth is what the hold of that sum in a sandbox is worth. -/
noncomputable def Tryz.pinned : Pinned := { name := "ytjgacceifcnedaagreat", sum := "2f5b68e293323a3799b91b4f56bc87f6ee455b6f6ea6ef22e169d2f9d3a07dd8", checked := Tryz.checked }
namespace Rows
def none {H : Type} : Left H := { results := [], args := [] }

/-- 'manciplelaw15.TxnNests': WHATEVER THE INPUT: true; the input reads as it did. -/
def txnNestsSpec : ChangeSpec := { name := "txnNests", fn := fun _ => fun
  | [d1, d2, d3, d4, d5, d6] => { results := [.lit (.bool true)], args := [d1, d2, d3, d4, d5, d6] }
  | _ => none }
def txnNestsRow : OpenClaim := { program := "ytjgacceifcnedaagreat", sum := "2f5b68e293323a3799b91b4f56bc87f6ee455b6f6ea6ef22e169d2f9d3a07dd8", func := "manciple/manciplelaw15.TxnNests", spec := "txnNests", unfollowed := true, recurses := true, apart := false }
def TxnNestsSaid : Prop := txnNestsRow.holds Tryz.pinned (OpenSpec.ofChange txnNestsSpec)

/-- ITS FALSE NEIGHBOUR: 'it returns false'. Refute it at one input. -/
def txnNestsWrong : ChangeSpec := { name := "txnNests", fn := fun _ => fun
  | [d1, d2, d3, d4, d5, d6] => { results := [.lit (.bool false)], args := [d1, d2, d3, d4, d5, d6] }
  | _ => none }
def TxnNestsWrongFalsely : Prop := txnNestsRow.holds Tryz.pinned (OpenSpec.ofChange txnNestsWrong)

/-- 'manciplelaw15.TxnBack': WHATEVER THE INPUT: true; the input reads as it did. -/
def txnBackSpec : ChangeSpec := { name := "txnBack", fn := fun _ => fun
  | [d1, d2, d3, d4, d5] => { results := [.lit (.bool true)], args := [d1, d2, d3, d4, d5] }
  | _ => none }
def txnBackRow : OpenClaim := { program := "ytjgacceifcnedaagreat", sum := "2f5b68e293323a3799b91b4f56bc87f6ee455b6f6ea6ef22e169d2f9d3a07dd8", func := "manciple/manciplelaw15.TxnBack", spec := "txnBack", unfollowed := true, recurses := true, apart := false }
def TxnBackSaid : Prop := txnBackRow.holds Tryz.pinned (OpenSpec.ofChange txnBackSpec)

/-- ITS FALSE NEIGHBOUR: 'it returns false'. Refute it at one input. -/
def txnBackWrong : ChangeSpec := { name := "txnBack", fn := fun _ => fun
  | [d1, d2, d3, d4, d5] => { results := [.lit (.bool false)], args := [d1, d2, d3, d4, d5] }
  | _ => none }
def TxnBackWrongFalsely : Prop := txnBackRow.holds Tryz.pinned (OpenSpec.ofChange txnBackWrong)

/-- 'manciplelaw15.TxnCommits': WHATEVER THE INPUT: true; the input reads as it did. -/
def txnCommitsSpec : ChangeSpec := { name := "txnCommits", fn := fun _ => fun
  | [d1, d2, d3, d4] => { results := [.lit (.bool true)], args := [d1, d2, d3, d4] }
  | _ => none }
def txnCommitsRow : OpenClaim := { program := "ytjgacceifcnedaagreat", sum := "2f5b68e293323a3799b91b4f56bc87f6ee455b6f6ea6ef22e169d2f9d3a07dd8", func := "manciple/manciplelaw15.TxnCommits", spec := "txnCommits", unfollowed := true, recurses := true, apart := false }
def TxnCommitsSaid : Prop := txnCommitsRow.holds Tryz.pinned (OpenSpec.ofChange txnCommitsSpec)

/-- ITS FALSE NEIGHBOUR: 'it returns false'. Refute it at one input. -/
def txnCommitsWrong : ChangeSpec := { name := "txnCommits", fn := fun _ => fun
  | [d1, d2, d3, d4] => { results := [.lit (.bool false)], args := [d1, d2, d3, d4] }
  | _ => none }
def TxnCommitsWrongFalsely : Prop := txnCommitsRow.holds Tryz.pinned (OpenSpec.ofChange txnCommitsWrong)

/-- 'manciplelaw15.TxnRoom': WHATEVER THE INPUT: true; the input reads as it did. -/
def txnRoomSpec : ChangeSpec := { name := "txnRoom", fn := fun _ => fun
  | [d1, d2, d3, d4, d5] => { results := [.lit (.bool true)], args := [d1, d2, d3, d4, d5] }
  | _ => none }
def txnRoomRow : OpenClaim := { program := "ytjgacceifcnedaagreat", sum := "2f5b68e293323a3799b91b4f56bc87f6ee455b6f6ea6ef22e169d2f9d3a07dd8", func := "manciple/manciplelaw15.TxnRoom", spec := "txnRoom", unfollowed := true, recurses := true, apart := false }
def TxnRoomSaid : Prop := txnRoomRow.holds Tryz.pinned (OpenSpec.ofChange txnRoomSpec)

/-- ITS FALSE NEIGHBOUR: 'it returns false'. Refute it at one input. -/
def txnRoomWrong : ChangeSpec := { name := "txnRoom", fn := fun _ => fun
  | [d1, d2, d3, d4, d5] => { results := [.lit (.bool false)], args := [d1, d2, d3, d4, d5] }
  | _ => none }
def TxnRoomWrongFalsely : Prop := txnRoomRow.holds Tryz.pinned (OpenSpec.ofChange txnRoomWrong)

/- THE SECOND FORM. 'bulk': how many values and letters a reading holds, each counted each time it is reached (what is shared counts as often as it is met; a slice's spare places count too). A statement '..UptoSaid' is the law's where the arguments, and the package variables that the reading takes, are together of bulk at most 1048576: NARROWER than '..Said'. Prove '..Said' where nothing that the law and all that it calls make is longer than what came in: it says more and counts as full. Else prove '..UptoSaid'. A law counts once. -/
mutual
def uptoBulk {H : Type} : DataW H → Nat
  | .lit (.string bytes) => bytes.length + 1
  | .lit _ => 1
  | .nil => 1
  | .ptr d => uptoBulk d + 1
  | .slice elems spare => uptoBulkAll elems + uptoBulkAll spare + 1
  | .agg parts => uptoBulkAll parts + 1
  | .iface _ d => uptoBulk d + 1
  | .map entries => uptoBulkEntries entries + 1
  | .held _ => 1
def uptoBulkAll {H : Type} : List (DataW H) → Nat
  | [] => 0
  | d :: r => uptoBulk d + uptoBulkAll r
def uptoBulkEntries {H : Type} : List (Lit × DataW H) → Nat
  | [] => 0
  | x :: r => uptoBulkEntry x + uptoBulkEntries r
def uptoBulkEntry {H : Type} : Lit × DataW H → Nat
  | (.string bytes, d) => bytes.length + uptoBulk d + 1
  | (_, d) => uptoBulk d + 1
 end
def uptoSmall : (H : Type) → List (DataW H) → Bool := fun _ ds => decide (uptoBulkAll ds ≤ 1048576)
def OpenSpec.upto (s : _root_.Go.ChangeSpec) : _root_.Go.OpenSpec := { _root_.Go.OpenSpec.ofChange s with cond := some uptoSmall }

/-- 'manciplelaw15.TxnNests', WHERE WHAT IT READS IS OF BULK AT MOST 1048576: true; the input reads as it did. -/
def txnNestsUptoRow : OpenClaim := { program := "ytjgacceifcnedaagreat", sum := "2f5b68e293323a3799b91b4f56bc87f6ee455b6f6ea6ef22e169d2f9d3a07dd8", func := "manciple/manciplelaw15.TxnNests", spec := "txnNests", unfollowed := true, recurses := true, apart := false, narrowed := true }
def TxnNestsUptoSaid : Prop := txnNestsUptoRow.holds Tryz.pinned (OpenSpec.upto txnNestsSpec)

/-- 'manciplelaw15.TxnBack', WHERE WHAT IT READS IS OF BULK AT MOST 1048576: true; the input reads as it did. -/
def txnBackUptoRow : OpenClaim := { program := "ytjgacceifcnedaagreat", sum := "2f5b68e293323a3799b91b4f56bc87f6ee455b6f6ea6ef22e169d2f9d3a07dd8", func := "manciple/manciplelaw15.TxnBack", spec := "txnBack", unfollowed := true, recurses := true, apart := false, narrowed := true }
def TxnBackUptoSaid : Prop := txnBackUptoRow.holds Tryz.pinned (OpenSpec.upto txnBackSpec)

/-- 'manciplelaw15.TxnCommits', WHERE WHAT IT READS IS OF BULK AT MOST 1048576: true; the input reads as it did. -/
def txnCommitsUptoRow : OpenClaim := { program := "ytjgacceifcnedaagreat", sum := "2f5b68e293323a3799b91b4f56bc87f6ee455b6f6ea6ef22e169d2f9d3a07dd8", func := "manciple/manciplelaw15.TxnCommits", spec := "txnCommits", unfollowed := true, recurses := true, apart := false, narrowed := true }
def TxnCommitsUptoSaid : Prop := txnCommitsUptoRow.holds Tryz.pinned (OpenSpec.upto txnCommitsSpec)

/-- 'manciplelaw15.TxnRoom', WHERE WHAT IT READS IS OF BULK AT MOST 1048576: true; the input reads as it did. -/
def txnRoomUptoRow : OpenClaim := { program := "ytjgacceifcnedaagreat", sum := "2f5b68e293323a3799b91b4f56bc87f6ee455b6f6ea6ef22e169d2f9d3a07dd8", func := "manciple/manciplelaw15.TxnRoom", spec := "txnRoom", unfollowed := true, recurses := true, apart := false, narrowed := true }
def TxnRoomUptoSaid : Prop := txnRoomUptoRow.holds Tryz.pinned (OpenSpec.upto txnRoomSpec)

end Rows
end Go.Proofs.YtjgacceifcnedaaGreat
