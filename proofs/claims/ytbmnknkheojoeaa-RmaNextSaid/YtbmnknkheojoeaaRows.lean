/-
  No cell of these rows narrows 'for every input' (looked for: loops, veiled, ifaces, maps, wideKeys, modest, calm, conditions, laid).
  DERIVED. THE GIVEN ROWS OF THIS SEAT. 5 by the template 'for every input the law returns true; each argument reads behind the call as it read before'; 0 by the template 'total and deterministic' (their statements: YtbmnknkheojoeaaTotals.lean).
  GIVEN WITH THE SEED: the statements are not yours to turn. If you find one false, say at which input.
  Laid BY PROGRAM, IN A SANDBOX (cutbox-rows.mjs): the forced cells as the released guide's own fill.sh prints them over the translation a9b421962996788d… (all of the seat's roots in one cut). By AI agents, Wed Nov 11 2026. No macro, syntax, notation, axiom, sorry.
-/
import Derived.Test.YtbmnknkheojoeaaChecked
import GoSem.Claim
import GoSem.ClaimJoined
import GoSem.ClaimMapViews
import Derived.JoinedTies
import Derived.KernelRfl
namespace Go.Proofs.Ytbmnknkheojoeaa
/- THE CELL 'sum', in the pinned program and in every row, IS THE sha256 OF THE DUMP (.gsa) THAT YtbmnknkheojoeaaProg.lean LOADS. Nothing in Lean hashes anything: it is a label: what it is worth is what the hold of that sum in a sandbox is worth. -/
noncomputable def Try.pinned : Pinned := { name := "ytbmnknkheojoeaa", sum := "a9b421962996788dba779a9f778a5916b43c1d4cc6c6dc86723b755dbff00aab", checked := Try.checked }
namespace Rows
def none {H : Type} : Left H := { results := [], args := [] }

/-- 'recouplaw14.RmaNext': WHATEVER THE INPUT: true; the input reads as it did. -/
def rmaNextSpec : ChangeSpec := { name := "rmaNext", fn := fun _ => fun
  | [d1, d2] => { results := [.lit (.bool true)], args := [d1, d2] }
  | _ => none }
def rmaNextRow : OpenClaim := { program := "ytbmnknkheojoeaa", sum := "a9b421962996788dba779a9f778a5916b43c1d4cc6c6dc86723b755dbff00aab", func := "recoup/recouplaw14.RmaNext", spec := "rmaNext", apart := false }
def RmaNextSaid : Prop := rmaNextRow.holds Try.pinned (OpenSpec.ofChange rmaNextSpec)

/-- ITS FALSE NEIGHBOUR: 'it returns false'. Refute it at one input. -/
def rmaNextWrong : ChangeSpec := { name := "rmaNext", fn := fun _ => fun
  | [d1, d2] => { results := [.lit (.bool false)], args := [d1, d2] }
  | _ => none }
def RmaNextWrongFalsely : Prop := rmaNextRow.holds Try.pinned (OpenSpec.ofChange rmaNextWrong)

/-- 'recouplaw14.RmaEnds': WHATEVER THE INPUT: true; the input reads as it did. -/
def rmaEndsSpec : ChangeSpec := { name := "rmaEnds", fn := fun _ => fun
  | [d] => { results := [.lit (.bool true)], args := [d] }
  | _ => none }
def rmaEndsRow : OpenClaim := { program := "ytbmnknkheojoeaa", sum := "a9b421962996788dba779a9f778a5916b43c1d4cc6c6dc86723b755dbff00aab", func := "recoup/recouplaw14.RmaEnds", spec := "rmaEnds", apart := false }
def RmaEndsSaid : Prop := rmaEndsRow.holds Try.pinned (OpenSpec.ofChange rmaEndsSpec)

/-- ITS FALSE NEIGHBOUR: 'it returns false'. Refute it at one input. -/
def rmaEndsWrong : ChangeSpec := { name := "rmaEnds", fn := fun _ => fun
  | [d] => { results := [.lit (.bool false)], args := [d] }
  | _ => none }
def RmaEndsWrongFalsely : Prop := rmaEndsRow.holds Try.pinned (OpenSpec.ofChange rmaEndsWrong)

/-- 'recouplaw14.RmaEqual': WHATEVER THE INPUT: true; the input reads as it did. -/
def rmaEqualSpec : ChangeSpec := { name := "rmaEqual", fn := fun _ => fun
  | [d1, d2] => { results := [.lit (.bool true)], args := [d1, d2] }
  | _ => none }
def rmaEqualRow : OpenClaim := { program := "ytbmnknkheojoeaa", sum := "a9b421962996788dba779a9f778a5916b43c1d4cc6c6dc86723b755dbff00aab", func := "recoup/recouplaw14.RmaEqual", spec := "rmaEqual", apart := false }
def RmaEqualSaid : Prop := rmaEqualRow.holds Try.pinned (OpenSpec.ofChange rmaEqualSpec)

/-- ITS FALSE NEIGHBOUR: 'it returns false'. Refute it at one input. -/
def rmaEqualWrong : ChangeSpec := { name := "rmaEqual", fn := fun _ => fun
  | [d1, d2] => { results := [.lit (.bool false)], args := [d1, d2] }
  | _ => none }
def RmaEqualWrongFalsely : Prop := rmaEqualRow.holds Try.pinned (OpenSpec.ofChange rmaEqualWrong)

/-- 'recouplaw14.RmaBack': WHATEVER THE INPUT: true; the input reads as it did. -/
def rmaBackSpec : ChangeSpec := { name := "rmaBack", fn := fun _ => fun
  | [d] => { results := [.lit (.bool true)], args := [d] }
  | _ => none }
def rmaBackRow : OpenClaim := { program := "ytbmnknkheojoeaa", sum := "a9b421962996788dba779a9f778a5916b43c1d4cc6c6dc86723b755dbff00aab", func := "recoup/recouplaw14.RmaBack", spec := "rmaBack", apart := false }
def RmaBackSaid : Prop := rmaBackRow.holds Try.pinned (OpenSpec.ofChange rmaBackSpec)

/-- ITS FALSE NEIGHBOUR: 'it returns false'. Refute it at one input. -/
def rmaBackWrong : ChangeSpec := { name := "rmaBack", fn := fun _ => fun
  | [d] => { results := [.lit (.bool false)], args := [d] }
  | _ => none }
def RmaBackWrongFalsely : Prop := rmaBackRow.holds Try.pinned (OpenSpec.ofChange rmaBackWrong)

/-- 'recouplaw14.RmaReads': WHATEVER THE INPUT: true; the input reads as it did. -/
def rmaReadsSpec : ChangeSpec := { name := "rmaReads", fn := fun _ => fun
  | [d] => { results := [.lit (.bool true)], args := [d] }
  | _ => none }
def rmaReadsRow : OpenClaim := { program := "ytbmnknkheojoeaa", sum := "a9b421962996788dba779a9f778a5916b43c1d4cc6c6dc86723b755dbff00aab", func := "recoup/recouplaw14.RmaReads", spec := "rmaReads", apart := false }
def RmaReadsSaid : Prop := rmaReadsRow.holds Try.pinned (OpenSpec.ofChange rmaReadsSpec)

/-- ITS FALSE NEIGHBOUR: 'it returns false'. Refute it at one input. -/
def rmaReadsWrong : ChangeSpec := { name := "rmaReads", fn := fun _ => fun
  | [d] => { results := [.lit (.bool false)], args := [d] }
  | _ => none }
def RmaReadsWrongFalsely : Prop := rmaReadsRow.holds Try.pinned (OpenSpec.ofChange rmaReadsWrong)

/- THE SECOND FORM. 'bulk': how many values and letters a reading holds, each counted each time it is reached (what is shared counts as often as it is met; a slice's spare places count too). A statement '..UptoSaid' is the law's where the arguments, and the package variables that the reading takes, are together of bulk at most 1048576: NARROWER than '..Said'. Prove '..Said' where nothing that the law and all that it calls make is longer than what came in: it says more and counts as full. Else prove '..UptoSaid'. A law counts once. -/
mutual
def uptoBulk {H : Type} : DataW H → Nat
  | .lit (.string bytes) => bytes.length + 1
  | .lit _ => 1
  | .nil => 1
  | .ptr d => uptoBulk d + 1
  | .slice elems spare => uptoBulkAll elems + uptoBulkAll spare + 1
  | .agg parts => uptoBulkAll parts + 1
  | .iface _ d => uptoBulk d + 1
  | .map entries => uptoBulkEntries entries + 1
  | .held _ => 1
def uptoBulkAll {H : Type} : List (DataW H) → Nat
  | [] => 0
  | d :: r => uptoBulk d + uptoBulkAll r
def uptoBulkEntries {H : Type} : List (Lit × DataW H) → Nat
  | [] => 0
  | x :: r => uptoBulkEntry x + uptoBulkEntries r
def uptoBulkEntry {H : Type} : Lit × DataW H → Nat
  | (.string bytes, d) => bytes.length + uptoBulk d + 1
  | (_, d) => uptoBulk d + 1
 end
def uptoSmall : (H : Type) → List (DataW H) → Bool := fun _ ds => decide (uptoBulkAll ds ≤ 1048576)
def OpenSpec.upto (s : _root_.Go.ChangeSpec) : _root_.Go.OpenSpec := { _root_.Go.OpenSpec.ofChange s with cond := some uptoSmall }

/-- 'recouplaw14.RmaNext', WHERE WHAT IT READS IS OF BULK AT MOST 1048576: true; the input reads as it did. -/
def rmaNextUptoRow : OpenClaim := { program := "ytbmnknkheojoeaa", sum := "a9b421962996788dba779a9f778a5916b43c1d4cc6c6dc86723b755dbff00aab", func := "recoup/recouplaw14.RmaNext", spec := "rmaNext", apart := false, narrowed := true }
def RmaNextUptoSaid : Prop := rmaNextUptoRow.holds Try.pinned (OpenSpec.upto rmaNextSpec)

/-- 'recouplaw14.RmaEnds', WHERE WHAT IT READS IS OF BULK AT MOST 1048576: true; the input reads as it did. -/
def rmaEndsUptoRow : OpenClaim := { program := "ytbmnknkheojoeaa", sum := "a9b421962996788dba779a9f778a5916b43c1d4cc6c6dc86723b755dbff00aab", func := "recoup/recouplaw14.RmaEnds", spec := "rmaEnds", apart := false, narrowed := true }
def RmaEndsUptoSaid : Prop := rmaEndsUptoRow.holds Try.pinned (OpenSpec.upto rmaEndsSpec)

/-- 'recouplaw14.RmaEqual', WHERE WHAT IT READS IS OF BULK AT MOST 1048576: true; the input reads as it did. -/
def rmaEqualUptoRow : OpenClaim := { program := "ytbmnknkheojoeaa", sum := "a9b421962996788dba779a9f778a5916b43c1d4cc6c6dc86723b755dbff00aab", func := "recoup/recouplaw14.RmaEqual", spec := "rmaEqual", apart := false, narrowed := true }
def RmaEqualUptoSaid : Prop := rmaEqualUptoRow.holds Try.pinned (OpenSpec.upto rmaEqualSpec)

/-- 'recouplaw14.RmaBack', WHERE WHAT IT READS IS OF BULK AT MOST 1048576: true; the input reads as it did. -/
def rmaBackUptoRow : OpenClaim := { program := "ytbmnknkheojoeaa", sum := "a9b421962996788dba779a9f778a5916b43c1d4cc6c6dc86723b755dbff00aab", func := "recoup/recouplaw14.RmaBack", spec := "rmaBack", apart := false, narrowed := true }
def RmaBackUptoSaid : Prop := rmaBackUptoRow.holds Try.pinned (OpenSpec.upto rmaBackSpec)

/-- 'recouplaw14.RmaReads', WHERE WHAT IT READS IS OF BULK AT MOST 1048576: true; the input reads as it did. -/
def rmaReadsUptoRow : OpenClaim := { program := "ytbmnknkheojoeaa", sum := "a9b421962996788dba779a9f778a5916b43c1d4cc6c6dc86723b755dbff00aab", func := "recoup/recouplaw14.RmaReads", spec := "rmaReads", apart := false, narrowed := true }
def RmaReadsUptoSaid : Prop := rmaReadsUptoRow.holds Try.pinned (OpenSpec.upto rmaReadsSpec)

end Rows
end Go.Proofs.Ytbmnknkheojoeaa
