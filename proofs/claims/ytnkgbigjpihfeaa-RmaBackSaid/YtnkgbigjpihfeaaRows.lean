/-
  No cell of these rows narrows 'for every input' (looked for: loops, veiled, ifaces, maps, wideKeys, modest, calm, conditions, laid).
  DERIVED. THE GIVEN ROWS OF THIS SEAT. 12 by the template 'for every input the law returns true; each argument reads behind the call as it read before'; 0 by the template 'total and deterministic' (their statements: YtnkgbigjpihfeaaTotals.lean).
  GIVEN WITH THE SEED: the statements are not yours to turn. If you find one false, say at which input.
  Laid BY PROGRAM, IN A SANDBOX (cutbox-rows.mjs): the forced cells as the released guide's own fill.sh prints them over the translation 3762a9b52679d6b9… (all of the seat's roots in one cut). By AI agents, Wed Nov 11 2026. No macro, syntax, notation, axiom, sorry.
-/
import Derived.Test.YtnkgbigjpihfeaaChecked
import GoSem.Claim
import GoSem.ClaimJoined
import GoSem.ClaimMapViews
import Derived.JoinedTies
import Derived.KernelRfl
namespace Go.Proofs.Ytnkgbigjpihfeaa
/- THE CELL 'sum', in the pinned program and in every row, IS THE sha256 OF THE DUMP (.gsa) THAT YtnkgbigjpihfeaaProg.lean LOADS. Nothing in Lean hashes anything: it is a label: what it is worth is what the hold of that sum in a sandbox is worth. -/
noncomputable def Try.pinned : Pinned := { name := "ytnkgbigjpihfeaa", sum := "3762a9b52679d6b905e1bda969fb9a40421df107da9a1a8b6552cd82e4d2668f", checked := Try.checked }
namespace Rows
def none {H : Type} : Left H := { results := [], args := [] }

/-- 'recouplaw02.CodecMost': WHATEVER THE INPUT: true; the input reads as it did. -/
def codecMostSpec : ChangeSpec := { name := "codecMost", fn := fun _ => fun
  | [d1, d2] => { results := [.lit (.bool true)], args := [d1, d2] }
  | _ => none }
def codecMostRow : OpenClaim := { program := "ytnkgbigjpihfeaa", sum := "3762a9b52679d6b905e1bda969fb9a40421df107da9a1a8b6552cd82e4d2668f", func := "recoup/recouplaw02.CodecMost", spec := "codecMost", apart := false }
def CodecMostSaid : Prop := codecMostRow.holds Try.pinned (OpenSpec.ofChange codecMostSpec)

/-- ITS FALSE NEIGHBOUR: 'it returns false'. Refute it at one input. -/
def codecMostWrong : ChangeSpec := { name := "codecMost", fn := fun _ => fun
  | [d1, d2] => { results := [.lit (.bool false)], args := [d1, d2] }
  | _ => none }
def CodecMostWrongFalsely : Prop := codecMostRow.holds Try.pinned (OpenSpec.ofChange codecMostWrong)

/-- 'recouplaw02.CodecReads': WHATEVER THE INPUT: true; the input reads as it did. -/
def codecReadsSpec : ChangeSpec := { name := "codecReads", fn := fun _ => fun
  | [d1, d2] => { results := [.lit (.bool true)], args := [d1, d2] }
  | _ => none }
def codecReadsRow : OpenClaim := { program := "ytnkgbigjpihfeaa", sum := "3762a9b52679d6b905e1bda969fb9a40421df107da9a1a8b6552cd82e4d2668f", func := "recoup/recouplaw02.CodecReads", spec := "codecReads", apart := false }
def CodecReadsSaid : Prop := codecReadsRow.holds Try.pinned (OpenSpec.ofChange codecReadsSpec)

/-- ITS FALSE NEIGHBOUR: 'it returns false'. Refute it at one input. -/
def codecReadsWrong : ChangeSpec := { name := "codecReads", fn := fun _ => fun
  | [d1, d2] => { results := [.lit (.bool false)], args := [d1, d2] }
  | _ => none }
def CodecReadsWrongFalsely : Prop := codecReadsRow.holds Try.pinned (OpenSpec.ofChange codecReadsWrong)

/-- 'recouplaw02.CodecWrites': WHATEVER THE INPUT: true; the input reads as it did. -/
def codecWritesSpec : ChangeSpec := { name := "codecWrites", fn := fun _ => fun
  | [d] => { results := [.lit (.bool true)], args := [d] }
  | _ => none }
def codecWritesRow : OpenClaim := { program := "ytnkgbigjpihfeaa", sum := "3762a9b52679d6b905e1bda969fb9a40421df107da9a1a8b6552cd82e4d2668f", func := "recoup/recouplaw02.CodecWrites", spec := "codecWrites", apart := false }
def CodecWritesSaid : Prop := codecWritesRow.holds Try.pinned (OpenSpec.ofChange codecWritesSpec)

/-- ITS FALSE NEIGHBOUR: 'it returns false'. Refute it at one input. -/
def codecWritesWrong : ChangeSpec := { name := "codecWrites", fn := fun _ => fun
  | [d] => { results := [.lit (.bool false)], args := [d] }
  | _ => none }
def CodecWritesWrongFalsely : Prop := codecWritesRow.holds Try.pinned (OpenSpec.ofChange codecWritesWrong)

/-- 'recouplaw02.CodecBack': WHATEVER THE INPUT: true; the input reads as it did. -/
def codecBackSpec : ChangeSpec := { name := "codecBack", fn := fun _ => fun
  | [d] => { results := [.lit (.bool true)], args := [d] }
  | _ => none }
def codecBackRow : OpenClaim := { program := "ytnkgbigjpihfeaa", sum := "3762a9b52679d6b905e1bda969fb9a40421df107da9a1a8b6552cd82e4d2668f", func := "recoup/recouplaw02.CodecBack", spec := "codecBack", apart := false }
def CodecBackSaid : Prop := codecBackRow.holds Try.pinned (OpenSpec.ofChange codecBackSpec)

/-- ITS FALSE NEIGHBOUR: 'it returns false'. Refute it at one input. -/
def codecBackWrong : ChangeSpec := { name := "codecBack", fn := fun _ => fun
  | [d] => { results := [.lit (.bool false)], args := [d] }
  | _ => none }
def CodecBackWrongFalsely : Prop := codecBackRow.holds Try.pinned (OpenSpec.ofChange codecBackWrong)

/-- 'recouplaw15.CommandWrites': WHATEVER THE INPUT: true; the input reads as it did. -/
def commandWritesSpec : ChangeSpec := { name := "commandWrites", fn := fun _ => fun
  | [d] => { results := [.lit (.bool true)], args := [d] }
  | _ => none }
def commandWritesRow : OpenClaim := { program := "ytnkgbigjpihfeaa", sum := "3762a9b52679d6b905e1bda969fb9a40421df107da9a1a8b6552cd82e4d2668f", func := "recoup/recouplaw15.CommandWrites", spec := "commandWrites", apart := false }
def CommandWritesSaid : Prop := commandWritesRow.holds Try.pinned (OpenSpec.ofChange commandWritesSpec)

/-- ITS FALSE NEIGHBOUR: 'it returns false'. Refute it at one input. -/
def commandWritesWrong : ChangeSpec := { name := "commandWrites", fn := fun _ => fun
  | [d] => { results := [.lit (.bool false)], args := [d] }
  | _ => none }
def CommandWritesWrongFalsely : Prop := commandWritesRow.holds Try.pinned (OpenSpec.ofChange commandWritesWrong)

/-- 'recouplaw15.CommandEqual': WHATEVER THE INPUT: true; the input reads as it did. -/
def commandEqualSpec : ChangeSpec := { name := "commandEqual", fn := fun _ => fun
  | [d1, d2] => { results := [.lit (.bool true)], args := [d1, d2] }
  | _ => none }
def commandEqualRow : OpenClaim := { program := "ytnkgbigjpihfeaa", sum := "3762a9b52679d6b905e1bda969fb9a40421df107da9a1a8b6552cd82e4d2668f", func := "recoup/recouplaw15.CommandEqual", spec := "commandEqual", apart := false }
def CommandEqualSaid : Prop := commandEqualRow.holds Try.pinned (OpenSpec.ofChange commandEqualSpec)

/-- ITS FALSE NEIGHBOUR: 'it returns false'. Refute it at one input. -/
def commandEqualWrong : ChangeSpec := { name := "commandEqual", fn := fun _ => fun
  | [d1, d2] => { results := [.lit (.bool false)], args := [d1, d2] }
  | _ => none }
def CommandEqualWrongFalsely : Prop := commandEqualRow.holds Try.pinned (OpenSpec.ofChange commandEqualWrong)

/-- 'recouplaw15.CommandAnswers': WHATEVER THE INPUT: true; the input reads as it did. -/
def commandAnswersSpec : ChangeSpec := { name := "commandAnswers", fn := fun _ => fun
  | [d1, d2] => { results := [.lit (.bool true)], args := [d1, d2] }
  | _ => none }
def commandAnswersRow : OpenClaim := { program := "ytnkgbigjpihfeaa", sum := "3762a9b52679d6b905e1bda969fb9a40421df107da9a1a8b6552cd82e4d2668f", func := "recoup/recouplaw15.CommandAnswers", spec := "commandAnswers", apart := false }
def CommandAnswersSaid : Prop := commandAnswersRow.holds Try.pinned (OpenSpec.ofChange commandAnswersSpec)

/-- ITS FALSE NEIGHBOUR: 'it returns false'. Refute it at one input. -/
def commandAnswersWrong : ChangeSpec := { name := "commandAnswers", fn := fun _ => fun
  | [d1, d2] => { results := [.lit (.bool false)], args := [d1, d2] }
  | _ => none }
def CommandAnswersWrongFalsely : Prop := commandAnswersRow.holds Try.pinned (OpenSpec.ofChange commandAnswersWrong)

/-- 'recouplaw15.CommandBack': WHATEVER THE INPUT: true; the input reads as it did. -/
def commandBackSpec : ChangeSpec := { name := "commandBack", fn := fun _ => fun
  | [d] => { results := [.lit (.bool true)], args := [d] }
  | _ => none }
def commandBackRow : OpenClaim := { program := "ytnkgbigjpihfeaa", sum := "3762a9b52679d6b905e1bda969fb9a40421df107da9a1a8b6552cd82e4d2668f", func := "recoup/recouplaw15.CommandBack", spec := "commandBack", apart := false }
def CommandBackSaid : Prop := commandBackRow.holds Try.pinned (OpenSpec.ofChange commandBackSpec)

/-- ITS FALSE NEIGHBOUR: 'it returns false'. Refute it at one input. -/
def commandBackWrong : ChangeSpec := { name := "commandBack", fn := fun _ => fun
  | [d] => { results := [.lit (.bool false)], args := [d] }
  | _ => none }
def CommandBackWrongFalsely : Prop := commandBackRow.holds Try.pinned (OpenSpec.ofChange commandBackWrong)

/-- 'recouplaw15.CommandReads': WHATEVER THE INPUT: true; the input reads as it did. -/
def commandReadsSpec : ChangeSpec := { name := "commandReads", fn := fun _ => fun
  | [d] => { results := [.lit (.bool true)], args := [d] }
  | _ => none }
def commandReadsRow : OpenClaim := { program := "ytnkgbigjpihfeaa", sum := "3762a9b52679d6b905e1bda969fb9a40421df107da9a1a8b6552cd82e4d2668f", func := "recoup/recouplaw15.CommandReads", spec := "commandReads", apart := false }
def CommandReadsSaid : Prop := commandReadsRow.holds Try.pinned (OpenSpec.ofChange commandReadsSpec)

/-- ITS FALSE NEIGHBOUR: 'it returns false'. Refute it at one input. -/
def commandReadsWrong : ChangeSpec := { name := "commandReads", fn := fun _ => fun
  | [d] => { results := [.lit (.bool false)], args := [d] }
  | _ => none }
def CommandReadsWrongFalsely : Prop := commandReadsRow.holds Try.pinned (OpenSpec.ofChange commandReadsWrong)

/-- 'recouplaw14.RmaEqual': WHATEVER THE INPUT: true; the input reads as it did. -/
def rmaEqualSpec : ChangeSpec := { name := "rmaEqual", fn := fun _ => fun
  | [d1, d2] => { results := [.lit (.bool true)], args := [d1, d2] }
  | _ => none }
def rmaEqualRow : OpenClaim := { program := "ytnkgbigjpihfeaa", sum := "3762a9b52679d6b905e1bda969fb9a40421df107da9a1a8b6552cd82e4d2668f", func := "recoup/recouplaw14.RmaEqual", spec := "rmaEqual", apart := false }
def RmaEqualSaid : Prop := rmaEqualRow.holds Try.pinned (OpenSpec.ofChange rmaEqualSpec)

/-- ITS FALSE NEIGHBOUR: 'it returns false'. Refute it at one input. -/
def rmaEqualWrong : ChangeSpec := { name := "rmaEqual", fn := fun _ => fun
  | [d1, d2] => { results := [.lit (.bool false)], args := [d1, d2] }
  | _ => none }
def RmaEqualWrongFalsely : Prop := rmaEqualRow.holds Try.pinned (OpenSpec.ofChange rmaEqualWrong)

/-- 'recouplaw14.RmaBack': WHATEVER THE INPUT: true; the input reads as it did. -/
def rmaBackSpec : ChangeSpec := { name := "rmaBack", fn := fun _ => fun
  | [d] => { results := [.lit (.bool true)], args := [d] }
  | _ => none }
def rmaBackRow : OpenClaim := { program := "ytnkgbigjpihfeaa", sum := "3762a9b52679d6b905e1bda969fb9a40421df107da9a1a8b6552cd82e4d2668f", func := "recoup/recouplaw14.RmaBack", spec := "rmaBack", apart := false }
def RmaBackSaid : Prop := rmaBackRow.holds Try.pinned (OpenSpec.ofChange rmaBackSpec)

/-- ITS FALSE NEIGHBOUR: 'it returns false'. Refute it at one input. -/
def rmaBackWrong : ChangeSpec := { name := "rmaBack", fn := fun _ => fun
  | [d] => { results := [.lit (.bool false)], args := [d] }
  | _ => none }
def RmaBackWrongFalsely : Prop := rmaBackRow.holds Try.pinned (OpenSpec.ofChange rmaBackWrong)

/-- 'recouplaw14.RmaReads': WHATEVER THE INPUT: true; the input reads as it did. -/
def rmaReadsSpec : ChangeSpec := { name := "rmaReads", fn := fun _ => fun
  | [d] => { results := [.lit (.bool true)], args := [d] }
  | _ => none }
def rmaReadsRow : OpenClaim := { program := "ytnkgbigjpihfeaa", sum := "3762a9b52679d6b905e1bda969fb9a40421df107da9a1a8b6552cd82e4d2668f", func := "recoup/recouplaw14.RmaReads", spec := "rmaReads", apart := false }
def RmaReadsSaid : Prop := rmaReadsRow.holds Try.pinned (OpenSpec.ofChange rmaReadsSpec)

/-- ITS FALSE NEIGHBOUR: 'it returns false'. Refute it at one input. -/
def rmaReadsWrong : ChangeSpec := { name := "rmaReads", fn := fun _ => fun
  | [d] => { results := [.lit (.bool false)], args := [d] }
  | _ => none }
def RmaReadsWrongFalsely : Prop := rmaReadsRow.holds Try.pinned (OpenSpec.ofChange rmaReadsWrong)

/- THE SECOND FORM. 'bulk': how many values and letters a reading holds, each counted each time it is reached (what is shared counts as often as it is met; a slice's spare places count too). A statement '..UptoSaid' is the law's where the arguments, and the package variables that the reading takes, are together of bulk at most 1048576: NARROWER than '..Said'. Prove '..Said' where nothing that the law and all that it calls make is longer than what came in: it says more and counts as full. Else prove '..UptoSaid'. A law counts once. -/
mutual
def uptoBulk {H : Type} : DataW H → Nat
  | .lit (.string bytes) => bytes.length + 1
  | .lit _ => 1
  | .nil => 1
  | .ptr d => uptoBulk d + 1
  | .slice elems spare => uptoBulkAll elems + uptoBulkAll spare + 1
  | .agg parts => uptoBulkAll parts + 1
  | .iface _ d => uptoBulk d + 1
  | .map entries => uptoBulkEntries entries + 1
  | .held _ => 1
def uptoBulkAll {H : Type} : List (DataW H) → Nat
  | [] => 0
  | d :: r => uptoBulk d + uptoBulkAll r
def uptoBulkEntries {H : Type} : List (Lit × DataW H) → Nat
  | [] => 0
  | x :: r => uptoBulkEntry x + uptoBulkEntries r
def uptoBulkEntry {H : Type} : Lit × DataW H → Nat
  | (.string bytes, d) => bytes.length + uptoBulk d + 1
  | (_, d) => uptoBulk d + 1
 end
def uptoSmall : (H : Type) → List (DataW H) → Bool := fun _ ds => decide (uptoBulkAll ds ≤ 1048576)
def OpenSpec.upto (s : _root_.Go.ChangeSpec) : _root_.Go.OpenSpec := { _root_.Go.OpenSpec.ofChange s with cond := some uptoSmall }

/-- 'recouplaw02.CodecMost', WHERE WHAT IT READS IS OF BULK AT MOST 1048576: true; the input reads as it did. -/
def codecMostUptoRow : OpenClaim := { program := "ytnkgbigjpihfeaa", sum := "3762a9b52679d6b905e1bda969fb9a40421df107da9a1a8b6552cd82e4d2668f", func := "recoup/recouplaw02.CodecMost", spec := "codecMost", apart := false, narrowed := true }
def CodecMostUptoSaid : Prop := codecMostUptoRow.holds Try.pinned (OpenSpec.upto codecMostSpec)

/-- 'recouplaw02.CodecReads', WHERE WHAT IT READS IS OF BULK AT MOST 1048576: true; the input reads as it did. -/
def codecReadsUptoRow : OpenClaim := { program := "ytnkgbigjpihfeaa", sum := "3762a9b52679d6b905e1bda969fb9a40421df107da9a1a8b6552cd82e4d2668f", func := "recoup/recouplaw02.CodecReads", spec := "codecReads", apart := false, narrowed := true }
def CodecReadsUptoSaid : Prop := codecReadsUptoRow.holds Try.pinned (OpenSpec.upto codecReadsSpec)

/-- 'recouplaw02.CodecWrites', WHERE WHAT IT READS IS OF BULK AT MOST 1048576: true; the input reads as it did. -/
def codecWritesUptoRow : OpenClaim := { program := "ytnkgbigjpihfeaa", sum := "3762a9b52679d6b905e1bda969fb9a40421df107da9a1a8b6552cd82e4d2668f", func := "recoup/recouplaw02.CodecWrites", spec := "codecWrites", apart := false, narrowed := true }
def CodecWritesUptoSaid : Prop := codecWritesUptoRow.holds Try.pinned (OpenSpec.upto codecWritesSpec)

/-- 'recouplaw02.CodecBack', WHERE WHAT IT READS IS OF BULK AT MOST 1048576: true; the input reads as it did. -/
def codecBackUptoRow : OpenClaim := { program := "ytnkgbigjpihfeaa", sum := "3762a9b52679d6b905e1bda969fb9a40421df107da9a1a8b6552cd82e4d2668f", func := "recoup/recouplaw02.CodecBack", spec := "codecBack", apart := false, narrowed := true }
def CodecBackUptoSaid : Prop := codecBackUptoRow.holds Try.pinned (OpenSpec.upto codecBackSpec)

/-- 'recouplaw15.CommandWrites', WHERE WHAT IT READS IS OF BULK AT MOST 1048576: true; the input reads as it did. -/
def commandWritesUptoRow : OpenClaim := { program := "ytnkgbigjpihfeaa", sum := "3762a9b52679d6b905e1bda969fb9a40421df107da9a1a8b6552cd82e4d2668f", func := "recoup/recouplaw15.CommandWrites", spec := "commandWrites", apart := false, narrowed := true }
def CommandWritesUptoSaid : Prop := commandWritesUptoRow.holds Try.pinned (OpenSpec.upto commandWritesSpec)

/-- 'recouplaw15.CommandEqual', WHERE WHAT IT READS IS OF BULK AT MOST 1048576: true; the input reads as it did. -/
def commandEqualUptoRow : OpenClaim := { program := "ytnkgbigjpihfeaa", sum := "3762a9b52679d6b905e1bda969fb9a40421df107da9a1a8b6552cd82e4d2668f", func := "recoup/recouplaw15.CommandEqual", spec := "commandEqual", apart := false, narrowed := true }
def CommandEqualUptoSaid : Prop := commandEqualUptoRow.holds Try.pinned (OpenSpec.upto commandEqualSpec)

/-- 'recouplaw15.CommandAnswers', WHERE WHAT IT READS IS OF BULK AT MOST 1048576: true; the input reads as it did. -/
def commandAnswersUptoRow : OpenClaim := { program := "ytnkgbigjpihfeaa", sum := "3762a9b52679d6b905e1bda969fb9a40421df107da9a1a8b6552cd82e4d2668f", func := "recoup/recouplaw15.CommandAnswers", spec := "commandAnswers", apart := false, narrowed := true }
def CommandAnswersUptoSaid : Prop := commandAnswersUptoRow.holds Try.pinned (OpenSpec.upto commandAnswersSpec)

/-- 'recouplaw15.CommandBack', WHERE WHAT IT READS IS OF BULK AT MOST 1048576: true; the input reads as it did. -/
def commandBackUptoRow : OpenClaim := { program := "ytnkgbigjpihfeaa", sum := "3762a9b52679d6b905e1bda969fb9a40421df107da9a1a8b6552cd82e4d2668f", func := "recoup/recouplaw15.CommandBack", spec := "commandBack", apart := false, narrowed := true }
def CommandBackUptoSaid : Prop := commandBackUptoRow.holds Try.pinned (OpenSpec.upto commandBackSpec)

/-- 'recouplaw15.CommandReads', WHERE WHAT IT READS IS OF BULK AT MOST 1048576: true; the input reads as it did. -/
def commandReadsUptoRow : OpenClaim := { program := "ytnkgbigjpihfeaa", sum := "3762a9b52679d6b905e1bda969fb9a40421df107da9a1a8b6552cd82e4d2668f", func := "recoup/recouplaw15.CommandReads", spec := "commandReads", apart := false, narrowed := true }
def CommandReadsUptoSaid : Prop := commandReadsUptoRow.holds Try.pinned (OpenSpec.upto commandReadsSpec)

/-- 'recouplaw14.RmaEqual', WHERE WHAT IT READS IS OF BULK AT MOST 1048576: true; the input reads as it did. -/
def rmaEqualUptoRow : OpenClaim := { program := "ytnkgbigjpihfeaa", sum := "3762a9b52679d6b905e1bda969fb9a40421df107da9a1a8b6552cd82e4d2668f", func := "recoup/recouplaw14.RmaEqual", spec := "rmaEqual", apart := false, narrowed := true }
def RmaEqualUptoSaid : Prop := rmaEqualUptoRow.holds Try.pinned (OpenSpec.upto rmaEqualSpec)

/-- 'recouplaw14.RmaBack', WHERE WHAT IT READS IS OF BULK AT MOST 1048576: true; the input reads as it did. -/
def rmaBackUptoRow : OpenClaim := { program := "ytnkgbigjpihfeaa", sum := "3762a9b52679d6b905e1bda969fb9a40421df107da9a1a8b6552cd82e4d2668f", func := "recoup/recouplaw14.RmaBack", spec := "rmaBack", apart := false, narrowed := true }
def RmaBackUptoSaid : Prop := rmaBackUptoRow.holds Try.pinned (OpenSpec.upto rmaBackSpec)

/-- 'recouplaw14.RmaReads', WHERE WHAT IT READS IS OF BULK AT MOST 1048576: true; the input reads as it did. -/
def rmaReadsUptoRow : OpenClaim := { program := "ytnkgbigjpihfeaa", sum := "3762a9b52679d6b905e1bda969fb9a40421df107da9a1a8b6552cd82e4d2668f", func := "recoup/recouplaw14.RmaReads", spec := "rmaReads", apart := false, narrowed := true }
def RmaReadsUptoSaid : Prop := rmaReadsUptoRow.holds Try.pinned (OpenSpec.upto rmaReadsSpec)

end Rows
end Go.Proofs.Ytnkgbigjpihfeaa
