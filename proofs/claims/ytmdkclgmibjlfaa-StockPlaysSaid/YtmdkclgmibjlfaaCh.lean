/- What turns while a struct behind a pointer, and its map, are written. -/
import Derived.Test.YtmdkclgmibjlfaaProg
import Derived.Test.YtmdkclgmibjlfaaMx
import Derived.Test.YtmdkclgmibjlfaaOpen
import Derived.WalkKit
import Derived.ProofKit
import Derived.Lib.Hide
import Derived.Laws.Rows
import Derived.Deep.QuietTactic
import Derived.BigQuiet
set_option linter.unusedVariables false
set_option linter.unusedSimpArgs false
namespace Go.Proofs.Ytmdkclgmibjlfaa.Ba
open Go.RowKit Go.Maps Go.Proofs.Ytmdkclgmibjlfaa.Mx Go.Proofs.Ytmdkclgmibjlfaa.Lib

theorem law3 : Keyed Try.prog 3 := int_keyed Try.underlying3

/-- Nothing that was there turned, but the blocks B and M. -/
structure Chg (B M : Nat) (w w' : World) : Prop where
  os : w'.os = w.os
  tape : w'.tape = w.tape
  output : w'.output = w.output
  size : w.heap.size ≤ w'.heap.size
  block : ∀ k, k < w.heap.size → k ≠ B → k ≠ M → w'.heap[k]? = w.heap[k]?

theorem Chg.refl (B M : Nat) (w : World) : Chg B M w w := ⟨rfl, rfl, rfl, Nat.le_refl _, fun _ _ _ _ => rfl⟩
theorem Chg.trans {B M : Nat} {a b c : World} (h : Chg B M a b) (k : Chg B M b c) : Chg B M a c :=
  ⟨k.os.trans h.os, k.tape.trans h.tape, k.output.trans h.output, Nat.le_trans h.size k.size, fun i hi h1 h2 => (k.block i (Nat.lt_of_lt_of_le hi h.size) h1 h2).trans (h.block i hi h1 h2)⟩
theorem Chg.below {B M : Nat} {w w' : World} (h : Chg B M w w') {b : Nat} (hb : b ≤ w.heap.size) (h1 : b ≤ B) (h2 : b ≤ M) : Below b w w' :=
  ⟨h.os, h.tape, h.output, h.size, fun k hk => h.block k (by omega) (by omega) (by omega)⟩
theorem Chg.of_below {B M : Nat} {w w' : World} (h : Below w.heap.size w w') : Chg B M w w' := ⟨h.os, h.tape, h.output, h.size, fun k hk _ _ => h.block k hk⟩
theorem Chg.drew {B M : Nat} {w : World} : Chg B M w w.drew := ⟨rfl, rfl, rfl, Nat.le_refl _, fun _ _ _ _ => rfl⟩

theorem owns_of_block {P : Program} {R : Value → Option (DataW Unit × List MemPlace)} {k M n : Nat} {D : DataW Unit} {w w' : World} (h : w.ownsMap P k R M n D) (e : w'.heap[M]? = w.heap[M]?) : w'.ownsMap P k R M n D := by
  obtain ⟨es, clock, hb, F, hs, hD⟩ := h
  exact ⟨es, clock, e.trans hb, F, hs, hD⟩

theorem chg_alloc (B M : Nat) (w : World) (o : Obj) : Chg B M w (w.alloc o) := Chg.of_below ((Below.refl _ _).alloc (Nat.le_refl _) _)
theorem chg_set (B M : Nat) (w : World) (o : Nat) (v : Value) : Chg B M w (w.setCell ⟨B, o, none⟩ v) :=
  ⟨rfl, rfl, rfl, by simp, fun k hk h1 h2 => heap_setCell_other w ⟨B, o, none⟩ k v h1⟩
theorem Chg.of_turned {B M : Nat} {w w' : World} (h : w.mapTurned w' M) : Chg B M w w' := by
  have hg := h.grown
  exact ⟨hg.os, hg.tape, hg.output, hg.size, fun i hi h1 h2 => hg.block i hi (by simpa using h2)⟩
theorem turned_block {M k : Nat} {w w' : World} (h : w.mapTurned w' M) (hk : k < w.heap.size) (hne : M ≠ k) : w'.heap[k]? = w.heap[k]? := h.grown.block k hk (by simpa using fun e => hne e.symm)
theorem heap_alloc_old (w : World) (o : Obj) {k : Nat} (h : k < w.heap.size) : (w.alloc o).heap[k]? = w.heap[k]? := ((Below.refl w.heap.size w).alloc (Nat.le_refl _) o).block k h

theorem below_dn (B : Nat) (w : World) (n : Nat) : Below B w (w.drewN n) := ⟨rfl, rfl, rfl, Nat.le_refl _, fun _ _ => rfl⟩

end Go.Proofs.Ytmdkclgmibjlfaa.Ba
