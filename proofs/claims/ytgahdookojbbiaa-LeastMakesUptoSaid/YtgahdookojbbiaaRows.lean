/-
  NARROWER THAN 'FOR EVERY INPUT', by the rows' own cells (each row's printed sentence says how): NfaExact: loops.
  DERIVED. THE GIVEN ROWS OF THIS SEAT. 5 by the template 'for every input the law returns true; each argument reads behind the call as it read before'; 0 by the template 'total and deterministic' (their statements: YtgahdookojbbiaaTotals.lean).
  GIVEN WITH THE SEED: the statements are not yours to turn. If you find one false, say at which input.
  Laid BY PROGRAM, IN A SANDBOX (cutbox-rows.mjs): the forced cells as the released guide's own fill.sh prints them over the translation ce117afa9d8bf324… (all of the seat's roots in one cut). By AI agents, Wed Nov 11 2026. No macro, syntax, notation, axiom, sorry.
-/
import Derived.Test.YtgahdookojbbiaaChecked
import GoSem.Claim
import GoSem.ClaimJoined
import GoSem.ClaimMapViews
import Derived.JoinedTies
import Derived.KernelRfl
namespace Go.Proofs.Ytgahdookojbbiaa
/- THE CELL 'sum', in the pinned program and in every row, IS THE sha256 OF THE DUMP (.gsa) THAT YtgahdookojbbiaaProg.lean LOADS. Nothing in Lean hashes anything: it is a label: what it is worth is what the hold of that sum in a sandbox is worth. -/
noncomputable def Try.pinned : Pinned := { name := "ytgahdookojbbiaa", sum := "ce117afa9d8bf3240189aca0cea11ea97f68d4f5d3c3ba1b483f8803e95665ac", checked := Try.checked }
namespace Rows
def none {H : Type} : Left H := { results := [], args := [] }

/-- 'heronlaw07.NfaExact': WHATEVER THE INPUT: true; the input reads as it did. -/
def nfaExactSpec : ChangeSpec := { name := "nfaExact", fn := fun _ => fun
  | [d1, d2, d3] => { results := [.lit (.bool true)], args := [d1, d2, d3] }
  | _ => none }
def nfaExactRow : OpenClaim := { program := "ytgahdookojbbiaa", sum := "ce117afa9d8bf3240189aca0cea11ea97f68d4f5d3c3ba1b483f8803e95665ac", func := "heron/heronlaw07.NfaExact", spec := "nfaExact", unfollowed := true, recurses := true, loops := true, plainKeys := false, apart := false }
def NfaExactSaid : Prop := nfaExactRow.holds Try.pinned (OpenSpec.ofChange nfaExactSpec)

/-- ITS FALSE NEIGHBOUR: 'it returns false'. Refute it at one input. -/
def nfaExactWrong : ChangeSpec := { name := "nfaExact", fn := fun _ => fun
  | [d1, d2, d3] => { results := [.lit (.bool false)], args := [d1, d2, d3] }
  | _ => none }
def NfaExactWrongFalsely : Prop := nfaExactRow.holds Try.pinned (OpenSpec.ofChange nfaExactWrong)

/-- 'heronlaw11.LeastMakes': WHATEVER THE INPUT: true; the input reads as it did. -/
def leastMakesSpec : ChangeSpec := { name := "leastMakes", fn := fun _ => fun
  | [d] => { results := [.lit (.bool true)], args := [d] }
  | _ => none }
def leastMakesRow : OpenClaim := { program := "ytgahdookojbbiaa", sum := "ce117afa9d8bf3240189aca0cea11ea97f68d4f5d3c3ba1b483f8803e95665ac", func := "heron/heronlaw11.LeastMakes", spec := "leastMakes", unfollowed := true, recurses := true, plainKeys := false, apart := false }
def LeastMakesSaid : Prop := leastMakesRow.holds Try.pinned (OpenSpec.ofChange leastMakesSpec)

/-- ITS FALSE NEIGHBOUR: 'it returns false'. Refute it at one input. -/
def leastMakesWrong : ChangeSpec := { name := "leastMakes", fn := fun _ => fun
  | [d] => { results := [.lit (.bool false)], args := [d] }
  | _ => none }
def LeastMakesWrongFalsely : Prop := leastMakesRow.holds Try.pinned (OpenSpec.ofChange leastMakesWrong)

/-- 'heronlaw11.LeastTells': WHATEVER THE INPUT: true; the input reads as it did. -/
def leastTellsSpec : ChangeSpec := { name := "leastTells", fn := fun _ => fun
  | [d1, d2] => { results := [.lit (.bool true)], args := [d1, d2] }
  | _ => none }
def leastTellsRow : OpenClaim := { program := "ytgahdookojbbiaa", sum := "ce117afa9d8bf3240189aca0cea11ea97f68d4f5d3c3ba1b483f8803e95665ac", func := "heron/heronlaw11.LeastTells", spec := "leastTells", unfollowed := true, recurses := true, plainKeys := false, apart := false }
def LeastTellsSaid : Prop := leastTellsRow.holds Try.pinned (OpenSpec.ofChange leastTellsSpec)

/-- ITS FALSE NEIGHBOUR: 'it returns false'. Refute it at one input. -/
def leastTellsWrong : ChangeSpec := { name := "leastTells", fn := fun _ => fun
  | [d1, d2] => { results := [.lit (.bool false)], args := [d1, d2] }
  | _ => none }
def LeastTellsWrongFalsely : Prop := leastTellsRow.holds Try.pinned (OpenSpec.ofChange leastTellsWrong)

/-- 'heronlaw11.LeastRenamed': WHATEVER THE INPUT: true; the input reads as it did. -/
def leastRenamedSpec : ChangeSpec := { name := "leastRenamed", fn := fun _ => fun
  | [d] => { results := [.lit (.bool true)], args := [d] }
  | _ => none }
def leastRenamedRow : OpenClaim := { program := "ytgahdookojbbiaa", sum := "ce117afa9d8bf3240189aca0cea11ea97f68d4f5d3c3ba1b483f8803e95665ac", func := "heron/heronlaw11.LeastRenamed", spec := "leastRenamed", unfollowed := true, recurses := true, plainKeys := false, apart := false }
def LeastRenamedSaid : Prop := leastRenamedRow.holds Try.pinned (OpenSpec.ofChange leastRenamedSpec)

/-- ITS FALSE NEIGHBOUR: 'it returns false'. Refute it at one input. -/
def leastRenamedWrong : ChangeSpec := { name := "leastRenamed", fn := fun _ => fun
  | [d] => { results := [.lit (.bool false)], args := [d] }
  | _ => none }
def LeastRenamedWrongFalsely : Prop := leastRenamedRow.holds Try.pinned (OpenSpec.ofChange leastRenamedWrong)

/-- 'heronlaw11.LeastSame': WHATEVER THE INPUT: true; the input reads as it did. -/
def leastSameSpec : ChangeSpec := { name := "leastSame", fn := fun _ => fun
  | [d1, d2] => { results := [.lit (.bool true)], args := [d1, d2] }
  | _ => none }
def leastSameRow : OpenClaim := { program := "ytgahdookojbbiaa", sum := "ce117afa9d8bf3240189aca0cea11ea97f68d4f5d3c3ba1b483f8803e95665ac", func := "heron/heronlaw11.LeastSame", spec := "leastSame", unfollowed := true, recurses := true, plainKeys := false, apart := false }
def LeastSameSaid : Prop := leastSameRow.holds Try.pinned (OpenSpec.ofChange leastSameSpec)

/-- ITS FALSE NEIGHBOUR: 'it returns false'. Refute it at one input. -/
def leastSameWrong : ChangeSpec := { name := "leastSame", fn := fun _ => fun
  | [d1, d2] => { results := [.lit (.bool false)], args := [d1, d2] }
  | _ => none }
def LeastSameWrongFalsely : Prop := leastSameRow.holds Try.pinned (OpenSpec.ofChange leastSameWrong)

/- THE SECOND FORM. 'bulk': how many values and letters a reading holds, each counted each time it is reached (what is shared counts as often as it is met; a slice's spare places count too). A statement '..UptoSaid' is the law's where the arguments, and the package variables that the reading takes, are together of bulk at most 1048576: NARROWER than '..Said'. Prove '..Said' where nothing that the law and all that it calls make is longer than what came in: it says more and counts as full. Else prove '..UptoSaid'. A law counts once. -/
mutual
def uptoBulk {H : Type} : DataW H → Nat
  | .lit (.string bytes) => bytes.length + 1
  | .lit _ => 1
  | .nil => 1
  | .ptr d => uptoBulk d + 1
  | .slice elems spare => uptoBulkAll elems + uptoBulkAll spare + 1
  | .agg parts => uptoBulkAll parts + 1
  | .iface _ d => uptoBulk d + 1
  | .map entries => uptoBulkEntries entries + 1
  | .held _ => 1
def uptoBulkAll {H : Type} : List (DataW H) → Nat
  | [] => 0
  | d :: r => uptoBulk d + uptoBulkAll r
def uptoBulkEntries {H : Type} : List (Lit × DataW H) → Nat
  | [] => 0
  | x :: r => uptoBulkEntry x + uptoBulkEntries r
def uptoBulkEntry {H : Type} : Lit × DataW H → Nat
  | (.string bytes, d) => bytes.length + uptoBulk d + 1
  | (_, d) => uptoBulk d + 1
 end
def uptoSmall : (H : Type) → List (DataW H) → Bool := fun _ ds => decide (uptoBulkAll ds ≤ 1048576)
def OpenSpec.upto (s : _root_.Go.ChangeSpec) : _root_.Go.OpenSpec := { _root_.Go.OpenSpec.ofChange s with cond := some uptoSmall }

/-- 'heronlaw07.NfaExact', WHERE WHAT IT READS IS OF BULK AT MOST 1048576: true; the input reads as it did. -/
def nfaExactUptoRow : OpenClaim := { program := "ytgahdookojbbiaa", sum := "ce117afa9d8bf3240189aca0cea11ea97f68d4f5d3c3ba1b483f8803e95665ac", func := "heron/heronlaw07.NfaExact", spec := "nfaExact", unfollowed := true, recurses := true, loops := true, plainKeys := false, apart := false, narrowed := true }
def NfaExactUptoSaid : Prop := nfaExactUptoRow.holds Try.pinned (OpenSpec.upto nfaExactSpec)

/-- 'heronlaw11.LeastMakes', WHERE WHAT IT READS IS OF BULK AT MOST 1048576: true; the input reads as it did. -/
def leastMakesUptoRow : OpenClaim := { program := "ytgahdookojbbiaa", sum := "ce117afa9d8bf3240189aca0cea11ea97f68d4f5d3c3ba1b483f8803e95665ac", func := "heron/heronlaw11.LeastMakes", spec := "leastMakes", unfollowed := true, recurses := true, plainKeys := false, apart := false, narrowed := true }
def LeastMakesUptoSaid : Prop := leastMakesUptoRow.holds Try.pinned (OpenSpec.upto leastMakesSpec)

/-- 'heronlaw11.LeastTells', WHERE WHAT IT READS IS OF BULK AT MOST 1048576: true; the input reads as it did. -/
def leastTellsUptoRow : OpenClaim := { program := "ytgahdookojbbiaa", sum := "ce117afa9d8bf3240189aca0cea11ea97f68d4f5d3c3ba1b483f8803e95665ac", func := "heron/heronlaw11.LeastTells", spec := "leastTells", unfollowed := true, recurses := true, plainKeys := false, apart := false, narrowed := true }
def LeastTellsUptoSaid : Prop := leastTellsUptoRow.holds Try.pinned (OpenSpec.upto leastTellsSpec)

/-- 'heronlaw11.LeastRenamed', WHERE WHAT IT READS IS OF BULK AT MOST 1048576: true; the input reads as it did. -/
def leastRenamedUptoRow : OpenClaim := { program := "ytgahdookojbbiaa", sum := "ce117afa9d8bf3240189aca0cea11ea97f68d4f5d3c3ba1b483f8803e95665ac", func := "heron/heronlaw11.LeastRenamed", spec := "leastRenamed", unfollowed := true, recurses := true, plainKeys := false, apart := false, narrowed := true }
def LeastRenamedUptoSaid : Prop := leastRenamedUptoRow.holds Try.pinned (OpenSpec.upto leastRenamedSpec)

/-- 'heronlaw11.LeastSame', WHERE WHAT IT READS IS OF BULK AT MOST 1048576: true; the input reads as it did. -/
def leastSameUptoRow : OpenClaim := { program := "ytgahdookojbbiaa", sum := "ce117afa9d8bf3240189aca0cea11ea97f68d4f5d3c3ba1b483f8803e95665ac", func := "heron/heronlaw11.LeastSame", spec := "leastSame", unfollowed := true, recurses := true, plainKeys := false, apart := false, narrowed := true }
def LeastSameUptoSaid : Prop := leastSameUptoRow.holds Try.pinned (OpenSpec.upto leastSameSpec)

end Rows
end Go.Proofs.Ytgahdookojbbiaa
