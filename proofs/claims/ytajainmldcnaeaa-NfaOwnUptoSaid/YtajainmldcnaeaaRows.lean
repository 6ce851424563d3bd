/-
  NARROWER THAN 'FOR EVERY INPUT', by the rows' own cells (each row's printed sentence says how): EreExact: loops.
  DERIVED. THE GIVEN ROWS OF THIS SEAT. 8 by the template 'for every input the law returns true; each argument reads behind the call as it read before'; 0 by the template 'total and deterministic' (their statements: YtajainmldcnaeaaTotals.lean).
  GIVEN WITH THE SEED: the statements are not yours to turn. If you find one false, say at which input.
  Laid BY PROGRAM, IN A SANDBOX (cutbox-rows.mjs): the forced cells as the released guide's own fill.sh prints them over the translation e7ce2cedfe1f0f46… (all of the seat's roots in one cut). By AI agents, Wed Nov 11 2026. No macro, syntax, notation, axiom, sorry.
-/
import Derived.Test.YtajainmldcnaeaaChecked
import GoSem.Claim
import GoSem.ClaimJoined
import GoSem.ClaimMapViews
import Derived.JoinedTies
import Derived.KernelRfl
namespace Go.Proofs.Ytajainmldcnaeaa
/- THE CELL 'sum', in the pinned program and in every row, IS THE sha256 OF THE DUMP (.gsa) THAT YtajainmldcnaeaaProg.lean LOADS. Nothing in Lean hashes anything: it is a label: what it is worth is what the hold of that sum in a sandbox is worth. -/
noncomputable def Try.pinned : Pinned := { name := "ytajainmldcnaeaa", sum := "e7ce2cedfe1f0f4603db25bd5784bc4e97d07bfc69dead86e7f595281f8c637e", checked := Try.checked }
namespace Rows
def none {H : Type} : Left H := { results := [], args := [] }

/-- 'heronlaw04.EreExact': WHATEVER THE INPUT: true; the input reads as it did. -/
def ereExactSpec : ChangeSpec := { name := "ereExact", fn := fun _ => fun
  | [d1, d2] => { results := [.lit (.bool true)], args := [d1, d2] }
  | _ => none }
def ereExactRow : OpenClaim := { program := "ytajainmldcnaeaa", sum := "e7ce2cedfe1f0f4603db25bd5784bc4e97d07bfc69dead86e7f595281f8c637e", func := "heron/heronlaw04.EreExact", spec := "ereExact", inPlace := ["internal/bytealg.IndexByteString", "internal/bytealg.IndexString"], unfollowed := true, recurses := true, named := ["internal/bytealg.MaxLen"], loops := true, apart := false }
def EreExactSaid : Prop := ereExactRow.holds Try.pinned (OpenSpec.ofChange ereExactSpec)

/-- ITS FALSE NEIGHBOUR: 'it returns false'. Refute it at one input. -/
def ereExactWrong : ChangeSpec := { name := "ereExact", fn := fun _ => fun
  | [d1, d2] => { results := [.lit (.bool false)], args := [d1, d2] }
  | _ => none }
def EreExactWrongFalsely : Prop := ereExactRow.holds Try.pinned (OpenSpec.ofChange ereExactWrong)

/-- 'heronlaw04.EreTrees': WHATEVER THE INPUT: true; the input reads as it did. -/
def ereTreesSpec : ChangeSpec := { name := "ereTrees", fn := fun _ => fun
  | [d] => { results := [.lit (.bool true)], args := [d] }
  | _ => none }
def ereTreesRow : OpenClaim := { program := "ytajainmldcnaeaa", sum := "e7ce2cedfe1f0f4603db25bd5784bc4e97d07bfc69dead86e7f595281f8c637e", func := "heron/heronlaw04.EreTrees", spec := "ereTrees", inPlace := ["internal/bytealg.IndexByteString", "internal/bytealg.IndexString"], unfollowed := true, recurses := true, named := ["internal/bytealg.MaxLen"], apart := false }
def EreTreesSaid : Prop := ereTreesRow.holds Try.pinned (OpenSpec.ofChange ereTreesSpec)

/-- ITS FALSE NEIGHBOUR: 'it returns false'. Refute it at one input. -/
def ereTreesWrong : ChangeSpec := { name := "ereTrees", fn := fun _ => fun
  | [d] => { results := [.lit (.bool false)], args := [d] }
  | _ => none }
def EreTreesWrongFalsely : Prop := ereTreesRow.holds Try.pinned (OpenSpec.ofChange ereTreesWrong)

/-- 'heronlaw04.EreJoins': WHATEVER THE INPUT: true; the input reads as it did. -/
def ereJoinsSpec : ChangeSpec := { name := "ereJoins", fn := fun _ => fun
  | [d1, d2, d3] => { results := [.lit (.bool true)], args := [d1, d2, d3] }
  | _ => none }
def ereJoinsRow : OpenClaim := { program := "ytajainmldcnaeaa", sum := "e7ce2cedfe1f0f4603db25bd5784bc4e97d07bfc69dead86e7f595281f8c637e", func := "heron/heronlaw04.EreJoins", spec := "ereJoins", inPlace := ["internal/bytealg.IndexByteString", "internal/bytealg.IndexString"], unfollowed := true, recurses := true, named := ["internal/bytealg.MaxLen"], apart := false }
def EreJoinsSaid : Prop := ereJoinsRow.holds Try.pinned (OpenSpec.ofChange ereJoinsSpec)

/-- ITS FALSE NEIGHBOUR: 'it returns false'. Refute it at one input. -/
def ereJoinsWrong : ChangeSpec := { name := "ereJoins", fn := fun _ => fun
  | [d1, d2, d3] => { results := [.lit (.bool false)], args := [d1, d2, d3] }
  | _ => none }
def EreJoinsWrongFalsely : Prop := ereJoinsRow.holds Try.pinned (OpenSpec.ofChange ereJoinsWrong)

/-- 'heronlaw04.EreFaults': WHATEVER THE INPUT: true; the input reads as it did. -/
def ereFaultsSpec : ChangeSpec := { name := "ereFaults", fn := fun _ => fun
  | [d1, d2] => { results := [.lit (.bool true)], args := [d1, d2] }
  | _ => none }
def ereFaultsRow : OpenClaim := { program := "ytajainmldcnaeaa", sum := "e7ce2cedfe1f0f4603db25bd5784bc4e97d07bfc69dead86e7f595281f8c637e", func := "heron/heronlaw04.EreFaults", spec := "ereFaults", inPlace := ["internal/bytealg.IndexByteString", "internal/bytealg.IndexString"], unfollowed := true, recurses := true, named := ["internal/bytealg.MaxLen"], apart := false }
def EreFaultsSaid : Prop := ereFaultsRow.holds Try.pinned (OpenSpec.ofChange ereFaultsSpec)

/-- ITS FALSE NEIGHBOUR: 'it returns false'. Refute it at one input. -/
def ereFaultsWrong : ChangeSpec := { name := "ereFaults", fn := fun _ => fun
  | [d1, d2] => { results := [.lit (.bool false)], args := [d1, d2] }
  | _ => none }
def EreFaultsWrongFalsely : Prop := ereFaultsRow.holds Try.pinned (OpenSpec.ofChange ereFaultsWrong)

/-- 'heronlaw04.EreOwn': WHATEVER THE INPUT: true; the input reads as it did. -/
def ereOwnSpec : ChangeSpec := { name := "ereOwn", fn := fun _ => fun
  | [d1, d2] => { results := [.lit (.bool true)], args := [d1, d2] }
  | _ => none }
def ereOwnRow : OpenClaim := { program := "ytajainmldcnaeaa", sum := "e7ce2cedfe1f0f4603db25bd5784bc4e97d07bfc69dead86e7f595281f8c637e", func := "heron/heronlaw04.EreOwn", spec := "ereOwn", inPlace := ["internal/bytealg.IndexByteString", "internal/bytealg.IndexString"], unfollowed := true, recurses := true, named := ["internal/bytealg.MaxLen"], apart := false }
def EreOwnSaid : Prop := ereOwnRow.holds Try.pinned (OpenSpec.ofChange ereOwnSpec)

/-- ITS FALSE NEIGHBOUR: 'it returns false'. Refute it at one input. -/
def ereOwnWrong : ChangeSpec := { name := "ereOwn", fn := fun _ => fun
  | [d1, d2] => { results := [.lit (.bool false)], args := [d1, d2] }
  | _ => none }
def EreOwnWrongFalsely : Prop := ereOwnRow.holds Try.pinned (OpenSpec.ofChange ereOwnWrong)

/-- 'heronlaw07.NfaMeets': WHATEVER THE INPUT: true; the input reads as it did. -/
def nfaMeetsSpec : ChangeSpec := { name := "nfaMeets", fn := fun _ => fun
  | [d1, d2, d3] => { results := [.lit (.bool true)], args := [d1, d2, d3] }
  | _ => none }
def nfaMeetsRow : OpenClaim := { program := "ytajainmldcnaeaa", sum := "e7ce2cedfe1f0f4603db25bd5784bc4e97d07bfc69dead86e7f595281f8c637e", func := "heron/heronlaw07.NfaMeets", spec := "nfaMeets", inPlace := ["internal/bytealg.IndexByteString", "internal/bytealg.IndexString"], unfollowed := true, recurses := true, named := ["internal/bytealg.MaxLen"], apart := false }
def NfaMeetsSaid : Prop := nfaMeetsRow.holds Try.pinned (OpenSpec.ofChange nfaMeetsSpec)

/-- ITS FALSE NEIGHBOUR: 'it returns false'. Refute it at one input. -/
def nfaMeetsWrong : ChangeSpec := { name := "nfaMeets", fn := fun _ => fun
  | [d1, d2, d3] => { results := [.lit (.bool false)], args := [d1, d2, d3] }
  | _ => none }
def NfaMeetsWrongFalsely : Prop := nfaMeetsRow.holds Try.pinned (OpenSpec.ofChange nfaMeetsWrong)

/-- 'heronlaw07.NfaUnited': WHATEVER THE INPUT: true; the input reads as it did. -/
def nfaUnitedSpec : ChangeSpec := { name := "nfaUnited", fn := fun _ => fun
  | [d1, d2] => { results := [.lit (.bool true)], args := [d1, d2] }
  | _ => none }
def nfaUnitedRow : OpenClaim := { program := "ytajainmldcnaeaa", sum := "e7ce2cedfe1f0f4603db25bd5784bc4e97d07bfc69dead86e7f595281f8c637e", func := "heron/heronlaw07.NfaUnited", spec := "nfaUnited", inPlace := ["internal/bytealg.IndexByteString", "internal/bytealg.IndexString"], unfollowed := true, recurses := true, named := ["internal/bytealg.MaxLen"], apart := false }
def NfaUnitedSaid : Prop := nfaUnitedRow.holds Try.pinned (OpenSpec.ofChange nfaUnitedSpec)

/-- ITS FALSE NEIGHBOUR: 'it returns false'. Refute it at one input. -/
def nfaUnitedWrong : ChangeSpec := { name := "nfaUnited", fn := fun _ => fun
  | [d1, d2] => { results := [.lit (.bool false)], args := [d1, d2] }
  | _ => none }
def NfaUnitedWrongFalsely : Prop := nfaUnitedRow.holds Try.pinned (OpenSpec.ofChange nfaUnitedWrong)

/-- 'heronlaw07.NfaOwn': WHATEVER THE INPUT: true; the input reads as it did. -/
def nfaOwnSpec : ChangeSpec := { name := "nfaOwn", fn := fun _ => fun
  | [d1, d2] => { results := [.lit (.bool true)], args := [d1, d2] }
  | _ => none }
def nfaOwnRow : OpenClaim := { program := "ytajainmldcnaeaa", sum := "e7ce2cedfe1f0f4603db25bd5784bc4e97d07bfc69dead86e7f595281f8c637e", func := "heron/heronlaw07.NfaOwn", spec := "nfaOwn", inPlace := ["internal/bytealg.IndexByteString", "internal/bytealg.IndexString"], unfollowed := true, recurses := true, named := ["internal/bytealg.MaxLen"], apart := false }
def NfaOwnSaid : Prop := nfaOwnRow.holds Try.pinned (OpenSpec.ofChange nfaOwnSpec)

/-- ITS FALSE NEIGHBOUR: 'it returns false'. Refute it at one input. -/
def nfaOwnWrong : ChangeSpec := { name := "nfaOwn", fn := fun _ => fun
  | [d1, d2] => { results := [.lit (.bool false)], args := [d1, d2] }
  | _ => none }
def NfaOwnWrongFalsely : Prop := nfaOwnRow.holds Try.pinned (OpenSpec.ofChange nfaOwnWrong)

/- THE SECOND FORM. 'bulk': how many values and letters a reading holds, each counted each time it is reached (what is shared counts as often as it is met; a slice's spare places count too). A statement '..UptoSaid' is the law's where the arguments, and the package variables that the reading takes, are together of bulk at most 1048576: NARROWER than '..Said'. Prove '..Said' where nothing that the law and all that it calls make is longer than what came in: it says more and counts as full. Else prove '..UptoSaid'. A law counts once. -/
mutual
def uptoBulk {H : Type} : DataW H → Nat
  | .lit (.string bytes) => bytes.length + 1
  | .lit _ => 1
  | .nil => 1
  | .ptr d => uptoBulk d + 1
  | .slice elems spare => uptoBulkAll elems + uptoBulkAll spare + 1
  | .agg parts => uptoBulkAll parts + 1
  | .iface _ d => uptoBulk d + 1
  | .map entries => uptoBulkEntries entries + 1
  | .held _ => 1
def uptoBulkAll {H : Type} : List (DataW H) → Nat
  | [] => 0
  | d :: r => uptoBulk d + uptoBulkAll r
def uptoBulkEntries {H : Type} : List (Lit × DataW H) → Nat
  | [] => 0
  | x :: r => uptoBulkEntry x + uptoBulkEntries r
def uptoBulkEntry {H : Type} : Lit × DataW H → Nat
  | (.string bytes, d) => bytes.length + uptoBulk d + 1
  | (_, d) => uptoBulk d + 1
 end
def uptoSmall : (H : Type) → List (DataW H) → Bool := fun _ ds => decide (uptoBulkAll ds ≤ 1048576)
def OpenSpec.upto (s : _root_.Go.ChangeSpec) : _root_.Go.OpenSpec := { _root_.Go.OpenSpec.ofChange s with cond := some uptoSmall }

/-- 'heronlaw04.EreExact', WHERE WHAT IT READS IS OF BULK AT MOST 1048576: true; the input reads as it did. -/
def ereExactUptoRow : OpenClaim := { program := "ytajainmldcnaeaa", sum := "e7ce2cedfe1f0f4603db25bd5784bc4e97d07bfc69dead86e7f595281f8c637e", func := "heron/heronlaw04.EreExact", spec := "ereExact", inPlace := ["internal/bytealg.IndexByteString", "internal/bytealg.IndexString"], unfollowed := true, recurses := true, named := ["internal/bytealg.MaxLen"], loops := true, apart := false, narrowed := true }
def EreExactUptoSaid : Prop := ereExactUptoRow.holds Try.pinned (OpenSpec.upto ereExactSpec)

/-- 'heronlaw04.EreTrees', WHERE WHAT IT READS IS OF BULK AT MOST 1048576: true; the input reads as it did. -/
def ereTreesUptoRow : OpenClaim := { program := "ytajainmldcnaeaa", sum := "e7ce2cedfe1f0f4603db25bd5784bc4e97d07bfc69dead86e7f595281f8c637e", func := "heron/heronlaw04.EreTrees", spec := "ereTrees", inPlace := ["internal/bytealg.IndexByteString", "internal/bytealg.IndexString"], unfollowed := true, recurses := true, named := ["internal/bytealg.MaxLen"], apart := false, narrowed := true }
def EreTreesUptoSaid : Prop := ereTreesUptoRow.holds Try.pinned (OpenSpec.upto ereTreesSpec)

/-- 'heronlaw04.EreJoins', WHERE WHAT IT READS IS OF BULK AT MOST 1048576: true; the input reads as it did. -/
def ereJoinsUptoRow : OpenClaim := { program := "ytajainmldcnaeaa", sum := "e7ce2cedfe1f0f4603db25bd5784bc4e97d07bfc69dead86e7f595281f8c637e", func := "heron/heronlaw04.EreJoins", spec := "ereJoins", inPlace := ["internal/bytealg.IndexByteString", "internal/bytealg.IndexString"], unfollowed := true, recurses := true, named := ["internal/bytealg.MaxLen"], apart := false, narrowed := true }
def EreJoinsUptoSaid : Prop := ereJoinsUptoRow.holds Try.pinned (OpenSpec.upto ereJoinsSpec)

/-- 'heronlaw04.EreFaults', WHERE WHAT IT READS IS OF BULK AT MOST 1048576: true; the input reads as it did. -/
def ereFaultsUptoRow : OpenClaim := { program := "ytajainmldcnaeaa", sum := "e7ce2cedfe1f0f4603db25bd5784bc4e97d07bfc69dead86e7f595281f8c637e", func := "heron/heronlaw04.EreFaults", spec := "ereFaults", inPlace := ["internal/bytealg.IndexByteString", "internal/bytealg.IndexString"], unfollowed := true, recurses := true, named := ["internal/bytealg.MaxLen"], apart := false, narrowed := true }
def EreFaultsUptoSaid : Prop := ereFaultsUptoRow.holds Try.pinned (OpenSpec.upto ereFaultsSpec)

/-- 'heronlaw04.EreOwn', WHERE WHAT IT READS IS OF BULK AT MOST 1048576: true; the input reads as it did. -/
def ereOwnUptoRow : OpenClaim := { program := "ytajainmldcnaeaa", sum := "e7ce2cedfe1f0f4603db25bd5784bc4e97d07bfc69dead86e7f595281f8c637e", func := "heron/heronlaw04.EreOwn", spec := "ereOwn", inPlace := ["internal/bytealg.IndexByteString", "internal/bytealg.IndexString"], unfollowed := true, recurses := true, named := ["internal/bytealg.MaxLen"], apart := false, narrowed := true }
def EreOwnUptoSaid : Prop := ereOwnUptoRow.holds Try.pinned (OpenSpec.upto ereOwnSpec)

/-- 'heronlaw07.NfaMeets', WHERE WHAT IT READS IS OF BULK AT MOST 1048576: true; the input reads as it did. -/
def nfaMeetsUptoRow : OpenClaim := { program := "ytajainmldcnaeaa", sum := "e7ce2cedfe1f0f4603db25bd5784bc4e97d07bfc69dead86e7f595281f8c637e", func := "heron/heronlaw07.NfaMeets", spec := "nfaMeets", inPlace := ["internal/bytealg.IndexByteString", "internal/bytealg.IndexString"], unfollowed := true, recurses := true, named := ["internal/bytealg.MaxLen"], apart := false, narrowed := true }
def NfaMeetsUptoSaid : Prop := nfaMeetsUptoRow.holds Try.pinned (OpenSpec.upto nfaMeetsSpec)

/-- 'heronlaw07.NfaUnited', WHERE WHAT IT READS IS OF BULK AT MOST 1048576: true; the input reads as it did. -/
def nfaUnitedUptoRow : OpenClaim := { program := "ytajainmldcnaeaa", sum := "e7ce2cedfe1f0f4603db25bd5784bc4e97d07bfc69dead86e7f595281f8c637e", func := "heron/heronlaw07.NfaUnited", spec := "nfaUnited", inPlace := ["internal/bytealg.IndexByteString", "internal/bytealg.IndexString"], unfollowed := true, recurses := true, named := ["internal/bytealg.MaxLen"], apart := false, narrowed := true }
def NfaUnitedUptoSaid : Prop := nfaUnitedUptoRow.holds Try.pinned (OpenSpec.upto nfaUnitedSpec)

/-- 'heronlaw07.NfaOwn', WHERE WHAT IT READS IS OF BULK AT MOST 1048576: true; the input reads as it did. -/
def nfaOwnUptoRow : OpenClaim := { program := "ytajainmldcnaeaa", sum := "e7ce2cedfe1f0f4603db25bd5784bc4e97d07bfc69dead86e7f595281f8c637e", func := "heron/heronlaw07.NfaOwn", spec := "nfaOwn", inPlace := ["internal/bytealg.IndexByteString", "internal/bytealg.IndexString"], unfollowed := true, recurses := true, named := ["internal/bytealg.MaxLen"], apart := false, narrowed := true }
def NfaOwnUptoSaid : Prop := nfaOwnUptoRow.holds Try.pinned (OpenSpec.upto nfaOwnSpec)

end Rows
end Go.Proofs.Ytajainmldcnaeaa
