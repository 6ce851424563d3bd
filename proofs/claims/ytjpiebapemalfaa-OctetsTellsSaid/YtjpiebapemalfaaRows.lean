/-
  No cell of these rows narrows 'for every input' (looked for: loops, veiled, ifaces, maps, wideKeys, modest, calm, conditions, laid).
  DERIVED. THE GIVEN ROWS OF THIS SEAT. 9 by the template 'for every input the law returns true; each argument reads behind the call as it read before'; 0 by the template 'total and deterministic' (their statements: YtjpiebapemalfaaTotals.lean).
  GIVEN WITH THE SEED: the statements are not yours to turn. If you find one false, say at which input.
  Laid BY PROGRAM, IN A SANDBOX (cutbox-rows.mjs): the forced cells as the released guide's own fill.sh prints them over the translation 77b3132f800a8034… (all of the seat's roots in one cut). By AI agents, Wed Nov 11 2026. No macro, syntax, notation, axiom, sorry.
-/
import Derived.Test.YtjpiebapemalfaaChecked
import GoSem.Claim
import GoSem.ClaimJoined
import GoSem.ClaimMapViews
import Derived.JoinedTies
import Derived.KernelRfl
namespace Go.Proofs.Ytjpiebapemalfaa
/- THE CELL 'sum', in the pinned program and in every row, IS THE sha256 OF THE DUMP (.gsa) THAT YtjpiebapemalfaaProg.lean LOADS. Nothing in Lean hashes anything: it is a label: what it is worth is what the hold of that sum in a sandbox is worth. -/
noncomputable def Try.pinned : Pinned := { name := "ytjpiebapemalfaa", sum := "77b3132f800a803436020b41fe48b360f6cf526bb306ea9fda015bb46e2fac18", checked := Try.checked }
namespace Rows
def none {H : Type} : Left H := { results := [], args := [] }

/-- 'heronlaw09.PartSets': WHATEVER THE INPUT: true; the input reads as it did. -/
def partSetsSpec : ChangeSpec := { name := "partSets", fn := fun _ => fun
  | [d] => { results := [.lit (.bool true)], args := [d] }
  | _ => none }
def partSetsRow : OpenClaim := { program := "ytjpiebapemalfaa", sum := "77b3132f800a803436020b41fe48b360f6cf526bb306ea9fda015bb46e2fac18", func := "heron/heronlaw09.PartSets", spec := "partSets", plainKeys := false, apart := false }
def PartSetsSaid : Prop := partSetsRow.holds Try.pinned (OpenSpec.ofChange partSetsSpec)

/-- ITS FALSE NEIGHBOUR: 'it returns false'. Refute it at one input. -/
def partSetsWrong : ChangeSpec := { name := "partSets", fn := fun _ => fun
  | [d] => { results := [.lit (.bool false)], args := [d] }
  | _ => none }
def PartSetsWrongFalsely : Prop := partSetsRow.holds Try.pinned (OpenSpec.ofChange partSetsWrong)

/-- 'heronlaw09.PartClasses': WHATEVER THE INPUT: true; the input reads as it did. -/
def partClassesSpec : ChangeSpec := { name := "partClasses", fn := fun _ => fun
  | [d1, d2, d3] => { results := [.lit (.bool true)], args := [d1, d2, d3] }
  | _ => none }
def partClassesRow : OpenClaim := { program := "ytjpiebapemalfaa", sum := "77b3132f800a803436020b41fe48b360f6cf526bb306ea9fda015bb46e2fac18", func := "heron/heronlaw09.PartClasses", spec := "partClasses", plainKeys := false, apart := false }
def PartClassesSaid : Prop := partClassesRow.holds Try.pinned (OpenSpec.ofChange partClassesSpec)

/-- ITS FALSE NEIGHBOUR: 'it returns false'. Refute it at one input. -/
def partClassesWrong : ChangeSpec := { name := "partClasses", fn := fun _ => fun
  | [d1, d2, d3] => { results := [.lit (.bool false)], args := [d1, d2, d3] }
  | _ => none }
def PartClassesWrongFalsely : Prop := partClassesRow.holds Try.pinned (OpenSpec.ofChange partClassesWrong)

/-- 'heronlaw09.PartTells': WHATEVER THE INPUT: true; the input reads as it did. -/
def partTellsSpec : ChangeSpec := { name := "partTells", fn := fun _ => fun
  | [d] => { results := [.lit (.bool true)], args := [d] }
  | _ => none }
def partTellsRow : OpenClaim := { program := "ytjpiebapemalfaa", sum := "77b3132f800a803436020b41fe48b360f6cf526bb306ea9fda015bb46e2fac18", func := "heron/heronlaw09.PartTells", spec := "partTells", plainKeys := false, apart := false }
def PartTellsSaid : Prop := partTellsRow.holds Try.pinned (OpenSpec.ofChange partTellsSpec)

/-- ITS FALSE NEIGHBOUR: 'it returns false'. Refute it at one input. -/
def partTellsWrong : ChangeSpec := { name := "partTells", fn := fun _ => fun
  | [d] => { results := [.lit (.bool false)], args := [d] }
  | _ => none }
def PartTellsWrongFalsely : Prop := partTellsRow.holds Try.pinned (OpenSpec.ofChange partTellsWrong)

/-- 'heronlaw03.OctetsTells': WHATEVER THE INPUT: true; the input reads as it did. -/
def octetsTellsSpec : ChangeSpec := { name := "octetsTells", fn := fun _ => fun
  | [d1, d2] => { results := [.lit (.bool true)], args := [d1, d2] }
  | _ => none }
def octetsTellsRow : OpenClaim := { program := "ytjpiebapemalfaa", sum := "77b3132f800a803436020b41fe48b360f6cf526bb306ea9fda015bb46e2fac18", func := "heron/heronlaw03.OctetsTells", spec := "octetsTells", unfollowed := true, recurses := true, plainKeys := false, apart := false }
def OctetsTellsSaid : Prop := octetsTellsRow.holds Try.pinned (OpenSpec.ofChange octetsTellsSpec)

/-- ITS FALSE NEIGHBOUR: 'it returns false'. Refute it at one input. -/
def octetsTellsWrong : ChangeSpec := { name := "octetsTells", fn := fun _ => fun
  | [d1, d2] => { results := [.lit (.bool false)], args := [d1, d2] }
  | _ => none }
def OctetsTellsWrongFalsely : Prop := octetsTellsRow.holds Try.pinned (OpenSpec.ofChange octetsTellsWrong)

/-- 'heronlaw03.OctetsBack': WHATEVER THE INPUT: true; the input reads as it did. -/
def octetsBackSpec : ChangeSpec := { name := "octetsBack", fn := fun _ => fun
  | [d] => { results := [.lit (.bool true)], args := [d] }
  | _ => none }
def octetsBackRow : OpenClaim := { program := "ytjpiebapemalfaa", sum := "77b3132f800a803436020b41fe48b360f6cf526bb306ea9fda015bb46e2fac18", func := "heron/heronlaw03.OctetsBack", spec := "octetsBack", unfollowed := true, recurses := true, plainKeys := false, apart := false }
def OctetsBackSaid : Prop := octetsBackRow.holds Try.pinned (OpenSpec.ofChange octetsBackSpec)

/-- ITS FALSE NEIGHBOUR: 'it returns false'. Refute it at one input. -/
def octetsBackWrong : ChangeSpec := { name := "octetsBack", fn := fun _ => fun
  | [d] => { results := [.lit (.bool false)], args := [d] }
  | _ => none }
def OctetsBackWrongFalsely : Prop := octetsBackRow.holds Try.pinned (OpenSpec.ofChange octetsBackWrong)

/-- 'heronlaw03.OctetsJoins': WHATEVER THE INPUT: true; the input reads as it did. -/
def octetsJoinsSpec : ChangeSpec := { name := "octetsJoins", fn := fun _ => fun
  | [d1, d2, d3] => { results := [.lit (.bool true)], args := [d1, d2, d3] }
  | _ => none }
def octetsJoinsRow : OpenClaim := { program := "ytjpiebapemalfaa", sum := "77b3132f800a803436020b41fe48b360f6cf526bb306ea9fda015bb46e2fac18", func := "heron/heronlaw03.OctetsJoins", spec := "octetsJoins", unfollowed := true, recurses := true, plainKeys := false, apart := false }
def OctetsJoinsSaid : Prop := octetsJoinsRow.holds Try.pinned (OpenSpec.ofChange octetsJoinsSpec)

/-- ITS FALSE NEIGHBOUR: 'it returns false'. Refute it at one input. -/
def octetsJoinsWrong : ChangeSpec := { name := "octetsJoins", fn := fun _ => fun
  | [d1, d2, d3] => { results := [.lit (.bool false)], args := [d1, d2, d3] }
  | _ => none }
def OctetsJoinsWrongFalsely : Prop := octetsJoinsRow.holds Try.pinned (OpenSpec.ofChange octetsJoinsWrong)

/-- 'heronlaw09.PartFiner': WHATEVER THE INPUT: true; the input reads as it did. -/
def partFinerSpec : ChangeSpec := { name := "partFiner", fn := fun _ => fun
  | [d1, d2] => { results := [.lit (.bool true)], args := [d1, d2] }
  | _ => none }
def partFinerRow : OpenClaim := { program := "ytjpiebapemalfaa", sum := "77b3132f800a803436020b41fe48b360f6cf526bb306ea9fda015bb46e2fac18", func := "heron/heronlaw09.PartFiner", spec := "partFiner", plainKeys := false, apart := false }
def PartFinerSaid : Prop := partFinerRow.holds Try.pinned (OpenSpec.ofChange partFinerSpec)

/-- ITS FALSE NEIGHBOUR: 'it returns false'. Refute it at one input. -/
def partFinerWrong : ChangeSpec := { name := "partFiner", fn := fun _ => fun
  | [d1, d2] => { results := [.lit (.bool false)], args := [d1, d2] }
  | _ => none }
def PartFinerWrongFalsely : Prop := partFinerRow.holds Try.pinned (OpenSpec.ofChange partFinerWrong)

/-- 'heronlaw03.OctetsLaws': WHATEVER THE INPUT: true; the input reads as it did. -/
def octetsLawsSpec : ChangeSpec := { name := "octetsLaws", fn := fun _ => fun
  | [d1, d2, d3] => { results := [.lit (.bool true)], args := [d1, d2, d3] }
  | _ => none }
def octetsLawsRow : OpenClaim := { program := "ytjpiebapemalfaa", sum := "77b3132f800a803436020b41fe48b360f6cf526bb306ea9fda015bb46e2fac18", func := "heron/heronlaw03.OctetsLaws", spec := "octetsLaws", unfollowed := true, recurses := true, plainKeys := false, apart := false }
def OctetsLawsSaid : Prop := octetsLawsRow.holds Try.pinned (OpenSpec.ofChange octetsLawsSpec)

/-- ITS FALSE NEIGHBOUR: 'it returns false'. Refute it at one input. -/
def octetsLawsWrong : ChangeSpec := { name := "octetsLaws", fn := fun _ => fun
  | [d1, d2, d3] => { results := [.lit (.bool false)], args := [d1, d2, d3] }
  | _ => none }
def OctetsLawsWrongFalsely : Prop := octetsLawsRow.holds Try.pinned (OpenSpec.ofChange octetsLawsWrong)

/-- 'heronlaw03.OctetsMakes': WHATEVER THE INPUT: true; the input reads as it did. -/
def octetsMakesSpec : ChangeSpec := { name := "octetsMakes", fn := fun _ => fun
  | [d1, d2, d3, d4] => { results := [.lit (.bool true)], args := [d1, d2, d3, d4] }
  | _ => none }
def octetsMakesRow : OpenClaim := { program := "ytjpiebapemalfaa", sum := "77b3132f800a803436020b41fe48b360f6cf526bb306ea9fda015bb46e2fac18", func := "heron/heronlaw03.OctetsMakes", spec := "octetsMakes", unfollowed := true, recurses := true, plainKeys := false, apart := false }
def OctetsMakesSaid : Prop := octetsMakesRow.holds Try.pinned (OpenSpec.ofChange octetsMakesSpec)

/-- ITS FALSE NEIGHBOUR: 'it returns false'. Refute it at one input. -/
def octetsMakesWrong : ChangeSpec := { name := "octetsMakes", fn := fun _ => fun
  | [d1, d2, d3, d4] => { results := [.lit (.bool false)], args := [d1, d2, d3, d4] }
  | _ => none }
def OctetsMakesWrongFalsely : Prop := octetsMakesRow.holds Try.pinned (OpenSpec.ofChange octetsMakesWrong)

/- THE SECOND FORM. 'bulk': how many values and letters a reading holds, each counted each time it is reached (what is shared counts as often as it is met; a slice's spare places count too). A statement '..UptoSaid' is the law's where the arguments, and the package variables that the reading takes, are together of bulk at most 1048576: NARROWER than '..Said'. Prove '..Said' where nothing that the law and all that it calls make is longer than what came in: it says more and counts as full. Else prove '..UptoSaid'. A law counts once. -/
mutual
def uptoBulk {H : Type} : DataW H → Nat
  | .lit (.string bytes) => bytes.length + 1
  | .lit _ => 1
  | .nil => 1
  | .ptr d => uptoBulk d + 1
  | .slice elems spare => uptoBulkAll elems + uptoBulkAll spare + 1
  | .agg parts => uptoBulkAll parts + 1
  | .iface _ d => uptoBulk d + 1
  | .map entries => uptoBulkEntries entries + 1
  | .held _ => 1
def uptoBulkAll {H : Type} : List (DataW H) → Nat
  | [] => 0
  | d :: r => uptoBulk d + uptoBulkAll r
def uptoBulkEntries {H : Type} : List (Lit × DataW H) → Nat
  | [] => 0
  | x :: r => uptoBulkEntry x + uptoBulkEntries r
def uptoBulkEntry {H : Type} : Lit × DataW H → Nat
  | (.string bytes, d) => bytes.length + uptoBulk d + 1
  | (_, d) => uptoBulk d + 1
 end
def uptoSmall : (H : Type) → List (DataW H) → Bool := fun _ ds => decide (uptoBulkAll ds ≤ 1048576)
def OpenSpec.upto (s : _root_.Go.ChangeSpec) : _root_.Go.OpenSpec := { _root_.Go.OpenSpec.ofChange s with cond := some uptoSmall }

/-- 'heronlaw09.PartSets', WHERE WHAT IT READS IS OF BULK AT MOST 1048576: true; the input reads as it did. -/
def partSetsUptoRow : OpenClaim := { program := "ytjpiebapemalfaa", sum := "77b3132f800a803436020b41fe48b360f6cf526bb306ea9fda015bb46e2fac18", func := "heron/heronlaw09.PartSets", spec := "partSets", plainKeys := false, apart := false, narrowed := true }
def PartSetsUptoSaid : Prop := partSetsUptoRow.holds Try.pinned (OpenSpec.upto partSetsSpec)

/-- 'heronlaw09.PartClasses', WHERE WHAT IT READS IS OF BULK AT MOST 1048576: true; the input reads as it did. -/
def partClassesUptoRow : OpenClaim := { program := "ytjpiebapemalfaa", sum := "77b3132f800a803436020b41fe48b360f6cf526bb306ea9fda015bb46e2fac18", func := "heron/heronlaw09.PartClasses", spec := "partClasses", plainKeys := false, apart := false, narrowed := true }
def PartClassesUptoSaid : Prop := partClassesUptoRow.holds Try.pinned (OpenSpec.upto partClassesSpec)

/-- 'heronlaw09.PartTells', WHERE WHAT IT READS IS OF BULK AT MOST 1048576: true; the input reads as it did. -/
def partTellsUptoRow : OpenClaim := { program := "ytjpiebapemalfaa", sum := "77b3132f800a803436020b41fe48b360f6cf526bb306ea9fda015bb46e2fac18", func := "heron/heronlaw09.PartTells", spec := "partTells", plainKeys := false, apart := false, narrowed := true }
def PartTellsUptoSaid : Prop := partTellsUptoRow.holds Try.pinned (OpenSpec.upto partTellsSpec)

/-- 'heronlaw03.OctetsTells', WHERE WHAT IT READS IS OF BULK AT MOST 1048576: true; the input reads as it did. -/
def octetsTellsUptoRow : OpenClaim := { program := "ytjpiebapemalfaa", sum := "77b3132f800a803436020b41fe48b360f6cf526bb306ea9fda015bb46e2fac18", func := "heron/heronlaw03.OctetsTells", spec := "octetsTells", unfollowed := true, recurses := true, plainKeys := false, apart := false, narrowed := true }
def OctetsTellsUptoSaid : Prop := octetsTellsUptoRow.holds Try.pinned (OpenSpec.upto octetsTellsSpec)

/-- 'heronlaw03.OctetsBack', WHERE WHAT IT READS IS OF BULK AT MOST 1048576: true; the input reads as it did. -/
def octetsBackUptoRow : OpenClaim := { program := "ytjpiebapemalfaa", sum := "77b3132f800a803436020b41fe48b360f6cf526bb306ea9fda015bb46e2fac18", func := "heron/heronlaw03.OctetsBack", spec := "octetsBack", unfollowed := true, recurses := true, plainKeys := false, apart := false, narrowed := true }
def OctetsBackUptoSaid : Prop := octetsBackUptoRow.holds Try.pinned (OpenSpec.upto octetsBackSpec)

/-- 'heronlaw03.OctetsJoins', WHERE WHAT IT READS IS OF BULK AT MOST 1048576: true; the input reads as it did. -/
def octetsJoinsUptoRow : OpenClaim := { program := "ytjpiebapemalfaa", sum := "77b3132f800a803436020b41fe48b360f6cf526bb306ea9fda015bb46e2fac18", func := "heron/heronlaw03.OctetsJoins", spec := "octetsJoins", unfollowed := true, recurses := true, plainKeys := false, apart := false, narrowed := true }
def OctetsJoinsUptoSaid : Prop := octetsJoinsUptoRow.holds Try.pinned (OpenSpec.upto octetsJoinsSpec)

/-- 'heronlaw09.PartFiner', WHERE WHAT IT READS IS OF BULK AT MOST 1048576: true; the input reads as it did. -/
def partFinerUptoRow : OpenClaim := { program := "ytjpiebapemalfaa", sum := "77b3132f800a803436020b41fe48b360f6cf526bb306ea9fda015bb46e2fac18", func := "heron/heronlaw09.PartFiner", spec := "partFiner", plainKeys := false, apart := false, narrowed := true }
def PartFinerUptoSaid : Prop := partFinerUptoRow.holds Try.pinned (OpenSpec.upto partFinerSpec)

/-- 'heronlaw03.OctetsLaws', WHERE WHAT IT READS IS OF BULK AT MOST 1048576: true; the input reads as it did. -/
def octetsLawsUptoRow : OpenClaim := { program := "ytjpiebapemalfaa", sum := "77b3132f800a803436020b41fe48b360f6cf526bb306ea9fda015bb46e2fac18", func := "heron/heronlaw03.OctetsLaws", spec := "octetsLaws", unfollowed := true, recurses := true, plainKeys := false, apart := false, narrowed := true }
def OctetsLawsUptoSaid : Prop := octetsLawsUptoRow.holds Try.pinned (OpenSpec.upto octetsLawsSpec)

/-- 'heronlaw03.OctetsMakes', WHERE WHAT IT READS IS OF BULK AT MOST 1048576: true; the input reads as it did. -/
def octetsMakesUptoRow : OpenClaim := { program := "ytjpiebapemalfaa", sum := "77b3132f800a803436020b41fe48b360f6cf526bb306ea9fda015bb46e2fac18", func := "heron/heronlaw03.OctetsMakes", spec := "octetsMakes", unfollowed := true, recurses := true, plainKeys := false, apart := false, narrowed := true }
def OctetsMakesUptoSaid : Prop := octetsMakesUptoRow.holds Try.pinned (OpenSpec.upto octetsMakesSpec)

end Rows
end Go.Proofs.Ytjpiebapemalfaa
