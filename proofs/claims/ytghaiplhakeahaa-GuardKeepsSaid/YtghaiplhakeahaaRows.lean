/-
  No cell of these rows narrows 'for every input' (looked for: loops, veiled, ifaces, maps, wideKeys, modest, calm, conditions, laid).
  DERIVED. THE GIVEN ROWS OF THIS SEAT. 12 by the template 'for every input the law returns true; each argument reads behind the call as it read before'; 0 by the template 'total and deterministic' (their statements: YtghaiplhakeahaaTotals.lean).
  GIVEN WITH THE SEED: the statements are not yours to turn. If you find one false, say at which input.
  Laid BY PROGRAM, IN A SANDBOX (cutbox-rows.mjs): the forced cells as the released guide's own fill.sh prints them over the translation 572a2dca90085ee8… (all of the seat's roots in one cut). By AI agents, Wed Nov 11 2026. No macro, syntax, notation, axiom, sorry.
-/
import Derived.Test.YtghaiplhakeahaaChecked
import GoSem.Claim
import GoSem.ClaimJoined
import GoSem.ClaimMapViews
import Derived.JoinedTies
import Derived.KernelRfl
namespace Go.Proofs.Ytghaiplhakeahaa
/- THE CELL 'sum', in the pinned program and in every row, IS THE sha256 OF THE DUMP (.gsa) THAT YtghaiplhakeahaaProg.lean LOADS. Nothing in Lean hashes anything: it is a label: what it is worth is what the hold of that sum in a sandbox is worth. -/
noncomputable def Try.pinned : Pinned := { name := "ytghaiplhakeahaa", sum := "572a2dca90085ee8186507ff829af514593bf6a434b0e27ade92fae9036a900f", checked := Try.checked }
namespace Rows
def none {H : Type} : Left H := { results := [], args := [] }

/-- 'baizelaw51.TowerMakes': WHATEVER THE INPUT: true; the input reads as it did. -/
def towerMakesSpec : ChangeSpec := { name := "towerMakes", fn := fun _ => fun
  | [d1, d2] => { results := [.lit (.bool true)], args := [d1, d2] }
  | _ => none }
def towerMakesRow : OpenClaim := { program := "ytghaiplhakeahaa", sum := "572a2dca90085ee8186507ff829af514593bf6a434b0e27ade92fae9036a900f", func := "baize/baizelaw51.TowerMakes", spec := "towerMakes", plainKeys := false, apart := false }
def TowerMakesSaid : Prop := towerMakesRow.holds Try.pinned (OpenSpec.ofChange towerMakesSpec)

/-- ITS FALSE NEIGHBOUR: 'it returns false'. Refute it at one input. -/
def towerMakesWrong : ChangeSpec := { name := "towerMakes", fn := fun _ => fun
  | [d1, d2] => { results := [.lit (.bool false)], args := [d1, d2] }
  | _ => none }
def TowerMakesWrongFalsely : Prop := towerMakesRow.holds Try.pinned (OpenSpec.ofChange towerMakesWrong)

/-- 'baizelaw51.TowerSees': WHATEVER THE INPUT: true; the input reads as it did. -/
def towerSeesSpec : ChangeSpec := { name := "towerSees", fn := fun _ => fun
  | [d1, d2, d3] => { results := [.lit (.bool true)], args := [d1, d2, d3] }
  | _ => none }
def towerSeesRow : OpenClaim := { program := "ytghaiplhakeahaa", sum := "572a2dca90085ee8186507ff829af514593bf6a434b0e27ade92fae9036a900f", func := "baize/baizelaw51.TowerSees", spec := "towerSees", plainKeys := false, apart := false }
def TowerSeesSaid : Prop := towerSeesRow.holds Try.pinned (OpenSpec.ofChange towerSeesSpec)

/-- ITS FALSE NEIGHBOUR: 'it returns false'. Refute it at one input. -/
def towerSeesWrong : ChangeSpec := { name := "towerSees", fn := fun _ => fun
  | [d1, d2, d3] => { results := [.lit (.bool false)], args := [d1, d2, d3] }
  | _ => none }
def TowerSeesWrongFalsely : Prop := towerSeesRow.holds Try.pinned (OpenSpec.ofChange towerSeesWrong)

/-- 'baizelaw51.TowerNewest': WHATEVER THE INPUT: true; the input reads as it did. -/
def towerNewestSpec : ChangeSpec := { name := "towerNewest", fn := fun _ => fun
  | [d1, d2] => { results := [.lit (.bool true)], args := [d1, d2] }
  | _ => none }
def towerNewestRow : OpenClaim := { program := "ytghaiplhakeahaa", sum := "572a2dca90085ee8186507ff829af514593bf6a434b0e27ade92fae9036a900f", func := "baize/baizelaw51.TowerNewest", spec := "towerNewest", plainKeys := false, apart := false }
def TowerNewestSaid : Prop := towerNewestRow.holds Try.pinned (OpenSpec.ofChange towerNewestSpec)

/-- ITS FALSE NEIGHBOUR: 'it returns false'. Refute it at one input. -/
def towerNewestWrong : ChangeSpec := { name := "towerNewest", fn := fun _ => fun
  | [d1, d2] => { results := [.lit (.bool false)], args := [d1, d2] }
  | _ => none }
def TowerNewestWrongFalsely : Prop := towerNewestRow.holds Try.pinned (OpenSpec.ofChange towerNewestWrong)

/-- 'baizelaw51.TowerAlone': WHATEVER THE INPUT: true; the input reads as it did. -/
def towerAloneSpec : ChangeSpec := { name := "towerAlone", fn := fun _ => fun
  | [d1, d2, d3] => { results := [.lit (.bool true)], args := [d1, d2, d3] }
  | _ => none }
def towerAloneRow : OpenClaim := { program := "ytghaiplhakeahaa", sum := "572a2dca90085ee8186507ff829af514593bf6a434b0e27ade92fae9036a900f", func := "baize/baizelaw51.TowerAlone", spec := "towerAlone", plainKeys := false, apart := false }
def TowerAloneSaid : Prop := towerAloneRow.holds Try.pinned (OpenSpec.ofChange towerAloneSpec)

/-- ITS FALSE NEIGHBOUR: 'it returns false'. Refute it at one input. -/
def towerAloneWrong : ChangeSpec := { name := "towerAlone", fn := fun _ => fun
  | [d1, d2, d3] => { results := [.lit (.bool false)], args := [d1, d2, d3] }
  | _ => none }
def TowerAloneWrongFalsely : Prop := towerAloneRow.holds Try.pinned (OpenSpec.ofChange towerAloneWrong)

/-- 'baizelaw52.GuardDue': WHATEVER THE INPUT: true; the input reads as it did. -/
def guardDueSpec : ChangeSpec := { name := "guardDue", fn := fun _ => fun
  | [d1, d2, d3] => { results := [.lit (.bool true)], args := [d1, d2, d3] }
  | _ => none }
def guardDueRow : OpenClaim := { program := "ytghaiplhakeahaa", sum := "572a2dca90085ee8186507ff829af514593bf6a434b0e27ade92fae9036a900f", func := "baize/baizelaw52.GuardDue", spec := "guardDue", plainKeys := false, apart := false }
def GuardDueSaid : Prop := guardDueRow.holds Try.pinned (OpenSpec.ofChange guardDueSpec)

/-- ITS FALSE NEIGHBOUR: 'it returns false'. Refute it at one input. -/
def guardDueWrong : ChangeSpec := { name := "guardDue", fn := fun _ => fun
  | [d1, d2, d3] => { results := [.lit (.bool false)], args := [d1, d2, d3] }
  | _ => none }
def GuardDueWrongFalsely : Prop := guardDueRow.holds Try.pinned (OpenSpec.ofChange guardDueWrong)

/-- 'baizelaw51.TowerActs': WHATEVER THE INPUT: true; the input reads as it did. -/
def towerActsSpec : ChangeSpec := { name := "towerActs", fn := fun _ => fun
  | [d1, d2, d3] => { results := [.lit (.bool true)], args := [d1, d2, d3] }
  | _ => none }
def towerActsRow : OpenClaim := { program := "ytghaiplhakeahaa", sum := "572a2dca90085ee8186507ff829af514593bf6a434b0e27ade92fae9036a900f", func := "baize/baizelaw51.TowerActs", spec := "towerActs", plainKeys := false, apart := false }
def TowerActsSaid : Prop := towerActsRow.holds Try.pinned (OpenSpec.ofChange towerActsSpec)

/-- ITS FALSE NEIGHBOUR: 'it returns false'. Refute it at one input. -/
def towerActsWrong : ChangeSpec := { name := "towerActs", fn := fun _ => fun
  | [d1, d2, d3] => { results := [.lit (.bool false)], args := [d1, d2, d3] }
  | _ => none }
def TowerActsWrongFalsely : Prop := towerActsRow.holds Try.pinned (OpenSpec.ofChange towerActsWrong)

/-- 'baizelaw51.TowerBlind': WHATEVER THE INPUT: true; the input reads as it did. -/
def towerBlindSpec : ChangeSpec := { name := "towerBlind", fn := fun _ => fun
  | [d1, d2, d3] => { results := [.lit (.bool true)], args := [d1, d2, d3] }
  | _ => none }
def towerBlindRow : OpenClaim := { program := "ytghaiplhakeahaa", sum := "572a2dca90085ee8186507ff829af514593bf6a434b0e27ade92fae9036a900f", func := "baize/baizelaw51.TowerBlind", spec := "towerBlind", plainKeys := false, apart := false }
def TowerBlindSaid : Prop := towerBlindRow.holds Try.pinned (OpenSpec.ofChange towerBlindSpec)

/-- ITS FALSE NEIGHBOUR: 'it returns false'. Refute it at one input. -/
def towerBlindWrong : ChangeSpec := { name := "towerBlind", fn := fun _ => fun
  | [d1, d2, d3] => { results := [.lit (.bool false)], args := [d1, d2, d3] }
  | _ => none }
def TowerBlindWrongFalsely : Prop := towerBlindRow.holds Try.pinned (OpenSpec.ofChange towerBlindWrong)

/-- 'baizelaw52.GuardNews': WHATEVER THE INPUT: true; the input reads as it did. -/
def guardNewsSpec : ChangeSpec := { name := "guardNews", fn := fun _ => fun
  | [d1, d2] => { results := [.lit (.bool true)], args := [d1, d2] }
  | _ => none }
def guardNewsRow : OpenClaim := { program := "ytghaiplhakeahaa", sum := "572a2dca90085ee8186507ff829af514593bf6a434b0e27ade92fae9036a900f", func := "baize/baizelaw52.GuardNews", spec := "guardNews", plainKeys := false, apart := false }
def GuardNewsSaid : Prop := guardNewsRow.holds Try.pinned (OpenSpec.ofChange guardNewsSpec)

/-- ITS FALSE NEIGHBOUR: 'it returns false'. Refute it at one input. -/
def guardNewsWrong : ChangeSpec := { name := "guardNews", fn := fun _ => fun
  | [d1, d2] => { results := [.lit (.bool false)], args := [d1, d2] }
  | _ => none }
def GuardNewsWrongFalsely : Prop := guardNewsRow.holds Try.pinned (OpenSpec.ofChange guardNewsWrong)

/-- 'baizelaw52.GuardClones': WHATEVER THE INPUT: true; the input reads as it did. -/
def guardClonesSpec : ChangeSpec := { name := "guardClones", fn := fun _ => fun
  | [d1, d2, d3] => { results := [.lit (.bool true)], args := [d1, d2, d3] }
  | _ => none }
def guardClonesRow : OpenClaim := { program := "ytghaiplhakeahaa", sum := "572a2dca90085ee8186507ff829af514593bf6a434b0e27ade92fae9036a900f", func := "baize/baizelaw52.GuardClones", spec := "guardClones", plainKeys := false, apart := false }
def GuardClonesSaid : Prop := guardClonesRow.holds Try.pinned (OpenSpec.ofChange guardClonesSpec)

/-- ITS FALSE NEIGHBOUR: 'it returns false'. Refute it at one input. -/
def guardClonesWrong : ChangeSpec := { name := "guardClones", fn := fun _ => fun
  | [d1, d2, d3] => { results := [.lit (.bool false)], args := [d1, d2, d3] }
  | _ => none }
def GuardClonesWrongFalsely : Prop := guardClonesRow.holds Try.pinned (OpenSpec.ofChange guardClonesWrong)

/-- 'baizelaw51.TowerClone': WHATEVER THE INPUT: true; the input reads as it did. -/
def towerCloneSpec : ChangeSpec := { name := "towerClone", fn := fun _ => fun
  | [d1, d2] => { results := [.lit (.bool true)], args := [d1, d2] }
  | _ => none }
def towerCloneRow : OpenClaim := { program := "ytghaiplhakeahaa", sum := "572a2dca90085ee8186507ff829af514593bf6a434b0e27ade92fae9036a900f", func := "baize/baizelaw51.TowerClone", spec := "towerClone", unfollowed := true, recurses := true, plainKeys := false, apart := false }
def TowerCloneSaid : Prop := towerCloneRow.holds Try.pinned (OpenSpec.ofChange towerCloneSpec)

/-- ITS FALSE NEIGHBOUR: 'it returns false'. Refute it at one input. -/
def towerCloneWrong : ChangeSpec := { name := "towerClone", fn := fun _ => fun
  | [d1, d2] => { results := [.lit (.bool false)], args := [d1, d2] }
  | _ => none }
def TowerCloneWrongFalsely : Prop := towerCloneRow.holds Try.pinned (OpenSpec.ofChange towerCloneWrong)

/-- 'baizelaw51.TowerNil': WHATEVER THE INPUT: true; the input reads as it did. -/
def towerNilSpec : ChangeSpec := { name := "towerNil", fn := fun _ => fun
  | [d1, d2, d3] => { results := [.lit (.bool true)], args := [d1, d2, d3] }
  | _ => none }
def towerNilRow : OpenClaim := { program := "ytghaiplhakeahaa", sum := "572a2dca90085ee8186507ff829af514593bf6a434b0e27ade92fae9036a900f", func := "baize/baizelaw51.TowerNil", spec := "towerNil", unfollowed := true, recurses := true, plainKeys := false, apart := false }
def TowerNilSaid : Prop := towerNilRow.holds Try.pinned (OpenSpec.ofChange towerNilSpec)

/-- ITS FALSE NEIGHBOUR: 'it returns false'. Refute it at one input. -/
def towerNilWrong : ChangeSpec := { name := "towerNil", fn := fun _ => fun
  | [d1, d2, d3] => { results := [.lit (.bool false)], args := [d1, d2, d3] }
  | _ => none }
def TowerNilWrongFalsely : Prop := towerNilRow.holds Try.pinned (OpenSpec.ofChange towerNilWrong)

/-- 'baizelaw52.GuardKeeps': WHATEVER THE INPUT: true; the input reads as it did. -/
def guardKeepsSpec : ChangeSpec := { name := "guardKeeps", fn := fun _ => fun
  | [d1, d2, d3] => { results := [.lit (.bool true)], args := [d1, d2, d3] }
  | _ => none }
def guardKeepsRow : OpenClaim := { program := "ytghaiplhakeahaa", sum := "572a2dca90085ee8186507ff829af514593bf6a434b0e27ade92fae9036a900f", func := "baize/baizelaw52.GuardKeeps", spec := "guardKeeps", unfollowed := true, recurses := true, plainKeys := false, apart := false }
def GuardKeepsSaid : Prop := guardKeepsRow.holds Try.pinned (OpenSpec.ofChange guardKeepsSpec)

/-- ITS FALSE NEIGHBOUR: 'it returns false'. Refute it at one input. -/
def guardKeepsWrong : ChangeSpec := { name := "guardKeeps", fn := fun _ => fun
  | [d1, d2, d3] => { results := [.lit (.bool false)], args := [d1, d2, d3] }
  | _ => none }
def GuardKeepsWrongFalsely : Prop := guardKeepsRow.holds Try.pinned (OpenSpec.ofChange guardKeepsWrong)

/- THE SECOND FORM. 'bulk': how many values and letters a reading holds, each counted each time it is reached (what is shared counts as often as it is met; a slice's spare places count too). A statement '..UptoSaid' is the law's where the arguments, and the package variables that the reading takes, are together of bulk at most 1048576: NARROWER than '..Said'. Prove '..Said' where nothing that the law and all that it calls make is longer than what came in: it says more and counts as full. Else prove '..UptoSaid'. A law counts once. -/
mutual
def uptoBulk {H : Type} : DataW H → Nat
  | .lit (.string bytes) => bytes.length + 1
  | .lit _ => 1
  | .nil => 1
  | .ptr d => uptoBulk d + 1
  | .slice elems spare => uptoBulkAll elems + uptoBulkAll spare + 1
  | .agg parts => uptoBulkAll parts + 1
  | .iface _ d => uptoBulk d + 1
  | .map entries => uptoBulkEntries entries + 1
  | .held _ => 1
def uptoBulkAll {H : Type} : List (DataW H) → Nat
  | [] => 0
  | d :: r => uptoBulk d + uptoBulkAll r
def uptoBulkEntries {H : Type} : List (Lit × DataW H) → Nat
  | [] => 0
  | x :: r => uptoBulkEntry x + uptoBulkEntries r
def uptoBulkEntry {H : Type} : Lit × DataW H → Nat
  | (.string bytes, d) => bytes.length + uptoBulk d + 1
  | (_, d) => uptoBulk d + 1
 end
def uptoSmall : (H : Type) → List (DataW H) → Bool := fun _ ds => decide (uptoBulkAll ds ≤ 1048576)
def OpenSpec.upto (s : _root_.Go.ChangeSpec) : _root_.Go.OpenSpec := { _root_.Go.OpenSpec.ofChange s with cond := some uptoSmall }

/-- 'baizelaw51.TowerMakes', WHERE WHAT IT READS IS OF BULK AT MOST 1048576: true; the input reads as it did. -/
def towerMakesUptoRow : OpenClaim := { program := "ytghaiplhakeahaa", sum := "572a2dca90085ee8186507ff829af514593bf6a434b0e27ade92fae9036a900f", func := "baize/baizelaw51.TowerMakes", spec := "towerMakes", plainKeys := false, apart := false, narrowed := true }
def TowerMakesUptoSaid : Prop := towerMakesUptoRow.holds Try.pinned (OpenSpec.upto towerMakesSpec)

/-- 'baizelaw51.TowerSees', WHERE WHAT IT READS IS OF BULK AT MOST 1048576: true; the input reads as it did. -/
def towerSeesUptoRow : OpenClaim := { program := "ytghaiplhakeahaa", sum := "572a2dca90085ee8186507ff829af514593bf6a434b0e27ade92fae9036a900f", func := "baize/baizelaw51.TowerSees", spec := "towerSees", plainKeys := false, apart := false, narrowed := true }
def TowerSeesUptoSaid : Prop := towerSeesUptoRow.holds Try.pinned (OpenSpec.upto towerSeesSpec)

/-- 'baizelaw51.TowerNewest', WHERE WHAT IT READS IS OF BULK AT MOST 1048576: true; the input reads as it did. -/
def towerNewestUptoRow : OpenClaim := { program := "ytghaiplhakeahaa", sum := "572a2dca90085ee8186507ff829af514593bf6a434b0e27ade92fae9036a900f", func := "baize/baizelaw51.TowerNewest", spec := "towerNewest", plainKeys := false, apart := false, narrowed := true }
def TowerNewestUptoSaid : Prop := towerNewestUptoRow.holds Try.pinned (OpenSpec.upto towerNewestSpec)

/-- 'baizelaw51.TowerAlone', WHERE WHAT IT READS IS OF BULK AT MOST 1048576: true; the input reads as it did. -/
def towerAloneUptoRow : OpenClaim := { program := "ytghaiplhakeahaa", sum := "572a2dca90085ee8186507ff829af514593bf6a434b0e27ade92fae9036a900f", func := "baize/baizelaw51.TowerAlone", spec := "towerAlone", plainKeys := false, apart := false, narrowed := true }
def TowerAloneUptoSaid : Prop := towerAloneUptoRow.holds Try.pinned (OpenSpec.upto towerAloneSpec)

/-- 'baizelaw52.GuardDue', WHERE WHAT IT READS IS OF BULK AT MOST 1048576: true; the input reads as it did. -/
def guardDueUptoRow : OpenClaim := { program := "ytghaiplhakeahaa", sum := "572a2dca90085ee8186507ff829af514593bf6a434b0e27ade92fae9036a900f", func := "baize/baizelaw52.GuardDue", spec := "guardDue", plainKeys := false, apart := false, narrowed := true }
def GuardDueUptoSaid : Prop := guardDueUptoRow.holds Try.pinned (OpenSpec.upto guardDueSpec)

/-- 'baizelaw51.TowerActs', WHERE WHAT IT READS IS OF BULK AT MOST 1048576: true; the input reads as it did. -/
def towerActsUptoRow : OpenClaim := { program := "ytghaiplhakeahaa", sum := "572a2dca90085ee8186507ff829af514593bf6a434b0e27ade92fae9036a900f", func := "baize/baizelaw51.TowerActs", spec := "towerActs", plainKeys := false, apart := false, narrowed := true }
def TowerActsUptoSaid : Prop := towerActsUptoRow.holds Try.pinned (OpenSpec.upto towerActsSpec)

/-- 'baizelaw51.TowerBlind', WHERE WHAT IT READS IS OF BULK AT MOST 1048576: true; the input reads as it did. -/
def towerBlindUptoRow : OpenClaim := { program := "ytghaiplhakeahaa", sum := "572a2dca90085ee8186507ff829af514593bf6a434b0e27ade92fae9036a900f", func := "baize/baizelaw51.TowerBlind", spec := "towerBlind", plainKeys := false, apart := false, narrowed := true }
def TowerBlindUptoSaid : Prop := towerBlindUptoRow.holds Try.pinned (OpenSpec.upto towerBlindSpec)

/-- 'baizelaw52.GuardNews', WHERE WHAT IT READS IS OF BULK AT MOST 1048576: true; the input reads as it did. -/
def guardNewsUptoRow : OpenClaim := { program := "ytghaiplhakeahaa", sum := "572a2dca90085ee8186507ff829af514593bf6a434b0e27ade92fae9036a900f", func := "baize/baizelaw52.GuardNews", spec := "guardNews", plainKeys := false, apart := false, narrowed := true }
def GuardNewsUptoSaid : Prop := guardNewsUptoRow.holds Try.pinned (OpenSpec.upto guardNewsSpec)

/-- 'baizelaw52.GuardClones', WHERE WHAT IT READS IS OF BULK AT MOST 1048576: true; the input reads as it did. -/
def guardClonesUptoRow : OpenClaim := { program := "ytghaiplhakeahaa", sum := "572a2dca90085ee8186507ff829af514593bf6a434b0e27ade92fae9036a900f", func := "baize/baizelaw52.GuardClones", spec := "guardClones", plainKeys := false, apart := false, narrowed := true }
def GuardClonesUptoSaid : Prop := guardClonesUptoRow.holds Try.pinned (OpenSpec.upto guardClonesSpec)

/-- 'baizelaw51.TowerClone', WHERE WHAT IT READS IS OF BULK AT MOST 1048576: true; the input reads as it did. -/
def towerCloneUptoRow : OpenClaim := { program := "ytghaiplhakeahaa", sum := "572a2dca90085ee8186507ff829af514593bf6a434b0e27ade92fae9036a900f", func := "baize/baizelaw51.TowerClone", spec := "towerClone", unfollowed := true, recurses := true, plainKeys := false, apart := false, narrowed := true }
def TowerCloneUptoSaid : Prop := towerCloneUptoRow.holds Try.pinned (OpenSpec.upto towerCloneSpec)

/-- 'baizelaw51.TowerNil', WHERE WHAT IT READS IS OF BULK AT MOST 1048576: true; the input reads as it did. -/
def towerNilUptoRow : OpenClaim := { program := "ytghaiplhakeahaa", sum := "572a2dca90085ee8186507ff829af514593bf6a434b0e27ade92fae9036a900f", func := "baize/baizelaw51.TowerNil", spec := "towerNil", unfollowed := true, recurses := true, plainKeys := false, apart := false, narrowed := true }
def TowerNilUptoSaid : Prop := towerNilUptoRow.holds Try.pinned (OpenSpec.upto towerNilSpec)

/-- 'baizelaw52.GuardKeeps', WHERE WHAT IT READS IS OF BULK AT MOST 1048576: true; the input reads as it did. -/
def guardKeepsUptoRow : OpenClaim := { program := "ytghaiplhakeahaa", sum := "572a2dca90085ee8186507ff829af514593bf6a434b0e27ade92fae9036a900f", func := "baize/baizelaw52.GuardKeeps", spec := "guardKeeps", unfollowed := true, recurses := true, plainKeys := false, apart := false, narrowed := true }
def GuardKeepsUptoSaid : Prop := guardKeepsUptoRow.holds Try.pinned (OpenSpec.upto guardKeepsSpec)

end Rows
end Go.Proofs.Ytghaiplhakeahaa
