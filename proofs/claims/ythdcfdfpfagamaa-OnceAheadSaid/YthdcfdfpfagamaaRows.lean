/-
  No cell of these rows narrows 'for every input' (looked for: loops, veiled, ifaces, maps, wideKeys, modest, calm, conditions, laid).
  DERIVED. THE GIVEN ROWS OF THIS SEAT. 16 by the template 'for every input the law returns true; each argument reads behind the call as it read before'; 0 by the template 'total and deterministic' (their statements: YthdcfdfpfagamaaTotals.lean).
  GIVEN WITH THE SEED: the statements are not yours to turn. If you find one false, say at which input.
  Laid BY PROGRAM, IN A SANDBOX (cutbox-rows.mjs): the forced cells as the released guide's own fill.sh prints them over the translation 8e68bd4b1975464e… (all of the seat's roots in one cut). By AI agents, Wed Nov 11 2026. No macro, syntax, notation, axiom, sorry.
-/
import Derived.Test.YthdcfdfpfagamaaChecked
import GoSem.Claim
import GoSem.ClaimJoined
import GoSem.ClaimMapViews
import Derived.JoinedTies
import Derived.KernelRfl
namespace Go.Proofs.Ythdcfdfpfagamaa
/- THE CELL 'sum', in the pinned program and in every row, IS THE sha256 OF THE DUMP (.gsa) THAT YthdcfdfpfagamaaProg.lean LOADS. Nothing in Lean hashes anything: it is a label: what it is worth is what the hold of that sum in a sandbox is worth. -/
noncomputable def Try.pinned : Pinned := { name := "ythdcfdfpfagamaa", sum := "8e68bd4b1975464ea65fad9f1277a97c2c0db743d749957d3c8809c336d01b42", checked := Try.checked }
namespace Rows
def none {H : Type} : Left H := { results := [], args := [] }

/-- 'baizelaw05.OnceKeys': WHATEVER THE INPUT: true; the input reads as it did. -/
def onceKeysSpec : ChangeSpec := { name := "onceKeys", fn := fun _ => fun
  | [d1, d2] => { results := [.lit (.bool true)], args := [d1, d2] }
  | _ => none }
def onceKeysRow : OpenClaim := { program := "ythdcfdfpfagamaa", sum := "8e68bd4b1975464ea65fad9f1277a97c2c0db743d749957d3c8809c336d01b42", func := "baize/baizelaw05.OnceKeys", spec := "onceKeys", unfollowed := true, recurses := true, apart := false }
def OnceKeysSaid : Prop := onceKeysRow.holds Try.pinned (OpenSpec.ofChange onceKeysSpec)

/-- ITS FALSE NEIGHBOUR: 'it returns false'. Refute it at one input. -/
def onceKeysWrong : ChangeSpec := { name := "onceKeys", fn := fun _ => fun
  | [d1, d2] => { results := [.lit (.bool false)], args := [d1, d2] }
  | _ => none }
def OnceKeysWrongFalsely : Prop := onceKeysRow.holds Try.pinned (OpenSpec.ofChange onceKeysWrong)

/-- 'baizelaw05.OnceSigns': WHATEVER THE INPUT: true; the input reads as it did. -/
def onceSignsSpec : ChangeSpec := { name := "onceSigns", fn := fun _ => fun
  | [d1, d2] => { results := [.lit (.bool true)], args := [d1, d2] }
  | _ => none }
def onceSignsRow : OpenClaim := { program := "ythdcfdfpfagamaa", sum := "8e68bd4b1975464ea65fad9f1277a97c2c0db743d749957d3c8809c336d01b42", func := "baize/baizelaw05.OnceSigns", spec := "onceSigns", unfollowed := true, recurses := true, apart := false }
def OnceSignsSaid : Prop := onceSignsRow.holds Try.pinned (OpenSpec.ofChange onceSignsSpec)

/-- ITS FALSE NEIGHBOUR: 'it returns false'. Refute it at one input. -/
def onceSignsWrong : ChangeSpec := { name := "onceSigns", fn := fun _ => fun
  | [d1, d2] => { results := [.lit (.bool false)], args := [d1, d2] }
  | _ => none }
def OnceSignsWrongFalsely : Prop := onceSignsRow.holds Try.pinned (OpenSpec.ofChange onceSignsWrong)

/-- 'baizelaw05.OnceDigits': WHATEVER THE INPUT: true; the input reads as it did. -/
def onceDigitsSpec : ChangeSpec := { name := "onceDigits", fn := fun _ => fun
  | [d] => { results := [.lit (.bool true)], args := [d] }
  | _ => none }
def onceDigitsRow : OpenClaim := { program := "ythdcfdfpfagamaa", sum := "8e68bd4b1975464ea65fad9f1277a97c2c0db743d749957d3c8809c336d01b42", func := "baize/baizelaw05.OnceDigits", spec := "onceDigits", unfollowed := true, recurses := true, apart := false }
def OnceDigitsSaid : Prop := onceDigitsRow.holds Try.pinned (OpenSpec.ofChange onceDigitsSpec)

/-- ITS FALSE NEIGHBOUR: 'it returns false'. Refute it at one input. -/
def onceDigitsWrong : ChangeSpec := { name := "onceDigits", fn := fun _ => fun
  | [d] => { results := [.lit (.bool false)], args := [d] }
  | _ => none }
def OnceDigitsWrongFalsely : Prop := onceDigitsRow.holds Try.pinned (OpenSpec.ofChange onceDigitsWrong)

/-- 'baizelaw05.OnceMixes': WHATEVER THE INPUT: true; the input reads as it did. -/
def onceMixesSpec : ChangeSpec := { name := "onceMixes", fn := fun _ => fun
  | [d1, d2, d3, d4, d5] => { results := [.lit (.bool true)], args := [d1, d2, d3, d4, d5] }
  | _ => none }
def onceMixesRow : OpenClaim := { program := "ythdcfdfpfagamaa", sum := "8e68bd4b1975464ea65fad9f1277a97c2c0db743d749957d3c8809c336d01b42", func := "baize/baizelaw05.OnceMixes", spec := "onceMixes", unfollowed := true, recurses := true, apart := false }
def OnceMixesSaid : Prop := onceMixesRow.holds Try.pinned (OpenSpec.ofChange onceMixesSpec)

/-- ITS FALSE NEIGHBOUR: 'it returns false'. Refute it at one input. -/
def onceMixesWrong : ChangeSpec := { name := "onceMixes", fn := fun _ => fun
  | [d1, d2, d3, d4, d5] => { results := [.lit (.bool false)], args := [d1, d2, d3, d4, d5] }
  | _ => none }
def OnceMixesWrongFalsely : Prop := onceMixesRow.holds Try.pinned (OpenSpec.ofChange onceMixesWrong)

/-- 'baizelaw05.OnceApart': WHATEVER THE INPUT: true; the input reads as it did. -/
def onceApartSpec : ChangeSpec := { name := "onceApart", fn := fun _ => fun
  | [d1, d2, d3] => { results := [.lit (.bool true)], args := [d1, d2, d3] }
  | _ => none }
def onceApartRow : OpenClaim := { program := "ythdcfdfpfagamaa", sum := "8e68bd4b1975464ea65fad9f1277a97c2c0db743d749957d3c8809c336d01b42", func := "baize/baizelaw05.OnceApart", spec := "onceApart", unfollowed := true, recurses := true, apart := false }
def OnceApartSaid : Prop := onceApartRow.holds Try.pinned (OpenSpec.ofChange onceApartSpec)

/-- ITS FALSE NEIGHBOUR: 'it returns false'. Refute it at one input. -/
def onceApartWrong : ChangeSpec := { name := "onceApart", fn := fun _ => fun
  | [d1, d2, d3] => { results := [.lit (.bool false)], args := [d1, d2, d3] }
  | _ => none }
def OnceApartWrongFalsely : Prop := onceApartRow.holds Try.pinned (OpenSpec.ofChange onceApartWrong)

/-- 'baizelaw05.OnceTells': WHATEVER THE INPUT: true; the input reads as it did. -/
def onceTellsSpec : ChangeSpec := { name := "onceTells", fn := fun _ => fun
  | [d1, d2, d3, d4] => { results := [.lit (.bool true)], args := [d1, d2, d3, d4] }
  | _ => none }
def onceTellsRow : OpenClaim := { program := "ythdcfdfpfagamaa", sum := "8e68bd4b1975464ea65fad9f1277a97c2c0db743d749957d3c8809c336d01b42", func := "baize/baizelaw05.OnceTells", spec := "onceTells", unfollowed := true, recurses := true, apart := false }
def OnceTellsSaid : Prop := onceTellsRow.holds Try.pinned (OpenSpec.ofChange onceTellsSpec)

/-- ITS FALSE NEIGHBOUR: 'it returns false'. Refute it at one input. -/
def onceTellsWrong : ChangeSpec := { name := "onceTells", fn := fun _ => fun
  | [d1, d2, d3, d4] => { results := [.lit (.bool false)], args := [d1, d2, d3, d4] }
  | _ => none }
def OnceTellsWrongFalsely : Prop := onceTellsRow.holds Try.pinned (OpenSpec.ofChange onceTellsWrong)

/-- 'baizelaw05.OnceShows': WHATEVER THE INPUT: true; the input reads as it did. -/
def onceShowsSpec : ChangeSpec := { name := "onceShows", fn := fun _ => fun
  | [d1, d2, d3] => { results := [.lit (.bool true)], args := [d1, d2, d3] }
  | _ => none }
def onceShowsRow : OpenClaim := { program := "ythdcfdfpfagamaa", sum := "8e68bd4b1975464ea65fad9f1277a97c2c0db743d749957d3c8809c336d01b42", func := "baize/baizelaw05.OnceShows", spec := "onceShows", unfollowed := true, recurses := true, apart := false }
def OnceShowsSaid : Prop := onceShowsRow.holds Try.pinned (OpenSpec.ofChange onceShowsSpec)

/-- ITS FALSE NEIGHBOUR: 'it returns false'. Refute it at one input. -/
def onceShowsWrong : ChangeSpec := { name := "onceShows", fn := fun _ => fun
  | [d1, d2, d3] => { results := [.lit (.bool false)], args := [d1, d2, d3] }
  | _ => none }
def OnceShowsWrongFalsely : Prop := onceShowsRow.holds Try.pinned (OpenSpec.ofChange onceShowsWrong)

/-- 'baizelaw08.VeilCommits': WHATEVER THE INPUT: true; the input reads as it did. -/
def veilCommitsSpec : ChangeSpec := { name := "veilCommits", fn := fun _ => fun
  | [d1, d2, d3] => { results := [.lit (.bool true)], args := [d1, d2, d3] }
  | _ => none }
def veilCommitsRow : OpenClaim := { program := "ythdcfdfpfagamaa", sum := "8e68bd4b1975464ea65fad9f1277a97c2c0db743d749957d3c8809c336d01b42", func := "baize/baizelaw08.VeilCommits", spec := "veilCommits", apart := false }
def VeilCommitsSaid : Prop := veilCommitsRow.holds Try.pinned (OpenSpec.ofChange veilCommitsSpec)

/-- ITS FALSE NEIGHBOUR: 'it returns false'. Refute it at one input. -/
def veilCommitsWrong : ChangeSpec := { name := "veilCommits", fn := fun _ => fun
  | [d1, d2, d3] => { results := [.lit (.bool false)], args := [d1, d2, d3] }
  | _ => none }
def VeilCommitsWrongFalsely : Prop := veilCommitsRow.holds Try.pinned (OpenSpec.ofChange veilCommitsWrong)

/-- 'baizelaw08.VeilSeals': WHATEVER THE INPUT: true; the input reads as it did. -/
def veilSealsSpec : ChangeSpec := { name := "veilSeals", fn := fun _ => fun
  | [d1, d2] => { results := [.lit (.bool true)], args := [d1, d2] }
  | _ => none }
def veilSealsRow : OpenClaim := { program := "ythdcfdfpfagamaa", sum := "8e68bd4b1975464ea65fad9f1277a97c2c0db743d749957d3c8809c336d01b42", func := "baize/baizelaw08.VeilSeals", spec := "veilSeals", apart := false }
def VeilSealsSaid : Prop := veilSealsRow.holds Try.pinned (OpenSpec.ofChange veilSealsSpec)

/-- ITS FALSE NEIGHBOUR: 'it returns false'. Refute it at one input. -/
def veilSealsWrong : ChangeSpec := { name := "veilSeals", fn := fun _ => fun
  | [d1, d2] => { results := [.lit (.bool false)], args := [d1, d2] }
  | _ => none }
def VeilSealsWrongFalsely : Prop := veilSealsRow.holds Try.pinned (OpenSpec.ofChange veilSealsWrong)

/-- 'baizelaw08.VeilOpens': WHATEVER THE INPUT: true; the input reads as it did. -/
def veilOpensSpec : ChangeSpec := { name := "veilOpens", fn := fun _ => fun
  | [d1, d2] => { results := [.lit (.bool true)], args := [d1, d2] }
  | _ => none }
def veilOpensRow : OpenClaim := { program := "ythdcfdfpfagamaa", sum := "8e68bd4b1975464ea65fad9f1277a97c2c0db743d749957d3c8809c336d01b42", func := "baize/baizelaw08.VeilOpens", spec := "veilOpens", apart := false }
def VeilOpensSaid : Prop := veilOpensRow.holds Try.pinned (OpenSpec.ofChange veilOpensSpec)

/-- ITS FALSE NEIGHBOUR: 'it returns false'. Refute it at one input. -/
def veilOpensWrong : ChangeSpec := { name := "veilOpens", fn := fun _ => fun
  | [d1, d2] => { results := [.lit (.bool false)], args := [d1, d2] }
  | _ => none }
def VeilOpensWrongFalsely : Prop := veilOpensRow.holds Try.pinned (OpenSpec.ofChange veilOpensWrong)

/-- 'baizelaw08.VeilKeys': WHATEVER THE INPUT: true; the input reads as it did. -/
def veilKeysSpec : ChangeSpec := { name := "veilKeys", fn := fun _ => fun
  | [d1, d2, d3] => { results := [.lit (.bool true)], args := [d1, d2, d3] }
  | _ => none }
def veilKeysRow : OpenClaim := { program := "ythdcfdfpfagamaa", sum := "8e68bd4b1975464ea65fad9f1277a97c2c0db743d749957d3c8809c336d01b42", func := "baize/baizelaw08.VeilKeys", spec := "veilKeys", apart := false }
def VeilKeysSaid : Prop := veilKeysRow.holds Try.pinned (OpenSpec.ofChange veilKeysSpec)

/-- ITS FALSE NEIGHBOUR: 'it returns false'. Refute it at one input. -/
def veilKeysWrong : ChangeSpec := { name := "veilKeys", fn := fun _ => fun
  | [d1, d2, d3] => { results := [.lit (.bool false)], args := [d1, d2, d3] }
  | _ => none }
def VeilKeysWrongFalsely : Prop := veilKeysRow.holds Try.pinned (OpenSpec.ofChange veilKeysWrong)

/-- 'baizelaw08.VeilLengths': WHATEVER THE INPUT: true; the input reads as it did. -/
def veilLengthsSpec : ChangeSpec := { name := "veilLengths", fn := fun _ => fun
  | [d1, d2, d3] => { results := [.lit (.bool true)], args := [d1, d2, d3] }
  | _ => none }
def veilLengthsRow : OpenClaim := { program := "ythdcfdfpfagamaa", sum := "8e68bd4b1975464ea65fad9f1277a97c2c0db743d749957d3c8809c336d01b42", func := "baize/baizelaw08.VeilLengths", spec := "veilLengths", apart := false }
def VeilLengthsSaid : Prop := veilLengthsRow.holds Try.pinned (OpenSpec.ofChange veilLengthsSpec)

/-- ITS FALSE NEIGHBOUR: 'it returns false'. Refute it at one input. -/
def veilLengthsWrong : ChangeSpec := { name := "veilLengths", fn := fun _ => fun
  | [d1, d2, d3] => { results := [.lit (.bool false)], args := [d1, d2, d3] }
  | _ => none }
def VeilLengthsWrongFalsely : Prop := veilLengthsRow.holds Try.pinned (OpenSpec.ofChange veilLengthsWrong)

/-- 'baizelaw08.VeilTurned': WHATEVER THE INPUT: true; the input reads as it did. -/
def veilTurnedSpec : ChangeSpec := { name := "veilTurned", fn := fun _ => fun
  | [d1, d2, d3] => { results := [.lit (.bool true)], args := [d1, d2, d3] }
  | _ => none }
def veilTurnedRow : OpenClaim := { program := "ythdcfdfpfagamaa", sum := "8e68bd4b1975464ea65fad9f1277a97c2c0db743d749957d3c8809c336d01b42", func := "baize/baizelaw08.VeilTurned", spec := "veilTurned", apart := false }
def VeilTurnedSaid : Prop := veilTurnedRow.holds Try.pinned (OpenSpec.ofChange veilTurnedSpec)

/-- ITS FALSE NEIGHBOUR: 'it returns false'. Refute it at one input. -/
def veilTurnedWrong : ChangeSpec := { name := "veilTurned", fn := fun _ => fun
  | [d1, d2, d3] => { results := [.lit (.bool false)], args := [d1, d2, d3] }
  | _ => none }
def VeilTurnedWrongFalsely : Prop := veilTurnedRow.holds Try.pinned (OpenSpec.ofChange veilTurnedWrong)

/-- 'baizelaw08.VeilLong': WHATEVER THE INPUT: true; the input reads as it did. -/
def veilLongSpec : ChangeSpec := { name := "veilLong", fn := fun _ => fun
  | [d1, d2] => { results := [.lit (.bool true)], args := [d1, d2] }
  | _ => none }
def veilLongRow : OpenClaim := { program := "ythdcfdfpfagamaa", sum := "8e68bd4b1975464ea65fad9f1277a97c2c0db743d749957d3c8809c336d01b42", func := "baize/baizelaw08.VeilLong", spec := "veilLong", apart := false }
def VeilLongSaid : Prop := veilLongRow.holds Try.pinned (OpenSpec.ofChange veilLongSpec)

/-- ITS FALSE NEIGHBOUR: 'it returns false'. Refute it at one input. -/
def veilLongWrong : ChangeSpec := { name := "veilLong", fn := fun _ => fun
  | [d1, d2] => { results := [.lit (.bool false)], args := [d1, d2] }
  | _ => none }
def VeilLongWrongFalsely : Prop := veilLongRow.holds Try.pinned (OpenSpec.ofChange veilLongWrong)

/-- 'baizelaw08.VeilOwn': WHATEVER THE INPUT: true; the input reads as it did. -/
def veilOwnSpec : ChangeSpec := { name := "veilOwn", fn := fun _ => fun
  | [d1, d2, d3] => { results := [.lit (.bool true)], args := [d1, d2, d3] }
  | _ => none }
def veilOwnRow : OpenClaim := { program := "ythdcfdfpfagamaa", sum := "8e68bd4b1975464ea65fad9f1277a97c2c0db743d749957d3c8809c336d01b42", func := "baize/baizelaw08.VeilOwn", spec := "veilOwn", apart := false }
def VeilOwnSaid : Prop := veilOwnRow.holds Try.pinned (OpenSpec.ofChange veilOwnSpec)

/-- ITS FALSE NEIGHBOUR: 'it returns false'. Refute it at one input. -/
def veilOwnWrong : ChangeSpec := { name := "veilOwn", fn := fun _ => fun
  | [d1, d2, d3] => { results := [.lit (.bool false)], args := [d1, d2, d3] }
  | _ => none }
def VeilOwnWrongFalsely : Prop := veilOwnRow.holds Try.pinned (OpenSpec.ofChange veilOwnWrong)

/-- 'baizelaw05.OnceAhead': WHATEVER THE INPUT: true; the input reads as it did. -/
def onceAheadSpec : ChangeSpec := { name := "onceAhead", fn := fun _ => fun
  | [d1, d2] => { results := [.lit (.bool true)], args := [d1, d2] }
  | _ => none }
def onceAheadRow : OpenClaim := { program := "ythdcfdfpfagamaa", sum := "8e68bd4b1975464ea65fad9f1277a97c2c0db743d749957d3c8809c336d01b42", func := "baize/baizelaw05.OnceAhead", spec := "onceAhead", unfollowed := true, recurses := true, apart := false }
def OnceAheadSaid : Prop := onceAheadRow.holds Try.pinned (OpenSpec.ofChange onceAheadSpec)

/-- ITS FALSE NEIGHBOUR: 'it returns false'. Refute it at one input. -/
def onceAheadWrong : ChangeSpec := { name := "onceAhead", fn := fun _ => fun
  | [d1, d2] => { results := [.lit (.bool false)], args := [d1, d2] }
  | _ => none }
def OnceAheadWrongFalsely : Prop := onceAheadRow.holds Try.pinned (OpenSpec.ofChange onceAheadWrong)

/- THE SECOND FORM. 'bulk': how many values and letters a reading holds, each counted each time it is reached (what is shared counts as often as it is met; a slice's spare places count too). A statement '..UptoSaid' is the law's where the arguments, and the package variables that the reading takes, are together of bulk at most 1048576: NARROWER than '..Said'. Prove '..Said' where nothing that the law and all that it calls make is longer than what came in: it says more and counts as full. Else prove '..UptoSaid'. A law counts once. -/
mutual
def uptoBulk {H : Type} : DataW H → Nat
  | .lit (.string bytes) => bytes.length + 1
  | .lit _ => 1
  | .nil => 1
  | .ptr d => uptoBulk d + 1
  | .slice elems spare => uptoBulkAll elems + uptoBulkAll spare + 1
  | .agg parts => uptoBulkAll parts + 1
  | .iface _ d => uptoBulk d + 1
  | .map entries => uptoBulkEntries entries + 1
  | .held _ => 1
def uptoBulkAll {H : Type} : List (DataW H) → Nat
  | [] => 0
  | d :: r => uptoBulk d + uptoBulkAll r
def uptoBulkEntries {H : Type} : List (Lit × DataW H) → Nat
  | [] => 0
  | x :: r => uptoBulkEntry x + uptoBulkEntries r
def uptoBulkEntry {H : Type} : Lit × DataW H → Nat
  | (.string bytes, d) => bytes.length + uptoBulk d + 1
  | (_, d) => uptoBulk d + 1
 end
def uptoSmall : (H : Type) → List (DataW H) → Bool := fun _ ds => decide (uptoBulkAll ds ≤ 1048576)
def OpenSpec.upto (s : _root_.Go.ChangeSpec) : _root_.Go.OpenSpec := { _root_.Go.OpenSpec.ofChange s with cond := some uptoSmall }

/-- 'baizelaw05.OnceKeys', WHERE WHAT IT READS IS OF BULK AT MOST 1048576: true; the input reads as it did. -/
def onceKeysUptoRow : OpenClaim := { program := "ythdcfdfpfagamaa", sum := "8e68bd4b1975464ea65fad9f1277a97c2c0db743d749957d3c8809c336d01b42", func := "baize/baizelaw05.OnceKeys", spec := "onceKeys", unfollowed := true, recurses := true, apart := false, narrowed := true }
def OnceKeysUptoSaid : Prop := onceKeysUptoRow.holds Try.pinned (OpenSpec.upto onceKeysSpec)

/-- 'baizelaw05.OnceSigns', WHERE WHAT IT READS IS OF BULK AT MOST 1048576: true; the input reads as it did. -/
def onceSignsUptoRow : OpenClaim := { program := "ythdcfdfpfagamaa", sum := "8e68bd4b1975464ea65fad9f1277a97c2c0db743d749957d3c8809c336d01b42", func := "baize/baizelaw05.OnceSigns", spec := "onceSigns", unfollowed := true, recurses := true, apart := false, narrowed := true }
def OnceSignsUptoSaid : Prop := onceSignsUptoRow.holds Try.pinned (OpenSpec.upto onceSignsSpec)

/-- 'baizelaw05.OnceDigits', WHERE WHAT IT READS IS OF BULK AT MOST 1048576: true; the input reads as it did. -/
def onceDigitsUptoRow : OpenClaim := { program := "ythdcfdfpfagamaa", sum := "8e68bd4b1975464ea65fad9f1277a97c2c0db743d749957d3c8809c336d01b42", func := "baize/baizelaw05.OnceDigits", spec := "onceDigits", unfollowed := true, recurses := true, apart := false, narrowed := true }
def OnceDigitsUptoSaid : Prop := onceDigitsUptoRow.holds Try.pinned (OpenSpec.upto onceDigitsSpec)

/-- 'baizelaw05.OnceMixes', WHERE WHAT IT READS IS OF BULK AT MOST 1048576: true; the input reads as it did. -/
def onceMixesUptoRow : OpenClaim := { program := "ythdcfdfpfagamaa", sum := "8e68bd4b1975464ea65fad9f1277a97c2c0db743d749957d3c8809c336d01b42", func := "baize/baizelaw05.OnceMixes", spec := "onceMixes", unfollowed := true, recurses := true, apart := false, narrowed := true }
def OnceMixesUptoSaid : Prop := onceMixesUptoRow.holds Try.pinned (OpenSpec.upto onceMixesSpec)

/-- 'baizelaw05.OnceApart', WHERE WHAT IT READS IS OF BULK AT MOST 1048576: true; the input reads as it did. -/
def onceApartUptoRow : OpenClaim := { program := "ythdcfdfpfagamaa", sum := "8e68bd4b1975464ea65fad9f1277a97c2c0db743d749957d3c8809c336d01b42", func := "baize/baizelaw05.OnceApart", spec := "onceApart", unfollowed := true, recurses := true, apart := false, narrowed := true }
def OnceApartUptoSaid : Prop := onceApartUptoRow.holds Try.pinned (OpenSpec.upto onceApartSpec)

/-- 'baizelaw05.OnceTells', WHERE WHAT IT READS IS OF BULK AT MOST 1048576: true; the input reads as it did. -/
def onceTellsUptoRow : OpenClaim := { program := "ythdcfdfpfagamaa", sum := "8e68bd4b1975464ea65fad9f1277a97c2c0db743d749957d3c8809c336d01b42", func := "baize/baizelaw05.OnceTells", spec := "onceTells", unfollowed := true, recurses := true, apart := false, narrowed := true }
def OnceTellsUptoSaid : Prop := onceTellsUptoRow.holds Try.pinned (OpenSpec.upto onceTellsSpec)

/-- 'baizelaw05.OnceShows', WHERE WHAT IT READS IS OF BULK AT MOST 1048576: true; the input reads as it did. -/
def onceShowsUptoRow : OpenClaim := { program := "ythdcfdfpfagamaa", sum := "8e68bd4b1975464ea65fad9f1277a97c2c0db743d749957d3c8809c336d01b42", func := "baize/baizelaw05.OnceShows", spec := "onceShows", unfollowed := true, recurses := true, apart := false, narrowed := true }
def OnceShowsUptoSaid : Prop := onceShowsUptoRow.holds Try.pinned (OpenSpec.upto onceShowsSpec)

/-- 'baizelaw08.VeilCommits', WHERE WHAT IT READS IS OF BULK AT MOST 1048576: true; the input reads as it did. -/
def veilCommitsUptoRow : OpenClaim := { program := "ythdcfdfpfagamaa", sum := "8e68bd4b1975464ea65fad9f1277a97c2c0db743d749957d3c8809c336d01b42", func := "baize/baizelaw08.VeilCommits", spec := "veilCommits", apart := false, narrowed := true }
def VeilCommitsUptoSaid : Prop := veilCommitsUptoRow.holds Try.pinned (OpenSpec.upto veilCommitsSpec)

/-- 'baizelaw08.VeilSeals', WHERE WHAT IT READS IS OF BULK AT MOST 1048576: true; the input reads as it did. -/
def veilSealsUptoRow : OpenClaim := { program := "ythdcfdfpfagamaa", sum := "8e68bd4b1975464ea65fad9f1277a97c2c0db743d749957d3c8809c336d01b42", func := "baize/baizelaw08.VeilSeals", spec := "veilSeals", apart := false, narrowed := true }
def VeilSealsUptoSaid : Prop := veilSealsUptoRow.holds Try.pinned (OpenSpec.upto veilSealsSpec)

/-- 'baizelaw08.VeilOpens', WHERE WHAT IT READS IS OF BULK AT MOST 1048576: true; the input reads as it did. -/
def veilOpensUptoRow : OpenClaim := { program := "ythdcfdfpfagamaa", sum := "8e68bd4b1975464ea65fad9f1277a97c2c0db743d749957d3c8809c336d01b42", func := "baize/baizelaw08.VeilOpens", spec := "veilOpens", apart := false, narrowed := true }
def VeilOpensUptoSaid : Prop := veilOpensUptoRow.holds Try.pinned (OpenSpec.upto veilOpensSpec)

/-- 'baizelaw08.VeilKeys', WHERE WHAT IT READS IS OF BULK AT MOST 1048576: true; the input reads as it did. -/
def veilKeysUptoRow : OpenClaim := { program := "ythdcfdfpfagamaa", sum := "8e68bd4b1975464ea65fad9f1277a97c2c0db743d749957d3c8809c336d01b42", func := "baize/baizelaw08.VeilKeys", spec := "veilKeys", apart := false, narrowed := true }
def VeilKeysUptoSaid : Prop := veilKeysUptoRow.holds Try.pinned (OpenSpec.upto veilKeysSpec)

/-- 'baizelaw08.VeilLengths', WHERE WHAT IT READS IS OF BULK AT MOST 1048576: true; the input reads as it did. -/
def veilLengthsUptoRow : OpenClaim := { program := "ythdcfdfpfagamaa", sum := "8e68bd4b1975464ea65fad9f1277a97c2c0db743d749957d3c8809c336d01b42", func := "baize/baizelaw08.VeilLengths", spec := "veilLengths", apart := false, narrowed := true }
def VeilLengthsUptoSaid : Prop := veilLengthsUptoRow.holds Try.pinned (OpenSpec.upto veilLengthsSpec)

/-- 'baizelaw08.VeilTurned', WHERE WHAT IT READS IS OF BULK AT MOST 1048576: true; the input reads as it did. -/
def veilTurnedUptoRow : OpenClaim := { program := "ythdcfdfpfagamaa", sum := "8e68bd4b1975464ea65fad9f1277a97c2c0db743d749957d3c8809c336d01b42", func := "baize/baizelaw08.VeilTurned", spec := "veilTurned", apart := false, narrowed := true }
def VeilTurnedUptoSaid : Prop := veilTurnedUptoRow.holds Try.pinned (OpenSpec.upto veilTurnedSpec)

/-- 'baizelaw08.VeilLong', WHERE WHAT IT READS IS OF BULK AT MOST 1048576: true; the input reads as it did. -/
def veilLongUptoRow : OpenClaim := { program := "ythdcfdfpfagamaa", sum := "8e68bd4b1975464ea65fad9f1277a97c2c0db743d749957d3c8809c336d01b42", func := "baize/baizelaw08.VeilLong", spec := "veilLong", apart := false, narrowed := true }
def VeilLongUptoSaid : Prop := veilLongUptoRow.holds Try.pinned (OpenSpec.upto veilLongSpec)

/-- 'baizelaw08.VeilOwn', WHERE WHAT IT READS IS OF BULK AT MOST 1048576: true; the input reads as it did. -/
def veilOwnUptoRow : OpenClaim := { program := "ythdcfdfpfagamaa", sum := "8e68bd4b1975464ea65fad9f1277a97c2c0db743d749957d3c8809c336d01b42", func := "baize/baizelaw08.VeilOwn", spec := "veilOwn", apart := false, narrowed := true }
def VeilOwnUptoSaid : Prop := veilOwnUptoRow.holds Try.pinned (OpenSpec.upto veilOwnSpec)

/-- 'baizelaw05.OnceAhead', WHERE WHAT IT READS IS OF BULK AT MOST 1048576: true; the input reads as it did. -/
def onceAheadUptoRow : OpenClaim := { program := "ythdcfdfpfagamaa", sum := "8e68bd4b1975464ea65fad9f1277a97c2c0db743d749957d3c8809c336d01b42", func := "baize/baizelaw05.OnceAhead", spec := "onceAhead", unfollowed := true, recurses := true, apart := false, narrowed := true }
def OnceAheadUptoSaid : Prop := onceAheadUptoRow.holds Try.pinned (OpenSpec.upto onceAheadSpec)

end Rows
end Go.Proofs.Ythdcfdfpfagamaa
