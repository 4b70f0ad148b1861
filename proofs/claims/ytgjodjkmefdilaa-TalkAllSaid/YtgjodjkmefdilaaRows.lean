/-
  No cell of these rows narrows 'for every input' (looked for: loops, veiled, ifaces, maps, wideKeys, modest, calm, conditions, laid).
  DERIVED. THE GIVEN ROWS OF THIS SEAT. 8 by the template 'for every input the law returns true; each argument reads behind the call as it read before'; 0 by the template 'total and deterministic' (their statements: YtgjodjkmefdilaaTotals.lean).
  GIVEN WITH THE SEED: the statements are not yours to turn. If you find one false, say at which input.
  Laid BY PROGRAM, IN A SANDBOX (cutbox-rows.mjs): the forced cells as the released guide's own fill.sh prints them over the translation 4b72cdf304717952… (all of the seat's roots in one cut). By AI agents, Wed Nov 11 2026. No macro, syntax, notation, axiom, sorry.
-/
import Derived.Test.YtgjodjkmefdilaaChecked
import GoSem.Claim
import GoSem.ClaimJoined
import GoSem.ClaimMapViews
import Derived.JoinedTies
import Derived.KernelRfl
namespace Go.Proofs.Ytgjodjkmefdilaa
/- THE CELL 'sum', in the pinned program and in every row, IS THE sha256 OF THE DUMP (.gsa) THAT YtgjodjkmefdilaaProg.lean LOADS. Nothing in Lean hashes anything: it is a label: what it is worth is what the hold of that sum in a sandbox is worth. -/
noncomputable def Try.pinned : Pinned := { name := "ytgjodjkmefdilaa", sum := "4b72cdf304717952564eefeae6ee6a0e00403715660d0404f11757ca2d2e023b", checked := Try.checked }
namespace Rows
def none {H : Type} : Left H := { results := [], args := [] }

/-- 'baizelaw44.TalkActs': WHATEVER THE INPUT: true; the input reads as it did. -/
def talkActsSpec : ChangeSpec := { name := "talkActs", fn := fun _ => fun
  | [d1, d2] => { results := [.lit (.bool true)], args := [d1, d2] }
  | _ => none }
def talkActsRow : OpenClaim := { program := "ytgjodjkmefdilaa", sum := "4b72cdf304717952564eefeae6ee6a0e00403715660d0404f11757ca2d2e023b", func := "baize/baizelaw44.TalkActs", spec := "talkActs", unfollowed := true, recurses := true, apart := false }
def TalkActsSaid : Prop := talkActsRow.holds Try.pinned (OpenSpec.ofChange talkActsSpec)

/-- ITS FALSE NEIGHBOUR: 'it returns false'. Refute it at one input. -/
def talkActsWrong : ChangeSpec := { name := "talkActs", fn := fun _ => fun
  | [d1, d2] => { results := [.lit (.bool false)], args := [d1, d2] }
  | _ => none }
def TalkActsWrongFalsely : Prop := talkActsRow.holds Try.pinned (OpenSpec.ofChange talkActsWrong)

/-- 'baizelaw44.TalkOnce': WHATEVER THE INPUT: true; the input reads as it did. -/
def talkOnceSpec : ChangeSpec := { name := "talkOnce", fn := fun _ => fun
  | [d1, d2] => { results := [.lit (.bool true)], args := [d1, d2] }
  | _ => none }
def talkOnceRow : OpenClaim := { program := "ytgjodjkmefdilaa", sum := "4b72cdf304717952564eefeae6ee6a0e00403715660d0404f11757ca2d2e023b", func := "baize/baizelaw44.TalkOnce", spec := "talkOnce", unfollowed := true, recurses := true, apart := false }
def TalkOnceSaid : Prop := talkOnceRow.holds Try.pinned (OpenSpec.ofChange talkOnceSpec)

/-- ITS FALSE NEIGHBOUR: 'it returns false'. Refute it at one input. -/
def talkOnceWrong : ChangeSpec := { name := "talkOnce", fn := fun _ => fun
  | [d1, d2] => { results := [.lit (.bool false)], args := [d1, d2] }
  | _ => none }
def TalkOnceWrongFalsely : Prop := talkOnceRow.holds Try.pinned (OpenSpec.ofChange talkOnceWrong)

/-- 'baizelaw44.TalkAll': WHATEVER THE INPUT: true; the input reads as it did. -/
def talkAllSpec : ChangeSpec := { name := "talkAll", fn := fun _ => fun
  | [d1, d2] => { results := [.lit (.bool true)], args := [d1, d2] }
  | _ => none }
def talkAllRow : OpenClaim := { program := "ytgjodjkmefdilaa", sum := "4b72cdf304717952564eefeae6ee6a0e00403715660d0404f11757ca2d2e023b", func := "baize/baizelaw44.TalkAll", spec := "talkAll", unfollowed := true, recurses := true, apart := false }
def TalkAllSaid : Prop := talkAllRow.holds Try.pinned (OpenSpec.ofChange talkAllSpec)

/-- ITS FALSE NEIGHBOUR: 'it returns false'. Refute it at one input. -/
def talkAllWrong : ChangeSpec := { name := "talkAll", fn := fun _ => fun
  | [d1, d2] => { results := [.lit (.bool false)], args := [d1, d2] }
  | _ => none }
def TalkAllWrongFalsely : Prop := talkAllRow.holds Try.pinned (OpenSpec.ofChange talkAllWrong)

/-- 'baizelaw44.TalkAgain': WHATEVER THE INPUT: true; the input reads as it did. -/
def talkAgainSpec : ChangeSpec := { name := "talkAgain", fn := fun _ => fun
  | [d1, d2, d3] => { results := [.lit (.bool true)], args := [d1, d2, d3] }
  | _ => none }
def talkAgainRow : OpenClaim := { program := "ytgjodjkmefdilaa", sum := "4b72cdf304717952564eefeae6ee6a0e00403715660d0404f11757ca2d2e023b", func := "baize/baizelaw44.TalkAgain", spec := "talkAgain", unfollowed := true, recurses := true, apart := false }
def TalkAgainSaid : Prop := talkAgainRow.holds Try.pinned (OpenSpec.ofChange talkAgainSpec)

/-- ITS FALSE NEIGHBOUR: 'it returns false'. Refute it at one input. -/
def talkAgainWrong : ChangeSpec := { name := "talkAgain", fn := fun _ => fun
  | [d1, d2, d3] => { results := [.lit (.bool false)], args := [d1, d2, d3] }
  | _ => none }
def TalkAgainWrongFalsely : Prop := talkAgainRow.holds Try.pinned (OpenSpec.ofChange talkAgainWrong)

/-- 'baizelaw44.TalkStale': WHATEVER THE INPUT: true; the input reads as it did. -/
def talkStaleSpec : ChangeSpec := { name := "talkStale", fn := fun _ => fun
  | [d1, d2] => { results := [.lit (.bool true)], args := [d1, d2] }
  | _ => none }
def talkStaleRow : OpenClaim := { program := "ytgjodjkmefdilaa", sum := "4b72cdf304717952564eefeae6ee6a0e00403715660d0404f11757ca2d2e023b", func := "baize/baizelaw44.TalkStale", spec := "talkStale", unfollowed := true, recurses := true, apart := false }
def TalkStaleSaid : Prop := talkStaleRow.holds Try.pinned (OpenSpec.ofChange talkStaleSpec)

/-- ITS FALSE NEIGHBOUR: 'it returns false'. Refute it at one input. -/
def talkStaleWrong : ChangeSpec := { name := "talkStale", fn := fun _ => fun
  | [d1, d2] => { results := [.lit (.bool false)], args := [d1, d2] }
  | _ => none }
def TalkStaleWrongFalsely : Prop := talkStaleRow.holds Try.pinned (OpenSpec.ofChange talkStaleWrong)

/-- 'baizelaw44.TalkFull': WHATEVER THE INPUT: true; the input reads as it did. -/
def talkFullSpec : ChangeSpec := { name := "talkFull", fn := fun _ => fun
  | [d1, d2, d3] => { results := [.lit (.bool true)], args := [d1, d2, d3] }
  | _ => none }
def talkFullRow : OpenClaim := { program := "ytgjodjkmefdilaa", sum := "4b72cdf304717952564eefeae6ee6a0e00403715660d0404f11757ca2d2e023b", func := "baize/baizelaw44.TalkFull", spec := "talkFull", unfollowed := true, recurses := true, apart := false }
def TalkFullSaid : Prop := talkFullRow.holds Try.pinned (OpenSpec.ofChange talkFullSpec)

/-- ITS FALSE NEIGHBOUR: 'it returns false'. Refute it at one input. -/
def talkFullWrong : ChangeSpec := { name := "talkFull", fn := fun _ => fun
  | [d1, d2, d3] => { results := [.lit (.bool false)], args := [d1, d2, d3] }
  | _ => none }
def TalkFullWrongFalsely : Prop := talkFullRow.holds Try.pinned (OpenSpec.ofChange talkFullWrong)

/-- 'baizelaw44.TalkClones': WHATEVER THE INPUT: true; the input reads as it did. -/
def talkClonesSpec : ChangeSpec := { name := "talkClones", fn := fun _ => fun
  | [d1, d2, d3] => { results := [.lit (.bool true)], args := [d1, d2, d3] }
  | _ => none }
def talkClonesRow : OpenClaim := { program := "ytgjodjkmefdilaa", sum := "4b72cdf304717952564eefeae6ee6a0e00403715660d0404f11757ca2d2e023b", func := "baize/baizelaw44.TalkClones", spec := "talkClones", unfollowed := true, recurses := true, apart := false }
def TalkClonesSaid : Prop := talkClonesRow.holds Try.pinned (OpenSpec.ofChange talkClonesSpec)

/-- ITS FALSE NEIGHBOUR: 'it returns false'. Refute it at one input. -/
def talkClonesWrong : ChangeSpec := { name := "talkClones", fn := fun _ => fun
  | [d1, d2, d3] => { results := [.lit (.bool false)], args := [d1, d2, d3] }
  | _ => none }
def TalkClonesWrongFalsely : Prop := talkClonesRow.holds Try.pinned (OpenSpec.ofChange talkClonesWrong)

/-- 'baizelaw44.TalkNews': WHATEVER THE INPUT: true; the input reads as it did. -/
def talkNewsSpec : ChangeSpec := { name := "talkNews", fn := fun _ => fun
  | [d1, d2, d3] => { results := [.lit (.bool true)], args := [d1, d2, d3] }
  | _ => none }
def talkNewsRow : OpenClaim := { program := "ytgjodjkmefdilaa", sum := "4b72cdf304717952564eefeae6ee6a0e00403715660d0404f11757ca2d2e023b", func := "baize/baizelaw44.TalkNews", spec := "talkNews", unfollowed := true, recurses := true, apart := false }
def TalkNewsSaid : Prop := talkNewsRow.holds Try.pinned (OpenSpec.ofChange talkNewsSpec)

/-- ITS FALSE NEIGHBOUR: 'it returns false'. Refute it at one input. -/
def talkNewsWrong : ChangeSpec := { name := "talkNews", fn := fun _ => fun
  | [d1, d2, d3] => { results := [.lit (.bool false)], args := [d1, d2, d3] }
  | _ => none }
def TalkNewsWrongFalsely : Prop := talkNewsRow.holds Try.pinned (OpenSpec.ofChange talkNewsWrong)

/- THE SECOND FORM. 'bulk': how many values and letters a reading holds, each counted each time it is reached (what is shared counts as often as it is met; a slice's spare places count too). A statement '..UptoSaid' is the law's where the arguments, and the package variables that the reading takes, are together of bulk at most 1048576: NARROWER than '..Said'. Prove '..Said' where nothing that the law and all that it calls make is longer than what came in: it says more and counts as full. Else prove '..UptoSaid'. A law counts once. -/
mutual
def uptoBulk {H : Type} : DataW H → Nat
  | .lit (.string bytes) => bytes.length + 1
  | .lit _ => 1
  | .nil => 1
  | .ptr d => uptoBulk d + 1
  | .slice elems spare => uptoBulkAll elems + uptoBulkAll spare + 1
  | .agg parts => uptoBulkAll parts + 1
  | .iface _ d => uptoBulk d + 1
  | .map entries => uptoBulkEntries entries + 1
  | .held _ => 1
def uptoBulkAll {H : Type} : List (DataW H) → Nat
  | [] => 0
  | d :: r => uptoBulk d + uptoBulkAll r
def uptoBulkEntries {H : Type} : List (Lit × DataW H) → Nat
  | [] => 0
  | x :: r => uptoBulkEntry x + uptoBulkEntries r
def uptoBulkEntry {H : Type} : Lit × DataW H → Nat
  | (.string bytes, d) => bytes.length + uptoBulk d + 1
  | (_, d) => uptoBulk d + 1
 end
def uptoSmall : (H : Type) → List (DataW H) → Bool := fun _ ds => decide (uptoBulkAll ds ≤ 1048576)
def OpenSpec.upto (s : _root_.Go.ChangeSpec) : _root_.Go.OpenSpec := { _root_.Go.OpenSpec.ofChange s with cond := some uptoSmall }

/-- 'baizelaw44.TalkActs', WHERE WHAT IT READS IS OF BULK AT MOST 1048576: true; the input reads as it did. -/
def talkActsUptoRow : OpenClaim := { program := "ytgjodjkmefdilaa", sum := "4b72cdf304717952564eefeae6ee6a0e00403715660d0404f11757ca2d2e023b", func := "baize/baizelaw44.TalkActs", spec := "talkActs", unfollowed := true, recurses := true, apart := false, narrowed := true }
def TalkActsUptoSaid : Prop := talkActsUptoRow.holds Try.pinned (OpenSpec.upto talkActsSpec)

/-- 'baizelaw44.TalkOnce', WHERE WHAT IT READS IS OF BULK AT MOST 1048576: true; the input reads as it did. -/
def talkOnceUptoRow : OpenClaim := { program := "ytgjodjkmefdilaa", sum := "4b72cdf304717952564eefeae6ee6a0e00403715660d0404f11757ca2d2e023b", func := "baize/baizelaw44.TalkOnce", spec := "talkOnce", unfollowed := true, recurses := true, apart := false, narrowed := true }
def TalkOnceUptoSaid : Prop := talkOnceUptoRow.holds Try.pinned (OpenSpec.upto talkOnceSpec)

/-- 'baizelaw44.TalkAll', WHERE WHAT IT READS IS OF BULK AT MOST 1048576: true; the input reads as it did. -/
def talkAllUptoRow : OpenClaim := { program := "ytgjodjkmefdilaa", sum := "4b72cdf304717952564eefeae6ee6a0e00403715660d0404f11757ca2d2e023b", func := "baize/baizelaw44.TalkAll", spec := "talkAll", unfollowed := true, recurses := true, apart := false, narrowed := true }
def TalkAllUptoSaid : Prop := talkAllUptoRow.holds Try.pinned (OpenSpec.upto talkAllSpec)

/-- 'baizelaw44.TalkAgain', WHERE WHAT IT READS IS OF BULK AT MOST 1048576: true; the input reads as it did. -/
def talkAgainUptoRow : OpenClaim := { program := "ytgjodjkmefdilaa", sum := "4b72cdf304717952564eefeae6ee6a0e00403715660d0404f11757ca2d2e023b", func := "baize/baizelaw44.TalkAgain", spec := "talkAgain", unfollowed := true, recurses := true, apart := false, narrowed := true }
def TalkAgainUptoSaid : Prop := talkAgainUptoRow.holds Try.pinned (OpenSpec.upto talkAgainSpec)

/-- 'baizelaw44.TalkStale', WHERE WHAT IT READS IS OF BULK AT MOST 1048576: true; the input reads as it did. -/
def talkStaleUptoRow : OpenClaim := { program := "ytgjodjkmefdilaa", sum := "4b72cdf304717952564eefeae6ee6a0e00403715660d0404f11757ca2d2e023b", func := "baize/baizelaw44.TalkStale", spec := "talkStale", unfollowed := true, recurses := true, apart := false, narrowed := true }
def TalkStaleUptoSaid : Prop := talkStaleUptoRow.holds Try.pinned (OpenSpec.upto talkStaleSpec)

/-- 'baizelaw44.TalkFull', WHERE WHAT IT READS IS OF BULK AT MOST 1048576: true; the input reads as it did. -/
def talkFullUptoRow : OpenClaim := { program := "ytgjodjkmefdilaa", sum := "4b72cdf304717952564eefeae6ee6a0e00403715660d0404f11757ca2d2e023b", func := "baize/baizelaw44.TalkFull", spec := "talkFull", unfollowed := true, recurses := true, apart := false, narrowed := true }
def TalkFullUptoSaid : Prop := talkFullUptoRow.holds Try.pinned (OpenSpec.upto talkFullSpec)

/-- 'baizelaw44.TalkClones', WHERE WHAT IT READS IS OF BULK AT MOST 1048576: true; the input reads as it did. -/
def talkClonesUptoRow : OpenClaim := { program := "ytgjodjkmefdilaa", sum := "4b72cdf304717952564eefeae6ee6a0e00403715660d0404f11757ca2d2e023b", func := "baize/baizelaw44.TalkClones", spec := "talkClones", unfollowed := true, recurses := true, apart := false, narrowed := true }
def TalkClonesUptoSaid : Prop := talkClonesUptoRow.holds Try.pinned (OpenSpec.upto talkClonesSpec)

/-- 'baizelaw44.TalkNews', WHERE WHAT IT READS IS OF BULK AT MOST 1048576: true; the input reads as it did. -/
def talkNewsUptoRow : OpenClaim := { program := "ytgjodjkmefdilaa", sum := "4b72cdf304717952564eefeae6ee6a0e00403715660d0404f11757ca2d2e023b", func := "baize/baizelaw44.TalkNews", spec := "talkNews", unfollowed := true, recurses := true, apart := false, narrowed := true }
def TalkNewsUptoSaid : Prop := talkNewsUptoRow.holds Try.pinned (OpenSpec.upto talkNewsSpec)

end Rows
end Go.Proofs.Ytgjodjkmefdilaa
