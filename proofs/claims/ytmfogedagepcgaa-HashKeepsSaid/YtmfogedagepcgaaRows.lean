/-
  No cell of these rows narrows 'for every input' (looked for: loops, veiled, ifaces, maps, wideKeys, modest, calm, conditions, laid).
  DERIVED. THE GIVEN ROWS OF THIS SEAT. 16 by the template 'for every input the law returns true; each argument reads behind the call as it read before'; 0 by the template 'total and deterministic' (their statements: YtmfogedagepcgaaTotals.lean).
  GIVEN WITH THE SEED: the statements are not yours to turn. If you find one false, say at which input.
  Laid BY PROGRAM, IN A SANDBOX (cutbox-rows.mjs): the forced cells as the released guide's own fill.sh prints them over the translation 71d96882cb90d9e0… (all of the seat's roots in one cut). By AI agents, Wed Nov 11 2026. No macro, syntax, notation, axiom, sorry.
-/
import Derived.Test.YtmfogedagepcgaaChecked
import GoSem.Claim
import GoSem.ClaimJoined
import GoSem.ClaimMapViews
import Derived.JoinedTies
import Derived.KernelRfl
namespace Go.Proofs.Ytmfogedagepcgaa
/- THE CELL 'sum', in the pinned program and in every row, IS THE sha256 OF THE DUMP (.gsa) THAT YtmfogedagepcgaaProg.lean LOADS. Nothing in Lean hashes anything: it is a label: what it is worth is what the hold of that sum in a sandbox is worth. -/
noncomputable def Try.pinned : Pinned := { name := "ytmfogedagepcgaa", sum := "71d96882cb90d9e0540a6936e091bdf896e92b3b8737dec0048a2fe2797c377e", checked := Try.checked }
namespace Rows
def none {H : Type} : Left H := { results := [], args := [] }

/-- 'baizelaw18.ChanceOrder': WHATEVER THE INPUT: true; the input reads as it did. -/
def chanceOrderSpec : ChangeSpec := { name := "chanceOrder", fn := fun _ => fun
  | [d1, d2] => { results := [.lit (.bool true)], args := [d1, d2] }
  | _ => none }
def chanceOrderRow : OpenClaim := { program := "ytmfogedagepcgaa", sum := "71d96882cb90d9e0540a6936e091bdf896e92b3b8737dec0048a2fe2797c377e", func := "baize/baizelaw18.ChanceOrder", spec := "chanceOrder", unfollowed := true, recurses := true, apart := false }
def ChanceOrderSaid : Prop := chanceOrderRow.holds Try.pinned (OpenSpec.ofChange chanceOrderSpec)

/-- ITS FALSE NEIGHBOUR: 'it returns false'. Refute it at one input. -/
def chanceOrderWrong : ChangeSpec := { name := "chanceOrder", fn := fun _ => fun
  | [d1, d2] => { results := [.lit (.bool false)], args := [d1, d2] }
  | _ => none }
def ChanceOrderWrongFalsely : Prop := chanceOrderRow.holds Try.pinned (OpenSpec.ofChange chanceOrderWrong)

/-- 'baizelaw18.ChanceThrows': WHATEVER THE INPUT: true; the input reads as it did. -/
def chanceThrowsSpec : ChangeSpec := { name := "chanceThrows", fn := fun _ => fun
  | [d1, d2, d3] => { results := [.lit (.bool true)], args := [d1, d2, d3] }
  | _ => none }
def chanceThrowsRow : OpenClaim := { program := "ytmfogedagepcgaa", sum := "71d96882cb90d9e0540a6936e091bdf896e92b3b8737dec0048a2fe2797c377e", func := "baize/baizelaw18.ChanceThrows", spec := "chanceThrows", unfollowed := true, recurses := true, apart := false }
def ChanceThrowsSaid : Prop := chanceThrowsRow.holds Try.pinned (OpenSpec.ofChange chanceThrowsSpec)

/-- ITS FALSE NEIGHBOUR: 'it returns false'. Refute it at one input. -/
def chanceThrowsWrong : ChangeSpec := { name := "chanceThrows", fn := fun _ => fun
  | [d1, d2, d3] => { results := [.lit (.bool false)], args := [d1, d2, d3] }
  | _ => none }
def ChanceThrowsWrongFalsely : Prop := chanceThrowsRow.holds Try.pinned (OpenSpec.ofChange chanceThrowsWrong)

/-- 'baizelaw18.ChanceSwing': WHATEVER THE INPUT: true; the input reads as it did. -/
def chanceSwingSpec : ChangeSpec := { name := "chanceSwing", fn := fun _ => fun
  | [d1, d2, d3, d4] => { results := [.lit (.bool true)], args := [d1, d2, d3, d4] }
  | _ => none }
def chanceSwingRow : OpenClaim := { program := "ytmfogedagepcgaa", sum := "71d96882cb90d9e0540a6936e091bdf896e92b3b8737dec0048a2fe2797c377e", func := "baize/baizelaw18.ChanceSwing", spec := "chanceSwing", unfollowed := true, recurses := true, apart := false }
def ChanceSwingSaid : Prop := chanceSwingRow.holds Try.pinned (OpenSpec.ofChange chanceSwingSpec)

/-- ITS FALSE NEIGHBOUR: 'it returns false'. Refute it at one input. -/
def chanceSwingWrong : ChangeSpec := { name := "chanceSwing", fn := fun _ => fun
  | [d1, d2, d3, d4] => { results := [.lit (.bool false)], args := [d1, d2, d3, d4] }
  | _ => none }
def ChanceSwingWrongFalsely : Prop := chanceSwingRow.holds Try.pinned (OpenSpec.ofChange chanceSwingWrong)

/-- 'baizelaw18.ChanceEven': WHATEVER THE INPUT: true; the input reads as it did. -/
def chanceEvenSpec : ChangeSpec := { name := "chanceEven", fn := fun _ => fun
  | [d1, d2, d3] => { results := [.lit (.bool true)], args := [d1, d2, d3] }
  | _ => none }
def chanceEvenRow : OpenClaim := { program := "ytmfogedagepcgaa", sum := "71d96882cb90d9e0540a6936e091bdf896e92b3b8737dec0048a2fe2797c377e", func := "baize/baizelaw18.ChanceEven", spec := "chanceEven", unfollowed := true, recurses := true, apart := false }
def ChanceEvenSaid : Prop := chanceEvenRow.holds Try.pinned (OpenSpec.ofChange chanceEvenSpec)

/-- ITS FALSE NEIGHBOUR: 'it returns false'. Refute it at one input. -/
def chanceEvenWrong : ChangeSpec := { name := "chanceEven", fn := fun _ => fun
  | [d1, d2, d3] => { results := [.lit (.bool false)], args := [d1, d2, d3] }
  | _ => none }
def ChanceEvenWrongFalsely : Prop := chanceEvenRow.holds Try.pinned (OpenSpec.ofChange chanceEvenWrong)

/-- 'baizelaw18.ChanceTurned': WHATEVER THE INPUT: true; the input reads as it did. -/
def chanceTurnedSpec : ChangeSpec := { name := "chanceTurned", fn := fun _ => fun
  | [d1, d2, d3] => { results := [.lit (.bool true)], args := [d1, d2, d3] }
  | _ => none }
def chanceTurnedRow : OpenClaim := { program := "ytmfogedagepcgaa", sum := "71d96882cb90d9e0540a6936e091bdf896e92b3b8737dec0048a2fe2797c377e", func := "baize/baizelaw18.ChanceTurned", spec := "chanceTurned", unfollowed := true, recurses := true, apart := false }
def ChanceTurnedSaid : Prop := chanceTurnedRow.holds Try.pinned (OpenSpec.ofChange chanceTurnedSpec)

/-- ITS FALSE NEIGHBOUR: 'it returns false'. Refute it at one input. -/
def chanceTurnedWrong : ChangeSpec := { name := "chanceTurned", fn := fun _ => fun
  | [d1, d2, d3] => { results := [.lit (.bool false)], args := [d1, d2, d3] }
  | _ => none }
def ChanceTurnedWrongFalsely : Prop := chanceTurnedRow.holds Try.pinned (OpenSpec.ofChange chanceTurnedWrong)

/-- 'baizelaw02.HashNums': WHATEVER THE INPUT: true; the input reads as it did. -/
def hashNumsSpec : ChangeSpec := { name := "hashNums", fn := fun _ => fun
  | [d1, d2] => { results := [.lit (.bool true)], args := [d1, d2] }
  | _ => none }
def hashNumsRow : OpenClaim := { program := "ytmfogedagepcgaa", sum := "71d96882cb90d9e0540a6936e091bdf896e92b3b8737dec0048a2fe2797c377e", func := "baize/baizelaw02.HashNums", spec := "hashNums", apart := false }
def HashNumsSaid : Prop := hashNumsRow.holds Try.pinned (OpenSpec.ofChange hashNumsSpec)

/-- ITS FALSE NEIGHBOUR: 'it returns false'. Refute it at one input. -/
def hashNumsWrong : ChangeSpec := { name := "hashNums", fn := fun _ => fun
  | [d1, d2] => { results := [.lit (.bool false)], args := [d1, d2] }
  | _ => none }
def HashNumsWrongFalsely : Prop := hashNumsRow.holds Try.pinned (OpenSpec.ofChange hashNumsWrong)

/-- 'baizelaw02.HashChains': WHATEVER THE INPUT: true; the input reads as it did. -/
def hashChainsSpec : ChangeSpec := { name := "hashChains", fn := fun _ => fun
  | [d1, d2, d3, d4] => { results := [.lit (.bool true)], args := [d1, d2, d3, d4] }
  | _ => none }
def hashChainsRow : OpenClaim := { program := "ytmfogedagepcgaa", sum := "71d96882cb90d9e0540a6936e091bdf896e92b3b8737dec0048a2fe2797c377e", func := "baize/baizelaw02.HashChains", spec := "hashChains", apart := false }
def HashChainsSaid : Prop := hashChainsRow.holds Try.pinned (OpenSpec.ofChange hashChainsSpec)

/-- ITS FALSE NEIGHBOUR: 'it returns false'. Refute it at one input. -/
def hashChainsWrong : ChangeSpec := { name := "hashChains", fn := fun _ => fun
  | [d1, d2, d3, d4] => { results := [.lit (.bool false)], args := [d1, d2, d3, d4] }
  | _ => none }
def HashChainsWrongFalsely : Prop := hashChainsRow.holds Try.pinned (OpenSpec.ofChange hashChainsWrong)

/-- 'baizelaw02.HashStream': WHATEVER THE INPUT: true; the input reads as it did. -/
def hashStreamSpec : ChangeSpec := { name := "hashStream", fn := fun _ => fun
  | [d1, d2, d3, d4] => { results := [.lit (.bool true)], args := [d1, d2, d3, d4] }
  | _ => none }
def hashStreamRow : OpenClaim := { program := "ytmfogedagepcgaa", sum := "71d96882cb90d9e0540a6936e091bdf896e92b3b8737dec0048a2fe2797c377e", func := "baize/baizelaw02.HashStream", spec := "hashStream", apart := false }
def HashStreamSaid : Prop := hashStreamRow.holds Try.pinned (OpenSpec.ofChange hashStreamSpec)

/-- ITS FALSE NEIGHBOUR: 'it returns false'. Refute it at one input. -/
def hashStreamWrong : ChangeSpec := { name := "hashStream", fn := fun _ => fun
  | [d1, d2, d3, d4] => { results := [.lit (.bool false)], args := [d1, d2, d3, d4] }
  | _ => none }
def HashStreamWrongFalsely : Prop := hashStreamRow.holds Try.pinned (OpenSpec.ofChange hashStreamWrong)

/-- 'baizelaw02.HashPairs': WHATEVER THE INPUT: true; the input reads as it did. -/
def hashPairsSpec : ChangeSpec := { name := "hashPairs", fn := fun _ => fun
  | [d1, d2, d3] => { results := [.lit (.bool true)], args := [d1, d2, d3] }
  | _ => none }
def hashPairsRow : OpenClaim := { program := "ytmfogedagepcgaa", sum := "71d96882cb90d9e0540a6936e091bdf896e92b3b8737dec0048a2fe2797c377e", func := "baize/baizelaw02.HashPairs", spec := "hashPairs", apart := false }
def HashPairsSaid : Prop := hashPairsRow.holds Try.pinned (OpenSpec.ofChange hashPairsSpec)

/-- ITS FALSE NEIGHBOUR: 'it returns false'. Refute it at one input. -/
def hashPairsWrong : ChangeSpec := { name := "hashPairs", fn := fun _ => fun
  | [d1, d2, d3] => { results := [.lit (.bool false)], args := [d1, d2, d3] }
  | _ => none }
def HashPairsWrongFalsely : Prop := hashPairsRow.holds Try.pinned (OpenSpec.ofChange hashPairsWrong)

/-- 'baizelaw02.HashOf': WHATEVER THE INPUT: true; the input reads as it did. -/
def hashOfSpec : ChangeSpec := { name := "hashOf", fn := fun _ => fun
  | [d1, d2, d3] => { results := [.lit (.bool true)], args := [d1, d2, d3] }
  | _ => none }
def hashOfRow : OpenClaim := { program := "ytmfogedagepcgaa", sum := "71d96882cb90d9e0540a6936e091bdf896e92b3b8737dec0048a2fe2797c377e", func := "baize/baizelaw02.HashOf", spec := "hashOf", apart := false }
def HashOfSaid : Prop := hashOfRow.holds Try.pinned (OpenSpec.ofChange hashOfSpec)

/-- ITS FALSE NEIGHBOUR: 'it returns false'. Refute it at one input. -/
def hashOfWrong : ChangeSpec := { name := "hashOf", fn := fun _ => fun
  | [d1, d2, d3] => { results := [.lit (.bool false)], args := [d1, d2, d3] }
  | _ => none }
def HashOfWrongFalsely : Prop := hashOfRow.holds Try.pinned (OpenSpec.ofChange hashOfWrong)

/-- 'baizelaw02.HashPieces': WHATEVER THE INPUT: true; the input reads as it did. -/
def hashPiecesSpec : ChangeSpec := { name := "hashPieces", fn := fun _ => fun
  | [d] => { results := [.lit (.bool true)], args := [d] }
  | _ => none }
def hashPiecesRow : OpenClaim := { program := "ytmfogedagepcgaa", sum := "71d96882cb90d9e0540a6936e091bdf896e92b3b8737dec0048a2fe2797c377e", func := "baize/baizelaw02.HashPieces", spec := "hashPieces", apart := false }
def HashPiecesSaid : Prop := hashPiecesRow.holds Try.pinned (OpenSpec.ofChange hashPiecesSpec)

/-- ITS FALSE NEIGHBOUR: 'it returns false'. Refute it at one input. -/
def hashPiecesWrong : ChangeSpec := { name := "hashPieces", fn := fun _ => fun
  | [d] => { results := [.lit (.bool false)], args := [d] }
  | _ => none }
def HashPiecesWrongFalsely : Prop := hashPiecesRow.holds Try.pinned (OpenSpec.ofChange hashPiecesWrong)

/-- 'baizelaw02.HashSame': WHATEVER THE INPUT: true; the input reads as it did. -/
def hashSameSpec : ChangeSpec := { name := "hashSame", fn := fun _ => fun
  | [d1, d2, d3, d4] => { results := [.lit (.bool true)], args := [d1, d2, d3, d4] }
  | _ => none }
def hashSameRow : OpenClaim := { program := "ytmfogedagepcgaa", sum := "71d96882cb90d9e0540a6936e091bdf896e92b3b8737dec0048a2fe2797c377e", func := "baize/baizelaw02.HashSame", spec := "hashSame", apart := false }
def HashSameSaid : Prop := hashSameRow.holds Try.pinned (OpenSpec.ofChange hashSameSpec)

/-- ITS FALSE NEIGHBOUR: 'it returns false'. Refute it at one input. -/
def hashSameWrong : ChangeSpec := { name := "hashSame", fn := fun _ => fun
  | [d1, d2, d3, d4] => { results := [.lit (.bool false)], args := [d1, d2, d3, d4] }
  | _ => none }
def HashSameWrongFalsely : Prop := hashSameRow.holds Try.pinned (OpenSpec.ofChange hashSameWrong)

/-- 'baizelaw02.HashKeeps': WHATEVER THE INPUT: true; the input reads as it did. -/
def hashKeepsSpec : ChangeSpec := { name := "hashKeeps", fn := fun _ => fun
  | [d1, d2, d3] => { results := [.lit (.bool true)], args := [d1, d2, d3] }
  | _ => none }
def hashKeepsRow : OpenClaim := { program := "ytmfogedagepcgaa", sum := "71d96882cb90d9e0540a6936e091bdf896e92b3b8737dec0048a2fe2797c377e", func := "baize/baizelaw02.HashKeeps", spec := "hashKeeps", apart := false }
def HashKeepsSaid : Prop := hashKeepsRow.holds Try.pinned (OpenSpec.ofChange hashKeepsSpec)

/-- ITS FALSE NEIGHBOUR: 'it returns false'. Refute it at one input. -/
def hashKeepsWrong : ChangeSpec := { name := "hashKeeps", fn := fun _ => fun
  | [d1, d2, d3] => { results := [.lit (.bool false)], args := [d1, d2, d3] }
  | _ => none }
def HashKeepsWrongFalsely : Prop := hashKeepsRow.holds Try.pinned (OpenSpec.ofChange hashKeepsWrong)

/-- 'baizelaw18.ChanceChains': WHATEVER THE INPUT: true; the input reads as it did. -/
def chanceChainsSpec : ChangeSpec := { name := "chanceChains", fn := fun _ => fun
  | [d1, d2, d3, d4, d5] => { results := [.lit (.bool true)], args := [d1, d2, d3, d4, d5] }
  | _ => none }
def chanceChainsRow : OpenClaim := { program := "ytmfogedagepcgaa", sum := "71d96882cb90d9e0540a6936e091bdf896e92b3b8737dec0048a2fe2797c377e", func := "baize/baizelaw18.ChanceChains", spec := "chanceChains", unfollowed := true, recurses := true, apart := false }
def ChanceChainsSaid : Prop := chanceChainsRow.holds Try.pinned (OpenSpec.ofChange chanceChainsSpec)

/-- ITS FALSE NEIGHBOUR: 'it returns false'. Refute it at one input. -/
def chanceChainsWrong : ChangeSpec := { name := "chanceChains", fn := fun _ => fun
  | [d1, d2, d3, d4, d5] => { results := [.lit (.bool false)], args := [d1, d2, d3, d4, d5] }
  | _ => none }
def ChanceChainsWrongFalsely : Prop := chanceChainsRow.holds Try.pinned (OpenSpec.ofChange chanceChainsWrong)

/-- 'baizelaw18.ChanceFulfils': WHATEVER THE INPUT: true; the input reads as it did. -/
def chanceFulfilsSpec : ChangeSpec := { name := "chanceFulfils", fn := fun _ => fun
  | [d1, d2, d3] => { results := [.lit (.bool true)], args := [d1, d2, d3] }
  | _ => none }
def chanceFulfilsRow : OpenClaim := { program := "ytmfogedagepcgaa", sum := "71d96882cb90d9e0540a6936e091bdf896e92b3b8737dec0048a2fe2797c377e", func := "baize/baizelaw18.ChanceFulfils", spec := "chanceFulfils", unfollowed := true, recurses := true, apart := false }
def ChanceFulfilsSaid : Prop := chanceFulfilsRow.holds Try.pinned (OpenSpec.ofChange chanceFulfilsSpec)

/-- ITS FALSE NEIGHBOUR: 'it returns false'. Refute it at one input. -/
def chanceFulfilsWrong : ChangeSpec := { name := "chanceFulfils", fn := fun _ => fun
  | [d1, d2, d3] => { results := [.lit (.bool false)], args := [d1, d2, d3] }
  | _ => none }
def ChanceFulfilsWrongFalsely : Prop := chanceFulfilsRow.holds Try.pinned (OpenSpec.ofChange chanceFulfilsWrong)

/-- 'baizelaw18.ChanceSame': WHATEVER THE INPUT: true; the input reads as it did. -/
def chanceSameSpec : ChangeSpec := { name := "chanceSame", fn := fun _ => fun
  | [d1, d2, d3, d4, d5] => { results := [.lit (.bool true)], args := [d1, d2, d3, d4, d5] }
  | _ => none }
def chanceSameRow : OpenClaim := { program := "ytmfogedagepcgaa", sum := "71d96882cb90d9e0540a6936e091bdf896e92b3b8737dec0048a2fe2797c377e", func := "baize/baizelaw18.ChanceSame", spec := "chanceSame", unfollowed := true, recurses := true, apart := false }
def ChanceSameSaid : Prop := chanceSameRow.holds Try.pinned (OpenSpec.ofChange chanceSameSpec)

/-- ITS FALSE NEIGHBOUR: 'it returns false'. Refute it at one input. -/
def chanceSameWrong : ChangeSpec := { name := "chanceSame", fn := fun _ => fun
  | [d1, d2, d3, d4, d5] => { results := [.lit (.bool false)], args := [d1, d2, d3, d4, d5] }
  | _ => none }
def ChanceSameWrongFalsely : Prop := chanceSameRow.holds Try.pinned (OpenSpec.ofChange chanceSameWrong)

/- THE SECOND FORM. 'bulk': how many values and letters a reading holds, each counted each time it is reached (what is shared counts as often as it is met; a slice's spare places count too). A statement '..UptoSaid' is the law's where the arguments, and the package variables that the reading takes, are together of bulk at most 1048576: NARROWER than '..Said'. Prove '..Said' where nothing that the law and all that it calls make is longer than what came in: it says more and counts as full. Else prove '..UptoSaid'. A law counts once. -/
mutual
def uptoBulk {H : Type} : DataW H → Nat
  | .lit (.string bytes) => bytes.length + 1
  | .lit _ => 1
  | .nil => 1
  | .ptr d => uptoBulk d + 1
  | .slice elems spare => uptoBulkAll elems + uptoBulkAll spare + 1
  | .agg parts => uptoBulkAll parts + 1
  | .iface _ d => uptoBulk d + 1
  | .map entries => uptoBulkEntries entries + 1
  | .held _ => 1
def uptoBulkAll {H : Type} : List (DataW H) → Nat
  | [] => 0
  | d :: r => uptoBulk d + uptoBulkAll r
def uptoBulkEntries {H : Type} : List (Lit × DataW H) → Nat
  | [] => 0
  | x :: r => uptoBulkEntry x + uptoBulkEntries r
def uptoBulkEntry {H : Type} : Lit × DataW H → Nat
  | (.string bytes, d) => bytes.length + uptoBulk d + 1
  | (_, d) => uptoBulk d + 1
 end
def uptoSmall : (H : Type) → List (DataW H) → Bool := fun _ ds => decide (uptoBulkAll ds ≤ 1048576)
def OpenSpec.upto (s : _root_.Go.ChangeSpec) : _root_.Go.OpenSpec := { _root_.Go.OpenSpec.ofChange s with cond := some uptoSmall }

/-- 'baizelaw18.ChanceOrder', WHERE WHAT IT READS IS OF BULK AT MOST 1048576: true; the input reads as it did. -/
def chanceOrderUptoRow : OpenClaim := { program := "ytmfogedagepcgaa", sum := "71d96882cb90d9e0540a6936e091bdf896e92b3b8737dec0048a2fe2797c377e", func := "baize/baizelaw18.ChanceOrder", spec := "chanceOrder", unfollowed := true, recurses := true, apart := false, narrowed := true }
def ChanceOrderUptoSaid : Prop := chanceOrderUptoRow.holds Try.pinned (OpenSpec.upto chanceOrderSpec)

/-- 'baizelaw18.ChanceThrows', WHERE WHAT IT READS IS OF BULK AT MOST 1048576: true; the input reads as it did. -/
def chanceThrowsUptoRow : OpenClaim := { program := "ytmfogedagepcgaa", sum := "71d96882cb90d9e0540a6936e091bdf896e92b3b8737dec0048a2fe2797c377e", func := "baize/baizelaw18.ChanceThrows", spec := "chanceThrows", unfollowed := true, recurses := true, apart := false, narrowed := true }
def ChanceThrowsUptoSaid : Prop := chanceThrowsUptoRow.holds Try.pinned (OpenSpec.upto chanceThrowsSpec)

/-- 'baizelaw18.ChanceSwing', WHERE WHAT IT READS IS OF BULK AT MOST 1048576: true; the input reads as it did. -/
def chanceSwingUptoRow : OpenClaim := { program := "ytmfogedagepcgaa", sum := "71d96882cb90d9e0540a6936e091bdf896e92b3b8737dec0048a2fe2797c377e", func := "baize/baizelaw18.ChanceSwing", spec := "chanceSwing", unfollowed := true, recurses := true, apart := false, narrowed := true }
def ChanceSwingUptoSaid : Prop := chanceSwingUptoRow.holds Try.pinned (OpenSpec.upto chanceSwingSpec)

/-- 'baizelaw18.ChanceEven', WHERE WHAT IT READS IS OF BULK AT MOST 1048576: true; the input reads as it did. -/
def chanceEvenUptoRow : OpenClaim := { program := "ytmfogedagepcgaa", sum := "71d96882cb90d9e0540a6936e091bdf896e92b3b8737dec0048a2fe2797c377e", func := "baize/baizelaw18.ChanceEven", spec := "chanceEven", unfollowed := true, recurses := true, apart := false, narrowed := true }
def ChanceEvenUptoSaid : Prop := chanceEvenUptoRow.holds Try.pinned (OpenSpec.upto chanceEvenSpec)

/-- 'baizelaw18.ChanceTurned', WHERE WHAT IT READS IS OF BULK AT MOST 1048576: true; the input reads as it did. -/
def chanceTurnedUptoRow : OpenClaim := { program := "ytmfogedagepcgaa", sum := "71d96882cb90d9e0540a6936e091bdf896e92b3b8737dec0048a2fe2797c377e", func := "baize/baizelaw18.ChanceTurned", spec := "chanceTurned", unfollowed := true, recurses := true, apart := false, narrowed := true }
def ChanceTurnedUptoSaid : Prop := chanceTurnedUptoRow.holds Try.pinned (OpenSpec.upto chanceTurnedSpec)

/-- 'baizelaw02.HashNums', WHERE WHAT IT READS IS OF BULK AT MOST 1048576: true; the input reads as it did. -/
def hashNumsUptoRow : OpenClaim := { program := "ytmfogedagepcgaa", sum := "71d96882cb90d9e0540a6936e091bdf896e92b3b8737dec0048a2fe2797c377e", func := "baize/baizelaw02.HashNums", spec := "hashNums", apart := false, narrowed := true }
def HashNumsUptoSaid : Prop := hashNumsUptoRow.holds Try.pinned (OpenSpec.upto hashNumsSpec)

/-- 'baizelaw02.HashChains', WHERE WHAT IT READS IS OF BULK AT MOST 1048576: true; the input reads as it did. -/
def hashChainsUptoRow : OpenClaim := { program := "ytmfogedagepcgaa", sum := "71d96882cb90d9e0540a6936e091bdf896e92b3b8737dec0048a2fe2797c377e", func := "baize/baizelaw02.HashChains", spec := "hashChains", apart := false, narrowed := true }
def HashChainsUptoSaid : Prop := hashChainsUptoRow.holds Try.pinned (OpenSpec.upto hashChainsSpec)

/-- 'baizelaw02.HashStream', WHERE WHAT IT READS IS OF BULK AT MOST 1048576: true; the input reads as it did. -/
def hashStreamUptoRow : OpenClaim := { program := "ytmfogedagepcgaa", sum := "71d96882cb90d9e0540a6936e091bdf896e92b3b8737dec0048a2fe2797c377e", func := "baize/baizelaw02.HashStream", spec := "hashStream", apart := false, narrowed := true }
def HashStreamUptoSaid : Prop := hashStreamUptoRow.holds Try.pinned (OpenSpec.upto hashStreamSpec)

/-- 'baizelaw02.HashPairs', WHERE WHAT IT READS IS OF BULK AT MOST 1048576: true; the input reads as it did. -/
def hashPairsUptoRow : OpenClaim := { program := "ytmfogedagepcgaa", sum := "71d96882cb90d9e0540a6936e091bdf896e92b3b8737dec0048a2fe2797c377e", func := "baize/baizelaw02.HashPairs", spec := "hashPairs", apart := false, narrowed := true }
def HashPairsUptoSaid : Prop := hashPairsUptoRow.holds Try.pinned (OpenSpec.upto hashPairsSpec)

/-- 'baizelaw02.HashOf', WHERE WHAT IT READS IS OF BULK AT MOST 1048576: true; the input reads as it did. -/
def hashOfUptoRow : OpenClaim := { program := "ytmfogedagepcgaa", sum := "71d96882cb90d9e0540a6936e091bdf896e92b3b8737dec0048a2fe2797c377e", func := "baize/baizelaw02.HashOf", spec := "hashOf", apart := false, narrowed := true }
def HashOfUptoSaid : Prop := hashOfUptoRow.holds Try.pinned (OpenSpec.upto hashOfSpec)

/-- 'baizelaw02.HashPieces', WHERE WHAT IT READS IS OF BULK AT MOST 1048576: true; the input reads as it did. -/
def hashPiecesUptoRow : OpenClaim := { program := "ytmfogedagepcgaa", sum := "71d96882cb90d9e0540a6936e091bdf896e92b3b8737dec0048a2fe2797c377e", func := "baize/baizelaw02.HashPieces", spec := "hashPieces", apart := false, narrowed := true }
def HashPiecesUptoSaid : Prop := hashPiecesUptoRow.holds Try.pinned (OpenSpec.upto hashPiecesSpec)

/-- 'baizelaw02.HashSame', WHERE WHAT IT READS IS OF BULK AT MOST 1048576: true; the input reads as it did. -/
def hashSameUptoRow : OpenClaim := { program := "ytmfogedagepcgaa", sum := "71d96882cb90d9e0540a6936e091bdf896e92b3b8737dec0048a2fe2797c377e", func := "baize/baizelaw02.HashSame", spec := "hashSame", apart := false, narrowed := true }
def HashSameUptoSaid : Prop := hashSameUptoRow.holds Try.pinned (OpenSpec.upto hashSameSpec)

/-- 'baizelaw02.HashKeeps', WHERE WHAT IT READS IS OF BULK AT MOST 1048576: true; the input reads as it did. -/
def hashKeepsUptoRow : OpenClaim := { program := "ytmfogedagepcgaa", sum := "71d96882cb90d9e0540a6936e091bdf896e92b3b8737dec0048a2fe2797c377e", func := "baize/baizelaw02.HashKeeps", spec := "hashKeeps", apart := false, narrowed := true }
def HashKeepsUptoSaid : Prop := hashKeepsUptoRow.holds Try.pinned (OpenSpec.upto hashKeepsSpec)

/-- 'baizelaw18.ChanceChains', WHERE WHAT IT READS IS OF BULK AT MOST 1048576: true; the input reads as it did. -/
def chanceChainsUptoRow : OpenClaim := { program := "ytmfogedagepcgaa", sum := "71d96882cb90d9e0540a6936e091bdf896e92b3b8737dec0048a2fe2797c377e", func := "baize/baizelaw18.ChanceChains", spec := "chanceChains", unfollowed := true, recurses := true, apart := false, narrowed := true }
def ChanceChainsUptoSaid : Prop := chanceChainsUptoRow.holds Try.pinned (OpenSpec.upto chanceChainsSpec)

/-- 'baizelaw18.ChanceFulfils', WHERE WHAT IT READS IS OF BULK AT MOST 1048576: true; the input reads as it did. -/
def chanceFulfilsUptoRow : OpenClaim := { program := "ytmfogedagepcgaa", sum := "71d96882cb90d9e0540a6936e091bdf896e92b3b8737dec0048a2fe2797c377e", func := "baize/baizelaw18.ChanceFulfils", spec := "chanceFulfils", unfollowed := true, recurses := true, apart := false, narrowed := true }
def ChanceFulfilsUptoSaid : Prop := chanceFulfilsUptoRow.holds Try.pinned (OpenSpec.upto chanceFulfilsSpec)

/-- 'baizelaw18.ChanceSame', WHERE WHAT IT READS IS OF BULK AT MOST 1048576: true; the input reads as it did. -/
def chanceSameUptoRow : OpenClaim := { program := "ytmfogedagepcgaa", sum := "71d96882cb90d9e0540a6936e091bdf896e92b3b8737dec0048a2fe2797c377e", func := "baize/baizelaw18.ChanceSame", spec := "chanceSame", unfollowed := true, recurses := true, apart := false, narrowed := true }
def ChanceSameUptoSaid : Prop := chanceSameUptoRow.holds Try.pinned (OpenSpec.upto chanceSameSpec)

end Rows
end Go.Proofs.Ytmfogedagepcgaa
