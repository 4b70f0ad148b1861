/- talk: a Talker's state; contracts of New, Idle, Got, due. -/
import Derived.Test.YtgjodjkmefdilaaBcl
namespace Go.Proofs.Ytgjodjkmefdilaa
set_option linter.unusedSimpArgs false
set_option linter.unusedVariables false
open Go.RowKit

/-- What a Talker is. -/
structure TS where
  most : Nat
  again : Nat
  waits : List (List UInt8)
  gone : Nat
  said : Nat
  got : List (List UInt8)
  heard : Nat
  last : Nat
  went : Bool
  owes : Bool
/-- Its cells. -/
def tcs (T : TS) (vw vg : Value) : Array Value := #[.int .i64 T.most, .int .i64 T.again, vw, .int .i64 T.gone, .int .i64 T.said, vg, .int .i64 T.heard, .int .i64 T.last, .bool T.went, .bool T.owes]
/-- The blocks B are those of a Talker in block p that is T; its messages lie in L. -/
def TkB (w0 : World) (L : List Blk) (p : Nat) (T : TS) (B : List Blk) : Prop :=
  ∃ vw ws Bw vg gs Bg, B = ⟨p, 84, tcs T vw vg⟩ :: (Bw ++ Bg) ∧ Row 34 1 vw T.waits.length ws Bw ∧ Msgs w0 L ws T.waits ∧ Row 34 1 vg T.got.length gs Bg ∧ Msgs w0 L gs T.got
theorem TkB.mono {w0 : World} {L L' : List Blk} {p : Nat} {T : TS} {B : List Blk} (h : TkB w0 L p T B) (hL : ∀ x ∈ L, x ∈ L') : TkB w0 L' p T B := by
  obtain ⟨vw, ws, Bw, vg, gs, Bg, h1, h2, h3, h4, h5⟩ := h
  exact ⟨vw, ws, Bw, vg, gs, Bg, h1, h2, h3.mono hL, h4, h5.mono hL⟩
/-- A pointer to block p. -/
abbrev ptr (p : Nat) : Value := .pointer (some ⟨p, 0, none⟩)
def newT (most again : Nat) : TS := ⟨most, again, [], 0, 0, [], 0, 0, false, false⟩

set_option maxRecDepth 100000 in
set_option maxHeartbeats 1000000 in
theorem new_yes (a b : Nat) (w w0 : World) (F : List Blk) (O : Ow w w0 F) (ha : 1 ≤ a) (ha2 : a ≤ 64) (hb : 1 ≤ b) (hb2 : b ≤ 1000) :
    Calls Try.prog 23 #[.int .i64 a, .int .i64 b] w fun e w' => ∃ p B, e = .returned (.tuple #[ptr p, .int .i64 0]) ∧ Ow w' w0 (B ++ F) ∧ TkB w0 [] p (newT a b) B := by
  have HO := Lib.hid O
  clear O
  go_enter Try.func23, Try.ntmps23
  go_wp2
  refine bodyPost_ret (v := .tuple #[ptr w.heap.size, .int .i64 0]) (by simp [results, Try.results23, go_sem]) rfl ?_
  exact ⟨_, _, rfl, HO.out.key _ _ _ rfl, _, [], [], _, [], [], rfl, .void, Msgs.nil _ _, .void, Msgs.nil _ _⟩
set_option maxRecDepth 100000 in
set_option maxHeartbeats 1000000 in
theorem new_no (a b : Int) (w : World) (ha : (Lit.int .i64 a).wf = true) (hb : (Lit.int .i64 b).wf = true) (h : ¬(1 ≤ a ∧ a ≤ 64 ∧ 1 ≤ b ∧ b ≤ 1000)) :
    Calls Try.prog 23 #[.int .i64 a, .int .i64 b] w fun e w' => e = .returned (.tuple #[.pointer none, .int .i64 2]) ∧ w' = w := by
  have h1 : decide (a < 1) = true ∨ decide (a < 1) = false := by cases decide (a < 1) <;> simp
  have h2 : decide (64 < a) = true ∨ decide (64 < a) = false := by cases decide (64 < a) <;> simp
  have h3 : decide (b < 1) = true ∨ decide (b < 1) = false := by cases decide (b < 1) <;> simp
  have h4 : decide (1000 < b) = true ∨ decide (1000 < b) = false := by cases decide (1000 < b) <;> simp
  rcases h1 with h1 | h1
  · go_enter Try.func23, Try.ntmps23
    go_wp2
    refine bodyPost_ret (v := .tuple #[.pointer none, .int .i64 2]) (by simp [results, Try.results23, go_sem]) rfl ⟨rfl, rfl⟩
  · rcases h2 with h2 | h2
    · go_enter Try.func23, Try.ntmps23
      go_wp2
      refine bodyPost_ret (v := .tuple #[.pointer none, .int .i64 2]) (by simp [results, Try.results23, go_sem]) rfl ⟨rfl, rfl⟩
    · rcases h3 with h3 | h3
      · go_enter Try.func23, Try.ntmps23
        go_wp2
        refine bodyPost_ret (v := .tuple #[.pointer none, .int .i64 2]) (by simp [results, Try.results23, go_sem]) rfl ⟨rfl, rfl⟩
      · have h4 : decide (1000 < b) = true := by
          simp at h1 h2 h3 ⊢; omega
        go_enter Try.func23, Try.ntmps23
        go_wp2
        refine bodyPost_ret (v := .tuple #[.pointer none, .int .i64 2]) (by simp [results, Try.results23, go_sem]) rfl ⟨rfl, rfl⟩

/-- What a walk needs of a Talker's block. -/
theorem TkB.open_ {w w0 : World} {L F B : List Blk} {p : Nat} {T : TS} (h : TkB w0 L p T B) (O : Ow w w0 (B ++ F)) :
    ∃ vw ws Bw vg gs Bg, Row 34 1 vw T.waits.length ws Bw ∧ Msgs w0 L ws T.waits ∧ Row 34 1 vg T.got.length gs Bg ∧ Msgs w0 L gs T.got ∧ Ow w w0 (⟨p, 84, tcs T vw vg⟩ :: (Bw ++ (Bg ++ F))) ∧ HasBlk w p 84 (tcs T vw vg) ∧ B = ⟨p, 84, tcs T vw vg⟩ :: (Bw ++ Bg) := by
  obtain ⟨vw, ws, Bw, vg, gs, Bg, rfl, h2, h3, h4, h5⟩ := h
  have O' : Ow w w0 (⟨p, 84, tcs T vw vg⟩ :: (Bw ++ (Bg ++ F))) := by simpa using O
  exact ⟨vw, ws, Bw, vg, gs, Bg, h2, h3, h4, h5, O', O'.has (by simp), rfl⟩

set_option maxRecDepth 100000 in
set_option maxHeartbeats 1000000 in
theorem idle_to (p : Nat) (T : TS) (B F L : List Blk) (w w0 : World) (O : Ow w w0 (B ++ F)) (hT : TkB w0 L p T B) (b : Bool) (hb : (T.waits.length == 0) = b) :
    Calls Try.prog 15 #[ptr p] w fun e w' => e = .returned (.bool b) ∧ w' = w := by
  obtain ⟨vw, ws, Bw, vg, gs, Bg, Rw, Mw, Rg, Mg, O', HB, -⟩ := hT.open_ O
  have c2 := HB.cell 2
  have hlt := HB.lt
  obtain ⟨ao, cap, rfl⟩ := Rw.slice
  simp only [tcs] at c2
  have hb' : ((T.waits.length : Int) == 0) = b := by
    rw [← hb, Bool.eq_iff_iff, beq_iff_eq, beq_iff_eq]; omega
  clear O O' HB Rw Mw Rg Mg hb
  go_enter Try.func15, Try.ntmps15
  go_wp2
  go_ret
  refine ⟨?_, rfl⟩
  rw [← hb']; rfl
set_option maxRecDepth 100000 in
set_option maxHeartbeats 1000000 in
theorem idle_nil (w : World) : Calls Try.prog 15 #[.pointer none] w fun e w' => e = .returned (.bool false) ∧ w' = w := by
  go_enter Try.func15, Try.ntmps15
  go_wp2
  go_ret
  exact ⟨rfl, rfl⟩

def gotT (T : TS) : TS := { T with got := [] }
set_option maxRecDepth 100000 in
set_option maxHeartbeats 1000000 in
theorem got_to (p : Nat) (T : TS) (B F L : List Blk) (w w0 : World) (O : Ow w w0 (B ++ F)) (hT : TkB w0 L p T B) :
    Calls Try.prog 21 #[ptr p] w fun e w' => ∃ v N B', e = .returned v ∧ Ow w' w0 (B' ++ (N ++ F)) ∧ TkB w0 L p (gotT T) B' ∧ MsgL w0 (N ++ L) v T.got := by
  obtain ⟨vw, ws, Bw, vg, gs, Bg, Rw, Mw, Rg, Mg, O', HB, -⟩ := hT.open_ O
  have c5 := HB.cell 5
  have f5 := HB.frozen 5
  have hlt := HB.lt
  have HO := Lib.hid O'
  have HW := Lib.hid Rw
  have HMW := Lib.hid Mw
  have HG := Lib.hid Rg
  have HMG := Lib.hid Mg
  obtain ⟨ao, cap, rfl⟩ := Rg.slice
  simp only [tcs] at c5
  clear O O' HB Rw Mw Rg Mg hT
  go_enter Try.func21, Try.ntmps21
  go_wp2
  go_ret
  exact ⟨_, Bg, ⟨p, 84, tcs (gotT T) vw (.slice none 0 0)⟩ :: (Bw ++ []), rfl, (HO.out.set 5 (.slice none 0 0)).as (by simp [tcs, gotT]), ⟨vw, ws, Bw, _, [], [], rfl, HW.out, HMW.out, .void, Msgs.nil _ _⟩, HG.out.msgl (HMG.out)⟩
set_option maxRecDepth 100000 in
set_option maxHeartbeats 1000000 in
theorem got_nil (w : World) : Calls Try.prog 21 #[.pointer none] w fun e w' => e = .returned (.slice none 0 0) ∧ w' = w := by
  go_enter Try.func21, Try.ntmps21
  go_wp2
  go_ret
  exact ⟨rfl, rfl⟩

end Go.Proofs.Ytgjodjkmefdilaa
