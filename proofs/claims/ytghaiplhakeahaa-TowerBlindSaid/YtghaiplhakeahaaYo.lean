/- baizelaw51: claims and deeds that came in. -/
import Derived.Test.YtghaiplhakeahaaV
import Derived.Test.YtghaiplhakeahaaOb
namespace Go.Proofs.Ytghaiplhakeahaa
set_option linter.unusedSimpArgs false
set_option linter.unusedVariables false
open Go.ChangeShapes Go.WideShapes Go.ChangeAt Go.RowKit

section
variable {H : Type} {enc : TypeId × Value → H} {w : World} {base : Nat} {held : Bool}
theorem cw_int : Try.prog.cellsOf 3 = 1 := by kernel_rfl
theorem cw_str : Try.prog.cellsOf 9 = 1 := by kernel_rfl
theorem cw_boo : Try.prog.cellsOf 4 = 1 := by kernel_rfl
theorem cw_arr : Try.prog.cellsOf 22 = 8 := by kernel_rfl
theorem cw_claim : Try.prog.cellsOf 24 = 4 := by kernel_rfl
theorem cw_deed : Try.prog.cellsOf 52 = 12 := by kernel_rfl
set_option maxRecDepth 100000 in
theorem trod_claim {fuel : Nat} {cs : List Value} {x : DataW H × List MemPlace} (hl : cs.length = 4) (h : DataW.trod enc Try.prog w base (fun _ => true) held fuel 24 cs = some x) : ∃ (n b : Int) (s : ByteArray) (l : Bool), cs = [.int .i64 n, .int .i64 b, .string s, .bool l] ∧ (-9223372036854775808 ≤ n ∧ n ≤ 9223372036854775807) ∧ s.size ≤ maxLen := by
  obtain ⟨xs, n, -, -, -, hxl, hf⟩ := DataW.trod_struct Try.underlying24 h
  match cs, hl with
  | [v0, v1, v2, v3], _ =>
    match xs, hxl with
    | [y0, y1, y2, y3], _ =>
      have f0 : DataW.trod enc Try.prog w base (fun _ => true) held n 3 (([v0, v1, v2, v3].drop 0).take (Try.prog.cellsOf 3)) = some y0 := hf 0 _ rfl
      have f1 : DataW.trod enc Try.prog w base (fun _ => true) held n 3 (([v0, v1, v2, v3].drop 1).take (Try.prog.cellsOf 3)) = some y1 := hf 1 _ rfl
      have f2 : DataW.trod enc Try.prog w base (fun _ => true) held n 9 (([v0, v1, v2, v3].drop 2).take (Try.prog.cellsOf 9)) = some y2 := hf 2 _ rfl
      have f3 : DataW.trod enc Try.prog w base (fun _ => true) held n 4 (([v0, v1, v2, v3].drop 3).take (Try.prog.cellsOf 4)) = some y3 := hf 3 _ rfl
      rw [cw_int] at f0 f1
      rw [cw_str] at f2
      rw [cw_boo] at f3
      simp only [List.drop_succ_cons, List.drop_zero, List.take_succ_cons, List.take_zero] at f0 f1 f2 f3
      obtain ⟨k0, e0, -, w0⟩ := DataW.trod_int Try.underlying3 f0
      obtain ⟨k1, e1, -, -⟩ := DataW.trod_int Try.underlying3 f1
      obtain ⟨k2, e2, -, w2⟩ := DataW.trod_string Try.underlying9 f2
      obtain ⟨k3, e3, -⟩ := DataW.trod_bool Try.underlying4 f3
      simp at e0 e1 e2 e3
      subst e0 e1 e2 e3
      exact ⟨k0, k1, k2, k3, rfl, i64_wf w0, w2⟩
set_option maxRecDepth 100000 in
theorem open_claim {r : Reach} {b0 : Nat} {v : Value} {d : DataW H} {p : List MemPlace} (hval : Value.okWide Try.prog w r b0 24 v) (hd : DataW.Trod enc Try.prog w base (fun _ => true) held 24 v d p) : ∃ (n b : Int) (s : ByteArray) (l : Bool), v = .agg #[.int .i64 n, .int .i64 b, .string s, .bool l] ∧ (-9223372036854775808 ≤ n ∧ n ≤ 9223372036854775807) ∧ s.size ≤ maxLen := by
  obtain ⟨fuel, hf⟩ := hd
  have hl : v.cells.toList.length = 4 := by
    obtain ⟨xs, n, -, -, h, -, -⟩ := DataW.trod_struct Try.underlying24 hf
    rw [h, cw_claim]
  obtain ⟨n, b, s, l, h1, h2, h3⟩ := trod_claim hl hf
  simp only [Value.okWide, Try.underlying24] at hval
  obtain ⟨cs, rfl, _⟩ := hval
  refine ⟨n, b, s, l, ?_, h2, h3⟩
  congr 1
  apply Array.ext'
  simpa [Value.cells] using h1
/-- A deed. -/
structure DeedV where
  drop : Bool
  raw : Bool
  nonce : BitVec 64
  n : Int
  claim : ByteArray
instance : Inhabited DeedV := ⟨⟨false, false, 0, 0, ByteArray.empty⟩⟩
noncomputable def DeedV.cells (o : DeedV) : List Value := [.bool o.drop, .bool o.raw, .int .u8 (by8 o.nonce 0), .int .u8 (by8 o.nonce 1), .int .u8 (by8 o.nonce 2), .int .u8 (by8 o.nonce 3), .int .u8 (by8 o.nonce 4), .int .u8 (by8 o.nonce 5), .int .u8 (by8 o.nonce 6), .int .u8 (by8 o.nonce 7), .int .i64 o.n, .string o.claim]
noncomputable abbrev DeedV.agg (o : DeedV) : Value := .agg #[.bool o.drop, .bool o.raw, .int .u8 (by8 o.nonce 0), .int .u8 (by8 o.nonce 1), .int .u8 (by8 o.nonce 2), .int .u8 (by8 o.nonce 3), .int .u8 (by8 o.nonce 4), .int .u8 (by8 o.nonce 5), .int .u8 (by8 o.nonce 6), .int .u8 (by8 o.nonce 7), .int .i64 o.n, .string o.claim]
def DeedV.ok (o : DeedV) : Prop := (-9223372036854775808 ≤ o.n ∧ o.n ≤ 9223372036854775807) ∧ o.claim.size ≤ maxLen
set_option maxRecDepth 100000 in
theorem trod_deed {fuel : Nat} {cs : List Value} {x : DataW H × List MemPlace} (hl : cs.length = 12) (h : DataW.trod enc Try.prog w base (fun _ => true) held fuel 52 cs = some x) : ∃ o : DeedV, cs = o.cells ∧ o.ok := by
  obtain ⟨xs, n, -, -, -, hxl, hf⟩ := DataW.trod_struct Try.underlying52 h
  match cs, hl with
  | [v0, v1, v2, v3, v4, v5, v6, v7, v8, v9, v10, v11], _ =>
    match xs, hxl with
    | [y0, y1, y2, y3, y4], _ =>
      have f0 : DataW.trod enc Try.prog w base (fun _ => true) held n 4 (([v0, v1, v2, v3, v4, v5, v6, v7, v8, v9, v10, v11].drop 0).take (Try.prog.cellsOf 4)) = some y0 := hf 0 _ rfl
      have f1 : DataW.trod enc Try.prog w base (fun _ => true) held n 4 (([v0, v1, v2, v3, v4, v5, v6, v7, v8, v9, v10, v11].drop 1).take (Try.prog.cellsOf 4)) = some y1 := hf 1 _ rfl
      have f2 : DataW.trod enc Try.prog w base (fun _ => true) held n 22 (([v0, v1, v2, v3, v4, v5, v6, v7, v8, v9, v10, v11].drop 2).take (Try.prog.cellsOf 22)) = some y2 := hf 2 _ rfl
      have f3 : DataW.trod enc Try.prog w base (fun _ => true) held n 3 (([v0, v1, v2, v3, v4, v5, v6, v7, v8, v9, v10, v11].drop 10).take (Try.prog.cellsOf 3)) = some y3 := hf 3 _ rfl
      have f4 : DataW.trod enc Try.prog w base (fun _ => true) held n 9 (([v0, v1, v2, v3, v4, v5, v6, v7, v8, v9, v10, v11].drop 11).take (Try.prog.cellsOf 9)) = some y4 := hf 4 _ rfl
      rw [cw_int] at f3
      rw [cw_str] at f4
      rw [cw_boo] at f0 f1
      rw [cw_arr] at f2
      simp only [List.drop_succ_cons, List.drop_zero, List.take_succ_cons, List.take_zero] at f0 f1 f2 f3 f4
      obtain ⟨k0, e0, -⟩ := DataW.trod_bool Try.underlying4 f0
      obtain ⟨k1, e1, -⟩ := DataW.trod_bool Try.underlying4 f1
      obtain ⟨k2, e2⟩ := trod_dig Try.underlying22 Try.underlying5 Try.cellsByte (by kernel_rfl) f2
      obtain ⟨k3, e3, -, w3⟩ := DataW.trod_int Try.underlying3 f3
      obtain ⟨k4, e4, -, w4⟩ := DataW.trod_string Try.underlying9 f4
      simp at e0 e1 e3 e4
      subst e0 e1 e3 e4
      refine ⟨⟨k0, k1, k2, k3, k4⟩, ?_, i64_wf w3, w4⟩
      have e2' : [v2, v3, v4, v5, v6, v7, v8, v9] = ([.int .u8 (by8 k2 0), .int .u8 (by8 k2 1), .int .u8 (by8 k2 2), .int .u8 (by8 k2 3), .int .u8 (by8 k2 4), .int .u8 (by8 k2 5), .int .u8 (by8 k2 6), .int .u8 (by8 k2 7)] : List Value) := e2
      simp only [List.cons.injEq, and_true] at e2'
      obtain ⟨rfl, rfl, rfl, rfl, rfl, rfl, rfl, rfl⟩ := e2'
      rfl
end

/-- An appointment of the document. -/
noncomputable abbrev rAgg (dh : BitVec 64) (n : Int) (s : ByteArray) : Value := .agg #[.int .u8 (by8 dh 0), .int .u8 (by8 dh 1), .int .u8 (by8 dh 2), .int .u8 (by8 dh 3), .int .u8 (by8 dh 4), .int .u8 (by8 dh 5), .int .u8 (by8 dh 6), .int .u8 (by8 dh 7), .int .i64 n, .string s]

end Go.Proofs.Ytghaiplhakeahaa
