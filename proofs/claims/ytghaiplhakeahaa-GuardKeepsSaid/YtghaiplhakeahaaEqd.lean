/- Comparing digests. -/
import Derived.Test.YtghaiplhakeahaaE
import Derived.Test.YtghaiplhakeahaaR
import Derived.Stop.BytesEq
namespace Go.Proofs.Ytghaiplhakeahaa
set_option linter.unusedSimpArgs false
set_option linter.unusedVariables false
open Go.RowKit

noncomputable def bys (x : BitVec 64) : List UInt8 := [UInt8.ofNat (by8 x 0).toNat, UInt8.ofNat (by8 x 1).toNat, UInt8.ofNat (by8 x 2).toNat, UInt8.ofNat (by8 x 3).toNat, UInt8.ofNat (by8 x 4).toNat, UInt8.ofNat (by8 x 5).toNat, UInt8.ofNat (by8 x 6).toNat, UInt8.ofNat (by8 x 7).toNat]

theorem cell_by (x : BitVec 64) (i : Nat) : Extern.Stop.cell (UInt8.ofNat (by8 x i).toNat) = .int .u8 (by8 x i) := by
  have h := by8_bd x i
  simp only [Extern.Stop.cell, UInt8.toNat_ofNat']
  congr 1
  show (((by8 x i).toNat % 2 ^ 8 : Nat) : Int) = _
  omega

theorem bys_cells (x : BitVec 64) : ((bys x).map Extern.Stop.cell).toArray = #[.int .u8 (by8 x 0), .int .u8 (by8 x 1), .int .u8 (by8 x 2), .int .u8 (by8 x 3), .int .u8 (by8 x 4), .int .u8 (by8 x 5), .int .u8 (by8 x 6), .int .u8 (by8 x 7)] := by
  simp only [bys, List.map_cons, List.map_nil, cell_by]

theorem by8_inj {x y : BitVec 64} (h : ∀ i, i < 8 → by8 x i = by8 y i) : x = y := by
  apply nv_inj
  rw [← ref_num_law x, ← ref_num_law y, h 0 (by omega), h 1 (by omega), h 2 (by omega), h 3 (by omega), h 4 (by omega), h 5 (by omega), h 6 (by omega), h 7 (by omega)]

theorem bys_beq (x y : BitVec 64) : (bys x == bys y) = (x == y) := by
  rw [Bool.eq_iff_iff]
  simp only [beq_iff_eq]
  constructor
  · intro h
    have hc := congrArg (fun l : List UInt8 => l.map Extern.Stop.cell) h
    simp only [bys, List.map_cons, List.map_nil, cell_by, List.cons.injEq, Value.int.injEq, true_and, and_true] at hc
    obtain ⟨h0, h1, h2, h3, h4, h5, h6, h7⟩ := hc
    apply by8_inj
    intro i hi
    rcases i with _ | _ | _ | _ | _ | _ | _ | _ | i
    · exact h0
    · exact h1
    · exact h2
    · exact h3
    · exact h4
    · exact h5
    · exact h6
    · exact h7
    · omega
  · rintro rfl; rfl

theorem size_u8 (w : World) : (sizeOf 5).run Try.prog w = .ok 1 w := by kernel_rfl

@[go_sem] theorem eqd_dig (x y : BitVec 64) (w : World) : (Op.equalIn 10000 27 (.agg #[.int .u8 (by8 x 0), .int .u8 (by8 x 1), .int .u8 (by8 x 2), .int .u8 (by8 x 3), .int .u8 (by8 x 4), .int .u8 (by8 x 5), .int .u8 (by8 x 6), .int .u8 (by8 x 7)]) (.agg #[.int .u8 (by8 y 0), .int .u8 (by8 y 1), .int .u8 (by8 y 2), .int .u8 (by8 y 3), .int .u8 (by8 y 4), .int .u8 (by8 y 5), .int .u8 (by8 y 6), .int .u8 (by8 y 7)])).run Try.prog w = .ok (x == y) w := by
  have h := run_equalIn_bytes (P := Try.prog) w 9998 27 5 8 Try.underlying27 Try.underlying5 size_u8 (bys x) (bys y) rfl rfl
  rw [bys_cells, bys_cells, bys_beq] at h
  exact h
@[go_sem] theorem eqd_arr (x y : BitVec 64) (w : World) : (Op.equalIn 10000 22 (.agg #[.int .u8 (by8 x 0), .int .u8 (by8 x 1), .int .u8 (by8 x 2), .int .u8 (by8 x 3), .int .u8 (by8 x 4), .int .u8 (by8 x 5), .int .u8 (by8 x 6), .int .u8 (by8 x 7)]) (.agg #[.int .u8 (by8 y 0), .int .u8 (by8 y 1), .int .u8 (by8 y 2), .int .u8 (by8 y 3), .int .u8 (by8 y 4), .int .u8 (by8 y 5), .int .u8 (by8 y 6), .int .u8 (by8 y 7)])).run Try.prog w = .ok (x == y) w := by
  have h := run_equalIn_bytes (P := Try.prog) w 9998 22 5 8 Try.underlying22 Try.underlying5 size_u8 (bys x) (bys y) rfl rfl
  rw [bys_cells, bys_cells, bys_beq] at h
  exact h

theorem elt_dig : Elt Try.prog 78 27 8 8 := by
  have h : (Try.prog.info? 27).map (fun i => (i.zero, i.size, i.bytes)) = some (some (.agg #[.int .u8 0, .int .u8 0, .int .u8 0, .int .u8 0, .int .u8 0, .int .u8 0, .int .u8 0, .int .u8 0]), 8, 8) := by kernel_rfl
  exact elt_mk _ Try.underlying78 h rfl (by decide)
theorem elt_u8 : Elt Try.prog 26 5 1 1 := by
  have h : (Try.prog.info? 5).map (fun i => (i.zero, i.size, i.bytes)) = some (some (.int .u8 0), 1, 1) := by kernel_rfl
  exact elt_mk _ Try.underlying26 h rfl (by decide)

end Go.Proofs.Ytghaiplhakeahaa
