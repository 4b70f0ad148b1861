/- Contract of hash.Stream. -/
import Derived.Test.YtghaiplhakeahaaD
import Derived.Laws.MakeOwn
import Derived.Test.YtghaiplhakeahaaEqd
import Derived.Test.YtghaiplhakeahaaBt
namespace Go.Proofs.Ytghaiplhakeahaa
set_option linter.unusedSimpArgs false
set_option linter.unusedVariables false
open Go.RowKit

/-- The states of a stream, block by block. -/
def streamS (x : BitVec 64) : Nat → St
  | 0 => takeF (beginF 6#64) x
  | k + 1 => stirF (streamS x k)
def streamD (x : BitVec 64) (k : Nat) : List (BitVec 64) := (List.range k).map fun i => givesF (streamS x i)
theorem streamD_succ (x : BitVec 64) (k : Nat) : streamD x (k + 1) = streamD x k ++ [givesF (streamS x k)] := by
  simp [streamD, List.range_succ]

set_option maxRecDepth 100000 in
set_option maxHeartbeats 1000000 in
theorem stream_none (x : BitVec 64) (n : Int) (hn : n < 1 ∨ 1048576 < n) (w : World) :
    Calls Try.prog 103 #[.agg #[.int .u8 (by8 x 0), .int .u8 (by8 x 1), .int .u8 (by8 x 2), .int .u8 (by8 x 3), .int .u8 (by8 x 4), .int .u8 (by8 x 5), .int .u8 (by8 x 6), .int .u8 (by8 x 7)], .int .i64 n] w fun e w' => e = .returned (.slice none 0 0) ∧ Below w.heap.size w w' := by
  rcases hn with hn | hn
  · go_enter Try.func103, Try.ntmps103
    go_wp2
    go_ret
    exact ⟨rfl, by (repeat' (first | (with_reducible exact Below.refl _ _) | (with_reducible refine bplus ?_ _ _) | (with_reducible refine balloc ?_ _) | (with_reducible refine Below.drew ?_) | (with_reducible refine bdrewN ?_ _) | (with_reducible refine Below.setCell ?_ (by go_size) _)))⟩
  · have h1 : ¬ n < 1 := by omega
    go_enter Try.func103, Try.ntmps103
    go_wp2
    go_ret
    exact ⟨rfl, by (repeat' (first | (with_reducible exact Below.refl _ _) | (with_reducible refine bplus ?_ _ _) | (with_reducible refine balloc ?_ _) | (with_reducible refine Below.drew ?_) | (with_reducible refine bdrewN ?_ _) | (with_reducible refine Below.setCell ?_ (by go_size) _)))⟩

/-- The i-th byte of a digest's stream; its first n bytes. -/
noncomputable def streamAt (x : BitVec 64) (i : Nat) : UInt8 := UInt8.ofNat (by8 (givesF (streamS x (i / 8))) (i % 8)).toNat
noncomputable def streamB (x : BitVec 64) (n : Nat) : List UInt8 := (List.range n).map (streamAt x)
theorem streamB_len (x : BitVec 64) (n : Nat) : (streamB x n).length = n := by simp [streamB]
theorem streamAt_nat (x : BitVec 64) (i : Nat) : ((streamAt x i).toNat : Int) = by8 (givesF (streamS x (i / 8))) (i % 8) := by
  have h := by8_bd (givesF (streamS x (i / 8))) (i % 8)
  simp only [streamAt, UInt8.toNat_ofNat']
  show (((by8 (givesF (streamS x (i / 8))) (i % 8)).toNat % 2 ^ 8 : Nat) : Int) = _
  omega
theorem streamB_succ (x : BitVec 64) (n : Nat) : streamB x (n + 1) = streamB x n ++ [streamAt x n] := by simp [streamB, List.range_succ]
theorem dall_stream (x : BitVec 64) (k i : Nat) (h : i < 8 * k) : (dall (streamD x k))[i]? = some (.int .u8 ((streamAt x i).toNat : Int)) := by
  have hl : (streamD x k).length = k := by simp [streamD]
  have e : i = (i / 8) * 8 + i % 8 := by omega
  rw [streamAt_nat, e, dall_get _ _ (by rw [hl]; omega) _ (by omega)]
  have e1 : ((i / 8) * 8 + i % 8) / 8 = i / 8 := by omega
  have e2 : ((i / 8) * 8 + i % 8) % 8 = i % 8 := by omega
  rw [e1, e2]
  simp [streamD, List.getD_eq_getElem?_getD, show i / 8 < k by omega]
/-- The front of a slice. -/
theorem VSl.front {w : World} {a : Addr} {N cap n c : Nat} {f : Nat → Value} (h : VSl w (.slice (some a) N cap) N f) (hn : n ≤ N) (hc : n ≤ c) : VSl w (.slice (some a) n c) n f := by
  obtain ⟨ao, cap', e, h1, h2⟩ := h
  cases e
  refine ⟨_, _, rfl, ⟨hc, fun h => by cases h⟩, ?_⟩
  rcases h2 with h2 | ⟨b, o, h3, h4, h5⟩
  · left; omega
  · exact .inr ⟨b, o, h3, h4, fun i hi => h5 i (by omega)⟩

theorem bsl_stream {w : World} {v : Value} {x : BitVec 64} {n : Nat} (h : VSl w v n (fun i => .int .u8 ((streamAt x i).toNat : Int))) : BSl w v (streamB x n) := by
  obtain ⟨ao, cap, rfl, h1, h2⟩ := h
  refine ⟨ao, cap, by rw [streamB_len], by rw [streamB_len]; exact h1, ?_⟩
  rw [streamB_len]
  rcases h2 with h2 | ⟨b, o, h3, h4, h5⟩
  · exact .inl h2
  · refine .inr ⟨b, o, h3, h4, fun i hi => ?_⟩
    rw [h5 i hi]
    simp [streamB, List.getD_eq_getElem?_getD, hi]

def sliceLen : Value → Nat
  | .slice _ n _ => n
  | _ => 0

set_option maxRecDepth 100000 in
set_option maxHeartbeats 1000000 in
theorem stream_some (x : BitVec 64) (n : Nat) (h1 : 1 ≤ n) (h2 : n ≤ 1048576) (w : World) :
    Calls Try.prog 103 #[.agg #[.int .u8 (by8 x 0), .int .u8 (by8 x 1), .int .u8 (by8 x 2), .int .u8 (by8 x 3), .int .u8 (by8 x 4), .int .u8 (by8 x 5), .int .u8 (by8 x 6), .int .u8 (by8 x 7)], .int .i64 n] w fun e w' => ∃ ao, e = .returned (.slice ao n n) ∧ Below w.heap.size w w' ∧ BSl w' (.slice ao n n) (streamB x n) := by
  obtain ⟨M, hM, hmk⟩ : ∃ M : Array Value, M.size = n + 8 ∧ ∀ W : World, (Instr.makeSlice 26 (.int .i64 0) (.int .i64 ((n : Int) + 8))).run Try.prog W = .ok (.slice (some ⟨W.heap.size, 0, none⟩) 0 (n + 8)) (W.alloc (.cells M 5)) := by
    obtain ⟨i, z, ht, hi, hz, hsz, hby, hzs, -⟩ := elt_u8
    refine ⟨madeCells z.cells ((n + 8) * i.size), by rw [size_madeCells, hsz]; omega, fun W => ?_⟩
    have hr := run_make (P := Try.prog) (w := W) 26 5 i z ht hi hz .i64 .i64 0 ((n : Int) + 8) (by omega) (by omega) (by rw [hby]; omega) (by omega)
    rw [show ((n : Int) + 8).toNat = n + 8 by omega, show (0 : Int).toNat = 0 from rfl] at hr
    exact hr
  go_enter Try.func103, Try.ntmps103
  go_wp2_with (first
    | (go_at_call 88; refine (begin_any 6#64 _ (nv_lit 6 (by decide)) _).mono ?_; rintro e w1 ⟨rfl, hb1⟩; obtain ⟨g1, d1, rfl⟩ := plus_of_below hb1; clear hb1)
    | (go_at_call 90; refine (num_any _ _).mono ?_; rintro e w2 ⟨rfl, hb2⟩; obtain ⟨g2, d2, rfl⟩ := plus_of_below hb2; clear hb2)
    | (go_at_call 89; refine (take_any (beginF 6#64) _ _ _ _ (by go_simp) (by go_simp) (by go_simp) (by go_simp) (by go_simp) (by go_simp) (by go_simp) (by go_simp)).mono ?_; rintro e w3 ⟨rfl, n3, rfl⟩; simp only [putSt]))
  go_loopw [6] (fun v wr => ∃ (k : Nat) (g : Array Obj) (d : Nat), 8 * k < n + 8 ∧ GRow (w.heap.size + 1 + g1.size + 1) g 5 1 v (8 * k) (dall (streamD x k)) ∧ v ≠ .slice none 0 0 ∧ (v = .slice none 0 0 → False) ∧ wr = plus ((plus (w.alloc (.cells #[.int .u8 (by8 x 0), .int .u8 (by8 x 1), .int .u8 (by8 x 2), .int .u8 (by8 x 3), .int .u8 (by8 x 4), .int .u8 (by8 x 5), .int .u8 (by8 x 6), .int .u8 (by8 x 7)] 27)) g1 d1).alloc (.cells #[.int .u64 (nv ((streamS x (k - 1))).a), .int .u64 (nv ((streamS x (k - 1))).b), .int .u64 (nv ((streamS x (k - 1))).c), .int .u64 (nv ((streamS x (k - 1))).d)] 159)) g d) (fun v _ => n + 8 - sliceLen v)
  case atStart => exact ⟨0, g2 ++ #[.cells M 5], d2 + n3, by omega, ⟨rfl, .inr ⟨g2.size, n + 8, M, by simp [Nat.add_assoc], by simp, by omega, by unfold maxLen; omega, by omega, rfl⟩⟩, by simp, by simp, by rw [alloc_plus]; rfl⟩
  case round =>
    obtain ⟨k, g, d, hk, hown, -, hne, rfl⟩ := hrel
    obtain ⟨ao, cap, rfl⟩ := hown.slice
    have hHW : Hid (GRow (w.heap.size + 1 + g1.size + 1) g 5 1 (.slice ao (8 * k) cap) (8 * k) (dall (streamD x k))) := hown
    by_cases hlt : 8 * k < n
    · have HD := Lib.hid (streamD_succ x k)
      cases k with
      | zero =>
        have HS : Hid (streamS x (0 - 1) = streamS x 0) := rfl
        obtain ⟨s, HE⟩ : ∃ s, Hid (streamS x 0 = s) := ⟨_, rfl⟩
        rw [HS.out, HE.out]
        rw [HE.out] at HD
        go_wp2_with (first
          | (go_at_call 92; refine (gives_any s _ _ _ (by go_simp) (by go_simp) (by go_simp)).mono ?_; rintro e w4 ⟨rfl, hb4⟩; obtain ⟨g4, d4, rfl⟩ := plus_of_below hb4; clear hb4)
          | (at_builtin; refine wpList_append_fresh rfl (.tmp 30) (.tmp 31) 26 rfl _ _ _ _ _ elt_u8 _ _ _ rfl (hHW.out.more _) (by simp) _ _ _ rfl (by simp [Nat.add_assoc]) rfl (dcs_one (givesF s)) ?c5 ?c6 (8 * (0 + 1)) ?c7 _ rfl (fun ao9 cap9 g9 d9 hown9 hn9 => ?_)))
        case c5 => unfold maxLen; omega
        case c6 => omega
        case c7 => omega
        go_roundw
        case rel =>
          refine ⟨0 + 1, g9, d9, by omega, ?_, ?_, ?_, by rw [show 0 + 1 - 1 = 0 from rfl, HE.out]⟩
          · rw [HD.out, dall_app, dall_one]; exact hown9
          · intro h; have := hn9.1 h; simp at this
          · intro h; have := hn9.1 h; simp at this
        case measure => simp [sliceLen]
      | succ j =>
        have HS : Hid (streamS x (j + 1) = stirF (streamS x j)) := rfl
        rw [Nat.add_sub_cancel]
        obtain ⟨s, HE⟩ : ∃ s, Hid (streamS x j = s) := ⟨_, rfl⟩
        rw [HE.out] at HS
        rw [HE.out]
        rw [HS.out] at HD
        go_wp2_with (first
          | (go_at_call 107; refine (stir_any s _ _ _ (by go_simp) (by go_simp) (by go_simp) (by go_simp) (by go_simp) (by go_simp) (by go_simp) (by go_simp)).mono ?_; rintro e w3 ⟨rfl, n4, rfl⟩; simp only [putSt])
          | (go_at_call 92; refine (gives_any (stirF s) _ _ _ (by go_simp) (by go_simp) (by go_simp)).mono ?_; rintro e w4 ⟨rfl, hb4⟩; obtain ⟨g4, d4, rfl⟩ := plus_of_below hb4; clear hb4)
          | (at_builtin; refine wpList_append_fresh rfl (.tmp 30) (.tmp 31) 26 rfl _ _ _ _ _ elt_u8 _ _ _ rfl (hHW.out.more _) (by simp) _ _ _ rfl (by simp [Nat.add_assoc]) rfl (dcs_one (givesF (stirF s))) ?c5 ?c6 (8 * (j + 1 + 1)) ?c7 _ rfl (fun ao9 cap9 g9 d9 hown9 hn9 => ?_)))
        case c5 => unfold maxLen; omega
        case c6 => omega
        case c7 => omega
        go_roundw
        case rel =>
          refine ⟨j + 1 + 1, g9, d9, by omega, ?_, ?_, ?_, by rw [Nat.add_sub_cancel, HS.out]⟩
          · rw [HD.out, dall_app, dall_one]; exact hown9
          · intro h; have := hn9.1 h; simp at this
          · intro h; have := hn9.1 h; simp at this
        case measure => simp [sliceLen]; omega
    · obtain ⟨b, rfl, hcap⟩ : ∃ b, ao = some ⟨b, 0, none⟩ ∧ 8 * k ≤ cap := by
        rcases hown.2 with ⟨h, -⟩ | ⟨j, cap', cur, h, hg, hle, -⟩
        · exact absurd h hne
        · simp only [Value.slice.injEq] at h
          exact ⟨_, h.1, by omega⟩
      have hnc : n ≤ cap := by omega
      have hB : Hid (BSl (plus ((plus (w.alloc (.cells #[.int .u8 (by8 x 0), .int .u8 (by8 x 1), .int .u8 (by8 x 2), .int .u8 (by8 x 3), .int .u8 (by8 x 4), .int .u8 (by8 x 5), .int .u8 (by8 x 6), .int .u8 (by8 x 7)] 27)) g1 d1).alloc (.cells #[.int .u64 (nv ((streamS x (k - 1))).a), .int .u64 (nv ((streamS x (k - 1))).b), .int .u64 (nv ((streamS x (k - 1))).c), .int .u64 (nv ((streamS x (k - 1))).d)] 159)) g d) (.slice (some ⟨b, 0, none⟩) n n) (streamB x n)) := by
        have hv := (show GRow ((plus (w.alloc (.cells #[.int .u8 (by8 x 0), .int .u8 (by8 x 1), .int .u8 (by8 x 2), .int .u8 (by8 x 3), .int .u8 (by8 x 4), .int .u8 (by8 x 5), .int .u8 (by8 x 6), .int .u8 (by8 x 7)] 27)) g1 d1).alloc (.cells #[.int .u64 (nv ((streamS x (k - 1))).a), .int .u64 (nv ((streamS x (k - 1))).b), .int .u64 (nv ((streamS x (k - 1))).c), .int .u64 (nv ((streamS x (k - 1))).d)] 159)).heap.size g 5 1 (.slice (some ⟨b, 0, none⟩) (8 * k) cap) (8 * k) (dall (streamD x k)) by simpa using hown).vsl d (fun i => .int .u8 ((streamAt x i).toNat : Int)) (fun i hi => dall_stream x k i hi)
        exact bsl_stream (hv.front (by omega) (Nat.le_refl _))
      go_wp2
      go_ret
      exact ⟨_, rfl, by (repeat' (first | (with_reducible exact Below.refl _ _) | (with_reducible refine bplus ?_ _ _) | (with_reducible refine balloc ?_ _) | (with_reducible refine Below.drew ?_) | (with_reducible refine bdrewN ?_ _) | (with_reducible refine Below.setCell ?_ (by go_size) _))), hB.out⟩

end Go.Proofs.Ytghaiplhakeahaa
