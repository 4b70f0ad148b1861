/- account: contract of New. -/
import Derived.Test.YteopbfehfipcmaaFe
namespace Go.Proofs.Yteopbfehfipcmaa
set_option linter.unusedSimpArgs false
set_option linter.unusedVariables false
open Go.RowKit Go.WideMaps Go.ChangeMaps Go.Maps

theorem make_map0 (w : World) (t : TypeId) : (Instr.makeMap t none).run Try.prog w = .ok (.map (some w.heap.size)) (w.alloc (.map #[] 0)) := rfl
def anyK (ks : Nat → BitVec 64) (i : Nat) (x : BitVec 64) : Bool := (List.range i).any fun j => ks j == x
theorem anyK_succ (ks : Nat → BitVec 64) (i : Nat) (x : BitVec 64) : anyK ks (i + 1) x = (anyK ks i x || ks i == x) := by
  unfold anyK
  rw [List.range_succ, List.any_append]
  simp
theorem anyK_iff (ks : Nat → BitVec 64) (i : Nat) (x : BitVec 64) : anyK ks i x = true ↔ ∃ j, j < i ∧ ks j = x := by
  unfold anyK
  simp [List.any_eq_true]
def startM (ks : Nat → BitVec 64) (i : Nat) : BitVec 64 → Int := fun x => if anyK ks i x = true then 500 else 0
def seenV (ks : Nat → BitVec 64) (i : Nat) : BitVec 64 → Option Value := fun x => if anyK ks i x = true then some (.bool true) else none
theorem startM_succ (ks : Nat → BitVec 64) (i : Nat) : updM (startM ks i) (ks i) 500 = startM ks (i + 1) := by
  funext x
  unfold updM startM
  rw [anyK_succ]
  by_cases h : x = ks i
  · rw [if_pos h, if_pos (by simp [h])]
  · rw [if_neg h]
    have : (ks i == x) = false := by simpa using fun e => h e.symm
    rw [this, Bool.or_false]
theorem seenV_succ (ks : Nat → BitVec 64) (i : Nat) : putF (seenV ks i) (ks i) (.bool true) = seenV ks (i + 1) := by
  funext x
  unfold putF seenV
  rw [anyK_succ]
  by_cases h : x = ks i
  · rw [if_pos h, if_pos (by simp [h])]
  · rw [if_neg h]
    have : (ks i == x) = false := by simpa using fun e => h e.symm
    rw [this, Bool.or_false]
set_option maxRecDepth 100000 in
set_option maxHeartbeats 4000000 in
theorem anew_ok (r n cap : Nat) (ks : Nat → BitVec 64) (w w0 : World) (X : List Blk) (KK : List (Nat × Obj)) (O : Omw w w0 X KK) (hn : n ≤ 5) (hcap : n ≤ cap) (hr : r < w.heap.size)
    (hin : ∀ W : World, (∀ x ∈ X, HasBlk W x.no x.ty x.cs) → r < W.heap.size ∧ ∀ i, i < n → ∀ j u, (#[.int .u8 (by8 (ks i) 0), .int .u8 (by8 (ks i) 1), .int .u8 (by8 (ks i) 2), .int .u8 (by8 (ks i) 3), .int .u8 (by8 (ks i) 4), .int .u8 (by8 (ks i) 5), .int .u8 (by8 (ks i) 6), .int .u8 (by8 (ks i) 7), .int .i64 500, .int .i64 0] : Array Value)[j]? = some u → W.cell? ⟨r, i * 10 + j, none⟩ = some u) (hd : ∀ i j, i < n → j < n → ks i = ks j → i = j) :
    Calls Try.prog 8 #[.slice (some ⟨r, 0, none⟩) n cap] w fun e w' => ∃ p, e = .returned (.tuple #[ptr p, .int .i64 0]) ∧ Bk w' w0 X KK p (startM ks n) := by
  have HIN := Lib.hid hin
  have HD := Lib.hid hd
  have HO := Lib.hid (((O.keyMap w.heap.size rfl).key #[.map (some w.heap.size)] 60 (w.heap.size + 1) (by simp)).keyMap (w.heap.size + 2) (by simp))
  have hmk := make_map0
  clear O hin hd
  go_enter Try.func8, Try.ntmps8
  go_wp2_with fail
  obtain ⟨p, hp⟩ : ∃ p, p = w.heap.size + 1 := ⟨_, rfl⟩
  obtain ⟨ms, hms⟩ : ∃ ms, ms = w.heap.size + 2 := ⟨_, rfl⟩
  obtain ⟨m, hm⟩ : ∃ m, m = w.heap.size := ⟨_, rfl⟩
  simp only [← hms] at HO ⊢
  simp only [← hp] at HO ⊢
  simp only [← hm] at HO ⊢
  clear hp hms hm hmk
  have HB0 : Hid (Bk _ w0 X ((ms, .map #[] 0) :: KK) p (startM ks 0)) := ⟨m, #[], 0, HO.out.permK (List.Perm.swap _ _ _), by
    have : bkV (startM ks 0) = fun _ => none := by funext x; simp [bkV, startM, anyK]
    rw [this]; exact MapD.empty⟩
  have HD0 : Hid (MapD #[] 0 (seenV ks 0)) := by
    have : seenV ks 0 = fun _ => none := by funext x; simp [seenV, anyK]
    show MapD _ _ _
    rw [this]; exact MapD.empty
  clear HO
  go_loopw [6, 18] (fun v6 vi wr => ∃ (i : Nat) (es : Array MapEntry) (ck : Nat), vi = .int .i64 i ∧ i ≤ n ∧ v6 = .int .i64 ((500 * i : Nat) : Int) ∧ Bk wr w0 X ((ms, .map es ck) :: KK) p (startM ks i) ∧ MapD es ck (seenV ks i)) (fun _ vi _ => n - (intOf vi).toNat)
  case atStart => exact ⟨0, #[], 0, rfl, by omega, rfl, HB0.out, HD0.out⟩
  case round =>
    obtain ⟨i, es, ck, rfl, hi, rfl, B5, D5⟩ := hrel
    have HB5 := Lib.hid B5
    have HD5 := Lib.hid D5
    by_cases hlt : i < n
    · have hX : ∀ x ∈ X, HasBlk wr x.no x.ty x.cs := fun x hx => B5.has hx
      obtain ⟨lr, hce⟩ := HIN.out wr hX
      replace hce := hce i hlt
      (have e0 : wr.cell? ⟨r, i * 10, none⟩ = some (.int .u8 (by8 (ks i) 0)) := hce 0 _ rfl); (have e1 : wr.cell? ⟨r, i * 10 + 1, none⟩ = some (.int .u8 (by8 (ks i) 1)) := hce 1 _ rfl); (have e2 : wr.cell? ⟨r, i * 10 + 2, none⟩ = some (.int .u8 (by8 (ks i) 2)) := hce 2 _ rfl); (have e3 : wr.cell? ⟨r, i * 10 + 3, none⟩ = some (.int .u8 (by8 (ks i) 3)) := hce 3 _ rfl); (have e4 : wr.cell? ⟨r, i * 10 + 4, none⟩ = some (.int .u8 (by8 (ks i) 4)) := hce 4 _ rfl); (have e5 : wr.cell? ⟨r, i * 10 + 5, none⟩ = some (.int .u8 (by8 (ks i) 5)) := hce 5 _ rfl); (have e6 : wr.cell? ⟨r, i * 10 + 6, none⟩ = some (.int .u8 (by8 (ks i) 6)) := hce 6 _ rfl); (have e7 : wr.cell? ⟨r, i * 10 + 7, none⟩ = some (.int .u8 (by8 (ks i) 7)) := hce 7 _ rfl); (have e8 : wr.cell? ⟨r, i * 10 + 8, none⟩ = some (.int .i64 500) := hce 8 _ rfl); (have e9 : wr.cell? ⟨r, i * 10 + 9, none⟩ = some (.int .i64 0) := hce 9 _ rfl)
      have hnone : seenV ks i (ks i) = none := by
        unfold seenV
        rw [if_neg]
        intro h
        obtain ⟨j, hj, he⟩ := (anyK_iff _ _ _).1 h
        have := HD.out j i (by omega) hlt he
        omega
      obtain ⟨m5, es5, ck5, O5, M5⟩ := B5
      have hlk : (Instr.lookup 61 (.map (some ms)) (.agg #[.int .u8 (by8 (ks i) 0), .int .u8 (by8 (ks i) 1), .int .u8 (by8 (ks i) 2), .int .u8 (by8 (ks i) 3), .int .u8 (by8 (ks i) 4), .int .u8 (by8 (ks i) 5), .int .u8 (by8 (ks i) 6), .int .u8 (by8 (ks i) 7)]) false).run Try.prog (wr.alloc (.cells #[.int .u8 (by8 (ks i) 0), .int .u8 (by8 (ks i) 1), .int .u8 (by8 (ks i) 2), .int .u8 (by8 (ks i) 3), .int .u8 (by8 (ks i) 4), .int .u8 (by8 (ks i) 5), .int .u8 (by8 (ks i) 6), .int .u8 (by8 (ks i) 7), .int .i64 500, .int .i64 0] 30)) = .ok (.bool false) (wr.alloc (.cells #[.int .u8 (by8 (ks i) 0), .int .u8 (by8 (ks i) 1), .int .u8 (by8 (ks i) 2), .int .u8 (by8 (ks i) 3), .int .u8 (by8 (ks i) 4), .int .u8 (by8 (ks i) 5), .int .u8 (by8 (ks i) 6), .int .u8 (by8 (ks i) 7), .int .i64 500, .int .i64 0] 30)) := by
        have := D5.look_none mapB ((O5.alloc (.cells #[.int .u8 (by8 (ks i) 0), .int .u8 (by8 (ks i) 1), .int .u8 (by8 (ks i) 2), .int .u8 (by8 (ks i) 3), .int .u8 (by8 (ks i) 4), .int .u8 (by8 (ks i) 5), .int .u8 (by8 (ks i) 6), .int .u8 (by8 (ks i) 7), .int .i64 500, .int .i64 0] 30)).has (ms, .map es ck) (by simp)) (ks i) hnone (vz_bool _) false
        simpa using this
      have O6 := (O5.key #[.int .u8 (by8 (ks i) 0), .int .u8 (by8 (ks i) 1), .int .u8 (by8 (ks i) 2), .int .u8 (by8 (ks i) 3), .int .u8 (by8 (ks i) 4), .int .u8 (by8 (ks i) 5), .int .u8 (by8 (ks i) 6), .int .u8 (by8 (ks i) 7), .int .i64 500, .int .i64 0] 30 wr.heap.size rfl).permK (List.Perm.swap _ _ _)
      obtain ⟨es6, ck6, hput, D6⟩ := D5.put mapB (O6.has (ms, .map es ck) (by simp)) (ks i) (.bool true)
      have O7 := O6.setMap (es' := es6) (ck' := ck6)
      rw [seenV_succ] at D6
      obtain ⟨W7, hW7⟩ : ∃ W7, W7 = setBlock (wr.alloc (.cells #[.int .u8 (by8 (ks i) 0), .int .u8 (by8 (ks i) 1), .int .u8 (by8 (ks i) 2), .int .u8 (by8 (ks i) 3), .int .u8 (by8 (ks i) 4), .int .u8 (by8 (ks i) 5), .int .u8 (by8 (ks i) 6), .int .u8 (by8 (ks i) 7), .int .i64 500, .int .i64 0] 30)) ms (.map es6 ck6) := ⟨_, rfl⟩
      rw [← hW7] at hput O7
      have hb8 := O7.blk (b := wr.heap.size) (t := 30) (cs := #[.int .u8 (by8 (ks i) 0), .int .u8 (by8 (ks i) 1), .int .u8 (by8 (ks i) 2), .int .u8 (by8 (ks i) 3), .int .u8 (by8 (ks i) 4), .int .u8 (by8 (ks i) 5), .int .u8 (by8 (ks i) 6), .int .u8 (by8 (ks i) 7), .int .i64 500, .int .i64 0]) (by simp)
      (have k0 := hb8.cell 0); (have k1 := hb8.cell 1); (have k2 := hb8.cell 2); (have k3 := hb8.cell 3); (have k4 := hb8.cell 4); (have k5 := hb8.cell 5); (have k6 := hb8.cell 6); (have k7 := hb8.cell 7); (have k8 := hb8.cell 8); (have k9 := hb8.cell 9)
      have l8 := hb8.lt
      have HB7 : Hid (Bk W7 w0 (⟨wr.heap.size, 30, #[.int .u8 (by8 (ks i) 0), .int .u8 (by8 (ks i) 1), .int .u8 (by8 (ks i) 2), .int .u8 (by8 (ks i) 3), .int .u8 (by8 (ks i) 4), .int .u8 (by8 (ks i) 5), .int .u8 (by8 (ks i) 6), .int .u8 (by8 (ks i) 7), .int .i64 500, .int .i64 0]⟩ :: X) ((ms, .map es6 ck6) :: KK) p (startM ks i)) := ⟨m5, es5, ck5, (O7.permK (List.Perm.swap _ _ _)).perm (perm_cnt fun x => by simp only [cnt_append, cnt_cons, cnt_nil] <;> omega), M5⟩
      have HD6 := Lib.hid D6
      simp only [List.getElem?_toArray, List.getElem?_cons_succ, List.getElem?_cons_zero] at k0 k1 k2 k3 k4 k5 k6 k7 k8 k9
      clear hW7 O7 O6 O5 D5 M5 D6 hb8 hce hX hnone
      go_wp2_with fail
      refine (put_to p (ks i) 500 _ w0 _ _ _ HB7.out).mono ?_
      rintro e w8 ⟨rfl, B8⟩
      rw [startM_succ] at B8
      have hb8 := B8.has (b := wr.heap.size) (t := 30) (cs := #[.int .u8 (by8 (ks i) 0), .int .u8 (by8 (ks i) 1), .int .u8 (by8 (ks i) 2), .int .u8 (by8 (ks i) 3), .int .u8 (by8 (ks i) 4), .int .u8 (by8 (ks i) 5), .int .u8 (by8 (ks i) 6), .int .u8 (by8 (ks i) 7), .int .i64 500, .int .i64 0]) (by simp)
      have v8 := hb8.cell 8
      have l8' := hb8.lt
      simp only [List.getElem?_toArray, List.getElem?_cons_succ, List.getElem?_cons_zero] at v8
      have HB8 := Lib.hid (Bk.dropC (B := [_]) B8)
      have hsum : ((500 * i : Nat) : Int) + 500 = ((500 * (i + 1) : Nat) : Int) := by omega
      clear hb8 B8 HB7 hput hlk k0 k1 k2 k3 k4 k5 k6 k7 k8 k9 l8
      go_wp2
      exact ⟨⟨i + 1, es6, ck6, by simp, by omega, by simp; omega, HB8.out, HD6.out⟩, by simp [intOf]; omega⟩
    · obtain rfl : i = n := by omega
      clear B5 D5
      have hd1 : decide ((1125899906842624 : Int) < ((500 * i : Nat) : Int)) = false := decide_eq_false (by omega)
      go_wp2
      refine bodyPost_ret (v := .tuple #[ptr p, .int .i64 0]) (by simp [results, Try.results8, go_sem]) rfl ?_
      obtain ⟨m9, es9, ck9, O9, M9⟩ := HB5.out
      exact ⟨_, rfl, m9, es9, ck9, (O9.permK (List.Perm.swap _ _ _)).dropK, M9⟩

end Go.Proofs.Yteopbfehfipcmaa
