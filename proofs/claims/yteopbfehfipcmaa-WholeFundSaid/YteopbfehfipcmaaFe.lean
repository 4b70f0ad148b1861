/- coin: Right, Add, Sum; fund: New. -/
import Derived.Test.YteopbfehfipcmaaFd
import Derived.Laws.IdiomCopy
namespace Go.Proofs.Yteopbfehfipcmaa
set_option linter.unusedSimpArgs false
set_option linter.unusedVariables false
open Go.RowKit Go.ChangeMaps

set_option maxRecDepth 100000 in
theorem right_ok (n : Int) (h0 : 0 ≤ n) (h1 : n ≤ 1000000) (w : World) : Calls Try.prog 24 #[.int .i64 n] w fun e w' => e = .returned (.bool true) ∧ w' = w := by
  have hd1 : decide ((0 : Int) ≤ n) = true := decide_eq_true h0
  have hd2 : decide (n ≤ 1125899906842624) = true := decide_eq_true (by omega)
  go_enter Try.func24, Try.ntmps24
  go_wp2
  go_ret
  exact ⟨rfl, rfl⟩
set_option maxRecDepth 100000 in
set_option maxHeartbeats 1000000 in
theorem add_ok (a b c : Int) (hc : a + b = c) (ha : 0 ≤ a) (hb : 0 ≤ b) (hm : c ≤ 1000000) (w : World) : Calls Try.prog 23 #[.int .i64 a, .int .i64 b] w fun e w' => e = .returned (.tuple #[.int .i64 c, .int .i64 0]) ∧ w' = w := by
  have T1 := right_ok a ha (by omega) w
  have T2 := right_ok b hb (by omega) w
  have T3 := right_ok c (by omega) hm w
  go_enter Try.func23, Try.ntmps23
  go_wp2_with fail
  refine T1.mono ?_
  rintro e w2 ⟨rfl, rfl⟩
  go_wp2_with fail
  refine T2.mono ?_
  rintro e w2 ⟨rfl, rfl⟩
  go_wp2_with fail
  refine T3.mono ?_
  rintro e w2 ⟨rfl, rfl⟩
  go_wp2
  refine bodyPost_ret (v := .tuple #[.int .i64 c, .int .i64 0]) (by simp [results, Try.results23, go_sem]) rfl ⟨rfl, rfl⟩
def upS (st : Nat → Int) (k : Nat) : Int := ((List.range k).map st).sum
theorem upS_succ (st : Nat → Int) (k : Nat) : upS st (k + 1) = upS st k + st k := by
  unfold upS
  rw [List.range_succ, List.map_append, List.sum_append]
  simp
set_option maxRecDepth 100000 in
set_option maxHeartbeats 2000000 in
theorem sum_ok (r n cap : Nat) (st : Nat → Int) (w : World) (hn : n ≤ 8) (hcap : n ≤ cap) (hr : r < w.heap.size) (hc : ∀ i, i < n → w.cell? ⟨r, i, none⟩ = some (.int .i64 (st i))) (hs : ∀ i, i < n → 1 ≤ st i ∧ st i ≤ 1000) :
    Calls Try.prog 19 #[.slice (some ⟨r, 0, none⟩) n cap] w fun e w' => e = .returned (.tuple #[.int .i64 (upS st n), .int .i64 0]) ∧ w' = w := by
  have HC := Lib.hid hc
  have HS := Lib.hid hs
  clear hc hs
  go_enter Try.func19, Try.ntmps19
  go_wp2_with fail
  go_loopw [4, 6, 7, 8, 11] (fun va _ _ _ vi wr => ∃ (i : Nat), vi = .int .i64 i ∧ i ≤ n ∧ va = .int .i64 (upS st i) ∧ 0 ≤ upS st i ∧ upS st i ≤ 1000 * i ∧ wr = w) (fun _ _ _ _ vi _ => n - (intOf vi).toNat)
  case atStart => exact ⟨0, rfl, by omega, by simp [upS], by simp [upS], by simp [upS], rfl⟩
  case round =>
    obtain ⟨i, rfl, hi, rfl, h0, h1, rfl⟩ := hrel
    by_cases hlt : i < n
    · have hsi := HS.out i hlt
      have ci := HC.out i hlt
      have hsu := upS_succ st i
      obtain ⟨gi, hgi⟩ : ∃ g, st i = g := ⟨_, rfl⟩
      rw [hgi] at hsi hsu ci
      obtain ⟨h, hh⟩ : ∃ h, upS st i = h := ⟨_, rfl⟩
      have HSU := Lib.hid hsu
      rw [hh] at h0 h1 HSU ⊢
      clear hsu hh hgi
      have T := add_ok h gi (h + gi) rfl h0 (by omega) (by omega) wr
      go_wp2_with fail
      refine T.mono ?_
      rintro e w2 ⟨rfl, rfl⟩
      go_wp2
      have e1 := HSU.out
      exact ⟨⟨i + 1, by simp, by omega, by rw [e1], by omega, by omega, by simp⟩, by simp [intOf]; omega⟩
    · obtain rfl : i = n := by omega
      go_wp2
      refine bodyPost_ret (v := .tuple #[.int .i64 (upS st i), .int .i64 0]) (by simp [results, Try.results19, go_sem]) rfl ⟨rfl, rfl⟩
theorem Omw.copyL {P : Program} {w w0 : World} {ops : Array Oper} {rest : List Oper} {o : Oper} {a : Act} {Q : Exit → Act → World → Prop} {L : List Blk} {K : List (Nat × Obj)} {b : Nat} {t : TypeId} {cs0 : Array Value} (O : Omw w w0 (⟨b, t, cs0⟩ :: L) K) (hgd : o.guard = none) (d s : Operand) (dT sT elem : TypeId)
    (ho : o.op = .call { callee := .builtin .copy, args := #[d, s], argTypes := #[dT, sT] }) (hu : P.underlying dT = some (.slice elem)) (hsz : (P.info? elem).map (·.size) = some 1) (off dLen dCap : Nat) (ad : Addr) (sLen sCap : Nat)
    (hd : a.eval d = .slice (some ⟨b, off, none⟩) dLen dCap) (hs : a.eval s = .slice (some ad) sLen sCap) (cs : List Value) (hn : cs.length = Nat.min sLen dLen) (hsrc : ∀ j v, cs[j]? = some v → w.cell? (ad.add j) = some v) (hfit : off + cs.length ≤ cs0.size) (h1 : ∀ v ∈ cs, v.oneCell' = true)
    (h : ∀ w', Omw w' w0 (⟨b, t, writeAt cs0 off cs⟩ :: L) K → wpList P ops Q rest (a.put o.dst (goInt cs.length)) w') : wpList P ops Q (o :: rest) a w := by
  have hb := O.blk (List.mem_cons_self ..)
  have hrun := run_copy_cells (P := P) w dT sT o.type elem b off dLen dCap ad sLen sCap cs hu hsz hn hsrc (fun j hj => by rw [hb.cell, Array.getElem?_eq_getElem (by omega)]; rfl) (fun j hj => hb.frozen _) h1
  refine wpList_plain hgd fun K' hK' => ?_
  unfold Oper.wp
  simp [execOp, ho, resolve, invoke, builtin, hd, hs, hrun, Result.andThen]
  exact hK' _ _ (h _ (O.lays off cs))
def newF (n : Nat) (st : Nat → Int) (by_ : Int) : FU := ⟨n, fun i => if i < n then st i else 0, fun _ => false, by_⟩
theorem newF_cells (n : Nat) (h : n ≤ 8) (st : Nat → Int) (by_ : Int) : writeAt (fcs ⟨n, fun _ => 0, fun _ => false, by_⟩) 1 ((List.range n).map fun i => .int .i64 (st i)) = fcs (newF n st by_) := by
  rcases (by omega : n = 0 ∨ n = 1 ∨ n = 2 ∨ n = 3 ∨ n = 4 ∨ n = 5 ∨ n = 6 ∨ n = 7 ∨ n = 8) with rfl | rfl | rfl | rfl | rfl | rfl | rfl | rfl | rfl <;> simp [writeAt, fcs, newF, List.range_succ]
set_option maxRecDepth 100000 in
set_option maxHeartbeats 4000000 in
theorem fnew_ok (r n cap : Nat) (st : Nat → Int) (by_ : Nat) (w w0 : World) (X : List Blk) (KK : List (Nat × Obj)) (O : Omw w w0 X KK) (h2 : 2 ≤ n) (hn : n ≤ 8) (hcap : n ≤ cap) (hr : r < w.heap.size) (hc : ∀ i, i < n → w.cell? ⟨r, i, none⟩ = some (.int .i64 (st i))) (hs : ∀ i, i < n → 1 ≤ st i ∧ st i ≤ 1000) (hby : by_ ≤ 1000000) :
    Calls Try.prog 7 #[.slice (some ⟨r, 0, none⟩) n cap, .int .i64 by_] w fun e w' => ∃ p, e = .returned (.tuple #[ptr p, .int .i64 0]) ∧ Omw w' w0 (⟨p, 57, fcs (newF n st by_)⟩ :: X) KK := by
  have HC := Lib.hid hc
  have HS := Lib.hid hs
  have HO := Lib.hid (O.key (fcs ⟨n, fun _ => 0, fun _ => false, by_⟩) 57 w.heap.size rfl)
  have T := sum_ok r n cap st w hn hcap hr hc hs
  have hHC : Hid (∀ j v, ((List.range n).map fun i => Value.int .i64 (st i))[j]? = some v → (w.alloc (.cells (fcs ⟨n, fun _ => 0, fun _ => false, by_⟩) 57)).cell? ((⟨r, 0, none⟩ : Addr).add j) = some v) := by
    intro j v hj
    have hjl := (List.getElem?_eq_some_iff.1 hj).1
    simp at hjl
    simp [hjl] at hj
    rw [← hj, Addr.add_mid, World.cell?_alloc_old _ _ _ (show r ≠ _ by omega), Nat.zero_add]
    exact hc j hjl
  have HN1 : Hid (((List.range n).map fun i => Value.int .i64 (st i)).length = Nat.min n 8) := by show _ = _; rw [List.length_map, List.length_range]; exact (Nat.min_eq_left hn).symm
  have HN2 : Hid (1 + ((List.range n).map fun i => Value.int .i64 (st i)).length ≤ (fcs ⟨n, fun _ => 0, fun _ => false, (by_ : Int)⟩).size) := by show _ ≤ _; rw [List.length_map, List.length_range]; show _ ≤ 18; omega
  have HN3 : Hid (∀ v ∈ ((List.range n).map fun i => Value.int .i64 (st i)), v.oneCell' = true) := by
    intro v hv
    obtain ⟨i, -, rfl⟩ := List.mem_map.1 hv
    rfl
  obtain ⟨W3, HRUN, HO3⟩ : ∃ W3, (∀ ty, (Builtin.copy_ #[24, 24] ty #[.slice (some ⟨w.heap.size, 1, none⟩) 8 8, .slice (some ⟨r, 0, none⟩) n cap]).run Try.prog (w.alloc (.cells #[.int .i64 n, .int .i64 0, .int .i64 0, .int .i64 0, .int .i64 0, .int .i64 0, .int .i64 0, .int .i64 0, .int .i64 0, .bool false, .bool false, .bool false, .bool false, .bool false, .bool false, .bool false, .bool false, .int .i64 by_] 57)) = .ok (goInt n) W3) ∧ Hid (Omw W3 w0 (⟨w.heap.size, 57, fcs (newF n st by_)⟩ :: X) KK) := by
    have hb := HO.out.blk (List.mem_cons_self ..)
    have O3 := HO.out.lays 1 ((List.range n).map fun i => .int .i64 (st i))
    rw [newF_cells n hn] at O3
    refine ⟨_, fun ty => ?_, O3⟩
    have hrun := run_copy_cells (P := Try.prog) (w.alloc (.cells (fcs ⟨n, fun _ => 0, fun _ => false, by_⟩) 57)) 24 24 ty 3 w.heap.size 1 8 8 ⟨r, 0, none⟩ n cap ((List.range n).map fun i => .int .i64 (st i)) Try.underlying24 (by kernel_rfl) HN1.out hHC.out (fun j hj => by rw [hb.cell, Array.getElem?_eq_getElem (by have := HN2.out; omega)]; rfl) (fun j hj => hb.frozen _) HN3.out
    rw [List.length_map, List.length_range] at hrun
    exact hrun
  clear hc hs O
  go_enter Try.func7, Try.ntmps7
  go_wp2_with fail
  go_loopw [7, 21] (fun _ vi wr => ∃ (i : Nat), vi = .int .i64 i ∧ i ≤ n ∧ wr = w) (fun _ vi _ => n - (intOf vi).toNat)
  case atStart => exact ⟨0, rfl, by omega, rfl⟩
  case round =>
    obtain ⟨i, rfl, hi, rfl⟩ := hrel
    by_cases hlt : i < n
    · have hsi := HS.out i hlt
      have ci := HC.out i hlt
      obtain ⟨gi, hgi⟩ : ∃ g, st i = g := ⟨_, rfl⟩
      rw [hgi] at hsi ci
      clear hgi
      have hne : (gi == 0) = false := by simp; omega
      go_wp2
      exact ⟨⟨i + 1, by simp, by omega, by simp⟩, by simp [intOf]; omega⟩
    · obtain rfl : i = n := by omega
      go_wp2_with fail
      refine T.mono ?_
      rintro e w2 ⟨rfl, rfl⟩
      go_wp2
      refine bodyPost_ret (v := .tuple #[ptr w2.heap.size, .int .i64 0]) (by simp [results, Try.results7, go_sem]) rfl ?_
      exact ⟨_, rfl, HO3.out⟩

end Go.Proofs.Yteopbfehfipcmaa
