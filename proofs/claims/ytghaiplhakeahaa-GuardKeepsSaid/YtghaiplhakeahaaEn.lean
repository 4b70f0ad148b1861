/- The contract of a state's method end. -/
import Derived.Test.YtghaiplhakeahaaBt
import Derived.Test.YtghaiplhakeahaaBy
import Derived.Test.YtghaiplhakeahaaEqd
import Derived.Deep.RegionLaw
import Derived.Laws.CopyRow
import Derived.Laws.CopyOwn
import Derived.IntWalk
namespace Go.Proofs.Ytghaiplhakeahaa
set_option linter.unusedSimpArgs false
set_option linter.unusedVariables false
open Go.RowKit

theorem setRow_alloc (W : World) (c c' : Array Value) (t : TypeId) (k : Nat) (hk : k = W.heap.size) : (W.alloc (.cells c t)).setRow k c' = W.alloc (.cells c' t) := by
  subst hk
  show ({ W with heap := (W.heap.push (.cells c t)).modify W.heap.size _ } : World) = { W with heap := W.heap.push (.cells c' t) }
  congr 1
  apply Array.ext_getElem?
  intro i
  simp only [Array.getElem?_modify, Array.getElem?_push]
  by_cases h : W.heap.size = i
  · subst h; simp
  · have h' : ¬ i = W.heap.size := fun e => h e.symm
    simp [h, h']

/-- copy into a block that was just made. -/
theorem step_copy_new {P : Program} {ops : Array Oper} {o : Oper} {a : Act} {W : World} {K : Act → World → Prop} {Q : Exit → Act → World → Prop} {E : Prop} (hgd : o.guard = none) (d s : Operand) (dT sT : TypeId)
    (ho : o.op = .call { callee := .builtin .copy, args := #[d, s], argTypes := #[dT, sT] }) (elem : TypeId) (hu : P.underlying dT = some (.slice elem)) (hsz : (P.info? elem).map (·.size) = some 1)
    (D : Nat) (hD : D = W.heap.size) (sp : Option Addr) (dLen dCap sLen sCap : Nat) (hd : a.eval d = .slice (some ⟨D, 0, none⟩) dLen dCap) (hs : a.eval s = .slice sp sLen sCap)
    (cur : Array Value) (t : TypeId) (cs : List Value) (hn : cs.length = Nat.min sLen dLen)
    (hsrc : 0 < cs.length → ∃ ad, sp = some ad ∧ ∀ j v, cs[j]? = some v → W.cell? (ad.add j) = some v)
    (hfit : cs.length ≤ cur.size) (h1 : ∀ v ∈ cs, v.oneCell' = true) (C1 : Array Value) (hC : C1 = (splice cur.toList 0 cs).toArray)
    (h : K (a.put o.dst (goInt cs.length)) (W.alloc (.cells C1 t)).drew) :
    if Region.wanted o (yielded ops a.tmps) = true then Oper.wp P o a (W.alloc (.cells cur t)).drew K Q else E := by
  rw [if_pos (by simp [Region.wanted, hgd])]
  have hself : (W.alloc (.cells cur t)).heap[D]? = some (.cells cur t (0, 0)) := by subst hD; exact heap_alloc_new W _
  subst hC
  by_cases h0 : cs.length = 0
  · obtain rfl : cs = [] := List.eq_nil_of_length_eq_zero h0
    have hrun := run_copy_none (P := P) (W.alloc (.cells cur t)).drew dT sT o.type elem (some ⟨D, 0, none⟩) sp dLen dCap sLen sCap hu hsz (by simpa using hn.symm)
    unfold Oper.wp
    simp [execOp, ho, resolve, invoke, builtin, hd, hs, hrun, Result.andThen, Oper.upon]
    simpa [splice] using h
  · obtain ⟨ad, rfl, hsrc'⟩ := hsrc (by omega)
    have hrun := run_copy_row (P := P) (W.alloc (.cells cur t)).drew dT sT o.type elem D 0 dLen dCap ad sLen sCap cur t cs hu hsz hself hn (fun j v hj => by
      show (W.alloc (.cells cur t)).cell? _ = _
      rw [World.cell?_alloc_lt _ _ _ (World.block_lt_of_cell? _ _ (hsrc' j v hj))]
      exact hsrc' j v hj) (by simpa using hfit) h1
    unfold Oper.wp
    simp [execOp, ho, resolve, invoke, builtin, hd, hs, hrun, Result.andThen, Oper.upon]
    have e : ((W.alloc (.cells cur t)).drew.setRow D (cur.toList.take 0 ++ cs ++ cur.toList.drop (0 + cs.length)).toArray) = (W.alloc (.cells (splice cur.toList 0 cs).toArray t)).drew := by
      show ((W.alloc (.cells cur t)).setRow D _).drew = _
      rw [setRow_alloc _ _ _ _ _ hD]
      simp [splice]
    simp at e
    rw [e]
    exact h

theorem num_at' (x : BitVec 64) (v : Value) (h : v = .agg #[.int .u8 (by8 x 0), .int .u8 (by8 x 1), .int .u8 (by8 x 2), .int .u8 (by8 x 3), .int .u8 (by8 x 4), .int .u8 (by8 x 5), .int .u8 (by8 x 6), .int .u8 (by8 x 7)]) (w : World) :
    Calls Try.prog 90 #[v] w fun e w' => e = .returned (.int .u64 (nv x)) ∧ Below w.heap.size w w' := by
  subst h; exact num_any x w
theorem take_int (s : St) (n : Nat) (b o : Nat) (w : World) (hn : n < 18446744073709551616) (hs : HasSt w b o s) :
    Calls Try.prog 89 #[.pointer (some ⟨b, o, none⟩), .int .u64 n] w fun e w' => e = .returned (.tuple #[]) ∧ ∃ n', w' = (putSt w b o (takeF s (BitVec.ofNat 64 n))).drewN n' := by
  have h := take_any s (BitVec.ofNat 64 n) b o w hs.h0 hs.h1 hs.h2 hs.h3 hs.f0 hs.f1 hs.f2 hs.f3
  rwa [nv_lit n hn] at h
theorem take_st (s : St) (x : BitVec 64) (b o : Nat) (w : World) (hs : HasSt w b o s) :
    Calls Try.prog 89 #[.pointer (some ⟨b, o, none⟩), .int .u64 (nv x)] w fun e w' => e = .returned (.tuple #[]) ∧ ∃ n', w' = (putSt w b o (takeF s x)).drewN n' :=
  take_any s x b o w hs.h0 hs.h1 hs.h2 hs.h3 hs.f0 hs.f1 hs.f2 hs.f3

theorem HasSt.alloc {w : World} {b o : Nat} {s : St} (h : HasSt w b o s) (ob : Obj) : HasSt (w.alloc ob) b o s := by rw [alloc_self]; exact h.plus _ _
theorem HasSt.drewN {w : World} {b o : Nat} {s : St} (h : HasSt w b o s) (k : Nat) : HasSt (w.drewN k) b o s := ⟨h.h0, h.h1, h.h2, h.h3, h.f0, h.f1, h.f2, h.f3⟩
theorem plus_drewN' (w : World) (g : Array Obj) (d k : Nat) : (plus w g d).drewN k = plus w g (d + k) := rfl
theorem putSt_alloc (w : World) (b o : Nat) (s : St) (ob : Obj) (hb : b < w.heap.size) : putSt (w.alloc ob) b o s = plus (putSt w b o s) #[ob] w.drawn := by
  rw [alloc_self, putSt_plus _ _ _ hb]

theorem by8_tail (l r : List UInt8) (hr : l.drop (8 * (l.length / 8)) = r) (j : Nat) (hj : j < 8) : by8 (tailW l) j = (((r ++ [1]).getD j 0).toNat : Int) := by
  subst hr
  unfold tailW
  rw [by8_wordAt _ _ _ hj]
  congr 2
  simp only [List.getD_eq_getElem?_getD]
  congr 1
  rw [List.getElem?_append, List.getElem?_append, List.length_drop]
  by_cases h : 8 * (l.length / 8) + j < l.length
  · rw [if_pos h, if_pos (by omega), List.getElem?_drop]
  · rw [if_neg h, if_neg (by omega)]
    congr 1; omega

/-- What lies in the eight behind the copy, and behind the 1. -/
theorem tail_cells (l : List UInt8) (r : List UInt8) (hr : l.drop (8 * (l.length / 8)) = r) :
    (splice [Value.int .u8 0, .int .u8 0, .int .u8 0, .int .u8 0, .int .u8 0, .int .u8 0, .int .u8 0, .int .u8 0] 0 (bcs r)).toArray.setIfInBounds r.length (.int .u8 1) = #[.int .u8 (by8 (tailW l) 0), .int .u8 (by8 (tailW l) 1), .int .u8 (by8 (tailW l) 2), .int .u8 (by8 (tailW l) 3), .int .u8 (by8 (tailW l) 4), .int .u8 (by8 (tailW l) 5), .int .u8 (by8 (tailW l) 6), .int .u8 (by8 (tailW l) 7)] := by
  have hlen : r.length < 8 := by rw [← hr, List.length_drop]; omega
  have h0 := by8_tail l r hr 0 (by omega)
  have h1 := by8_tail l r hr 1 (by omega)
  have h2 := by8_tail l r hr 2 (by omega)
  have h3 := by8_tail l r hr 3 (by omega)
  have h4 := by8_tail l r hr 4 (by omega)
  have h5 := by8_tail l r hr 5 (by omega)
  have h6 := by8_tail l r hr 6 (by omega)
  have h7 := by8_tail l r hr 7 (by omega)
  rw [h0, h1, h2, h3, h4, h5, h6, h7]
  match r, hlen with
  | [], _ => rfl
  | [_], _ => rfl
  | [_, _], _ => rfl
  | [_, _, _], _ => rfl
  | [_, _, _, _], _ => rfl
  | [_, _, _, _, _], _ => rfl
  | [_, _, _, _, _, _], _ => rfl
  | [_, _, _, _, _, _, _], _ => rfl
  | _ :: _ :: _ :: _ :: _ :: _ :: _ :: _ :: _, h => simp at h; omega

set_option maxRecDepth 100000 in
set_option maxHeartbeats 1000000 in
theorem end_any (s : St) (b o : Nat) (v : Value) (l : List UInt8) (w : World) (hv : BSl w v l) (hl : l.length ≤ 1000000000) (hs : HasSt w b o s) :
    Calls Try.prog 109 #[.pointer (some ⟨b, o, none⟩), v] w fun e w' => e = .returned (.tuple #[]) ∧ ∃ g d, w' = plus (putSt w b o (endF s l)) g d := by
  obtain ⟨ao, cap, rfl, h1, h2, h3⟩ := hv.open_
  have hb := hs.lt
  have HS := Lib.hid hs
  have HV := Lib.hid hv
  have HNO := Lib.hid h2
  clear hs hv h3 h2
  obtain ⟨r, HR⟩ : ∃ r, Hid (l.drop (8 * (l.length / 8)) = r) := ⟨_, rfl⟩
  obtain ⟨q, HQ⟩ : ∃ q, Hid (q = l.length / 8) := ⟨_, rfl⟩
  obtain ⟨m, HM⟩ : ∃ m, Hid (m = l.length) := ⟨_, rfl⟩
  have hq0 : 8 * q ≤ l.length := by rw [HQ.out]; omega
  have hqi : (l.length : Int) / 8 = (q : Int) := by rw [HQ.out]; omega
  have hrl : r.length = l.length - q * 8 := by rw [← HR.out, List.length_drop, ← HQ.out]; omega
  have hr8 : r.length < 8 := by rw [hrl, HQ.out]; omega
  obtain ⟨C1, HC1⟩ : ∃ C1, Hid (C1 = (splice [Value.int .u8 0, .int .u8 0, .int .u8 0, .int .u8 0, .int .u8 0, .int .u8 0, .int .u8 0, .int .u8 0] 0 (bcs r)).toArray) := ⟨_, rfl⟩
  obtain ⟨t, HT⟩ : ∃ t, Hid (tailW l = t) := ⟨_, rfl⟩
  have hset : C1.setIfInBounds r.length (.int .u8 1) = #[.int .u8 (by8 t 0), .int .u8 (by8 t 1), .int .u8 (by8 t 2), .int .u8 (by8 t 3), .int .u8 (by8 t 4), .int .u8 (by8 t 5), .int .u8 (by8 t 6), .int .u8 (by8 t 7)] := by rw [HC1.out, ← HT.out]; exact tail_cells l r HR.out
  have hz : C1.size = 8 := by
    have := congrArg Array.size hset
    simpa using this
  have HF : Hid (endF s l = takeF (takeF s t) (BitVec.ofNat 64 l.length)) := by show takeF (takeF s (tailW l)) _ = _; rw [HT.out]
  have hd := HV.out.drop (q * 8) (by omega)
  rw [Nat.mul_one, show l.drop (q * 8) = r by rw [← HR.out, ← HQ.out, Nat.mul_comm]] at hd
  have HD := Lib.hid hd.cells.2.2
  have HDN := Lib.hid hd.cells.2.1
  clear hd
  have hw1 : IntKind.i64.wrap (q : Int) = q := IntWalk.i64_in _ (by omega)
  have hw2 : IntKind.i64.wrap ((q : Int) * 8) = (q : Int) * 8 := IntWalk.i64_in _ (by omega)
  have hw3 : ((q : Int) * 8).toNat = q * 8 := by omega
  have hw4 : (0 : Int) ≤ (q : Int) * 8 := by omega
  have hw5 : (q : Int) * 8 ≤ (l.length : Int) := by omega
  have hcs : (bcs r).length = r.length := bcs_len r
  obtain ⟨u0, hu0⟩ : ∃ u0, C1[r.length]? = some u0 := ⟨_, Array.getElem?_eq_getElem (by omega)⟩
  have hr8i : (r.length : Int) < 8 := by omega
  clear hrl
  have HRL : Hid (l.length - q * 8 = r.length) := by show _ = _; rw [← HR.out, List.length_drop, ← HQ.out]; omega
  have hsz : (Try.prog.info? 5).map (·.size) = some 1 := by kernel_rfl
  have HZ := Lib.hid hsz
  have HN : Hid ((bcs r).length = Nat.min (l.length - q * 8) 8) := by show _ = _; rw [bcs_len, HRL.out]; exact (Nat.min_eq_left (by omega)).symm
  have HSRC : Hid (0 < (bcs r).length → ∃ ad, (if cap = q * 8 then ao else Option.map (fun x => x.add (q * 8)) ao) = some ad ∧ ∀ j v, (bcs r)[j]? = some v → w.cell? (ad.add j) = some v) := fun h0 => by
    generalize hE : (if cap = q * 8 then ao else Option.map (fun x => x.add (q * 8)) ao) = E at HD HDN
    cases E with
    | none => have := (HDN.out rfl).1; rw [bcs_len] at h0; omega
    | some ad => exact ⟨ad, rfl, HD.out ad rfl⟩
  have HFIT : Hid ((bcs r).length ≤ 8) := by show _ ≤ _; rw [bcs_len]; omega
  clear hsz
  go_enter Try.func109, Try.ntmps109
  go_wp2
  go_region_law (refine step_copy_new rfl (.tmp 6) (.tmp 12) 26 26 rfl 5 Try.underlying26 HZ.out _ rfl _ _ _ _ _ rfl rfl _ _ (bcs r) HN.out HSRC.out HFIT.out (bcs_one r) C1 HC1.out ?_)
  all_goals
    go_wp2_with (first
      | (go_at_call 90; refine (num_any _ _).mono ?_; rintro e w1 ⟨rfl, hb1⟩; obtain ⟨g1, d1, rfl⟩ := plus_of_below hb1; clear hb1)
      | (go_at_call 89; (with_reducible refine (take_st s t _ _ _ ((HS.out.alloc _).plus _ _)).mono ?_); rintro e w3 ⟨rfl, n3, rfl⟩; rw [putSt_plus _ _ _ (by simp; omega), putSt_alloc _ _ _ _ _ hb, plus_plus, plus_drewN'])
      | (go_at_call 89; (with_reducible refine (take_int (takeF s t) l.length _ _ _ (by omega) ((HS.out.put _).plus _ _)).mono ?_); rintro e w4 ⟨rfl, n4, rfl⟩; rw [putSt_plus _ _ _ (by rw [putSt_size]; exact hb), putSt_putSt, plus_drewN']))
    all_goals
      go_end0
      exact ⟨rfl, _, _, by rw [HF.out]⟩

/-- bytes: whole, then end. -/
theorem bytes_any (s : St) (b o : Nat) (v : Value) (l : List UInt8) (w : World) (hv : BSl w v l) (hl : l.length ≤ 1000000000) (hs : HasSt w b o s)
    (hne : ∀ bs os n c, v = .slice (some ⟨bs, os, none⟩) n c → 8 ≤ n → bs ≠ b) (hv2 : ∀ t, BSl (putSt w b o t) v l) :
    Calls Try.prog 91 #[.pointer (some ⟨b, o, none⟩), v] w fun e w' => e = .returned (.tuple #[]) ∧ ∃ g d, w' = plus (putSt w b o (bytesF s l)) g d := by
  have hb := hs.lt
  have HS := Lib.hid hs
  have HV := Lib.hid hv
  have HV2 := Lib.hid hv2
  have HNE := Lib.hid hne
  clear hs hv hv2 hne
  obtain ⟨t, HT⟩ : ∃ t, Hid (wholeF s l (l.length / 8) = t) := ⟨_, rfl⟩
  have HF : Hid (bytesF s l = endF t l) := by show endF _ l = _; rw [HT.out]
  go_enter Try.func91, Try.ntmps91
  go_wp2_with (first
    | (go_at_call 108; refine (whole_any s b o v l _ HV.out hl HS.out HNE.out).mono ?_; rintro e w1 ⟨rfl, g1, d1, rfl⟩; rw [HT.out])
    | (go_at_call 109; refine (end_any t b o v l _ ((HV2.out _).plus _ _) hl ((HS.out.put _).plus _ _)).mono ?_; rintro e w2 ⟨rfl, g2, d2, rfl⟩; rw [putSt_plus _ _ _ (by rw [putSt_size]; exact hb), putSt_putSt, plus_plus]))
  go_end0
  exact ⟨rfl, _, _, by rw [HF.out]⟩

end Go.Proofs.Ytghaiplhakeahaa
