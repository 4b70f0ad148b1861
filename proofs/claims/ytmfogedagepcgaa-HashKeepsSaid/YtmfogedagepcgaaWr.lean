/- hash.Writer: contracts of its methods. -/
import Derived.Test.YtmfogedagepcgaaOf
import Derived.Test.YtmfogedagepcgaaNc
import Derived.Test.YtmfogedagepcgaaTl
import Derived.Test.YtmfogedagepcgaaMem
import Derived.Outline
namespace Go.Proofs.Ytmfogedagepcgaa
set_option linter.unusedSimpArgs false
set_option linter.unusedVariables false
open Go.RowKit

theorem calls_mem {P : Program} {f : FuncId} {args : Array Value} {Q : Ending → World → Prop} {W : World} (S : World → Prop) (h : S W) (k : ∀ W', S W' → Calls P f args W' Q) : Calls P f args W Q := k W h
theorem wp_mem {P : Program} {c : Code} {Q : Exit → Act → World → Prop} {a : Act} {W : World} (S : World → Prop) (h : S W) (k : ∀ W', S W' → c.wp P Q a W') : c.wp P Q a W := k W h

/-! ### Whole words, piece by piece -/
theorem wordAt_drop (l : List UInt8) (a k : Nat) : wordAt (l.drop (8 * a)) k = wordAt l (a + k) :=
  word8_congr fun j _ => by simp only [List.getD_eq_getElem?_getD, List.getElem?_drop]; congr 2; omega
theorem wholeF_add (s : St) (l : List UInt8) (a : Nat) : ∀ b, wholeF (wholeF s l a) (l.drop (8 * a)) b = wholeF s l (a + b)
  | 0 => rfl
  | b + 1 => by
    rw [wholeF, wholeF_add s l a b, wordAt_drop]; rfl
theorem wholeF_app (s : St) (l r : List UInt8) : wholeF s (l ++ r) (l.length / 8) = wholeF s l (l.length / 8) :=
  wholeF_congr s _ _ _ fun k hk => wordAt_front l r k (by omega)
/-- Behind so many bytes: the state. -/
noncomputable def stF (l : List UInt8) : St := wholeF (beginF 1#64) l (l.length / 8)
theorem stF_app (l r : List UInt8) : wholeF (stF l) ((l ++ r).drop (8 * (l.length / 8))) (((l ++ r).drop (8 * (l.length / 8))).length / 8) = stF (l ++ r) := by
  unfold stF
  rw [← wholeF_app _ l r, wholeF_add]
  congr 1
  simp only [List.length_drop, List.length_append]
  omega
theorem of_stF (l : List UInt8) : givesF (endF (stF l) l) = ofF l := rfl

/-! ### The block -/
noncomputable abbrev wcs (v : Value) (s : St) : Array Value := #[v, .int .u64 (nv s.a), .int .u64 (nv s.b), .int .u64 (nv s.c), .int .u64 (nv s.d)]
section
variable {w w0 : World} {B L : List Blk} {p : Nat} {t : TypeId} {v : Value} {s : St}
theorem Mem.st (M : Mem w w0 (B ++ ⟨p, t, wcs v s⟩ :: L)) : HasSt w p 1 s :=
  ⟨M.cell0 1, M.cell0 2, M.cell0 3, M.cell0 4, M.frozen0 1, M.frozen0 2, M.frozen0 3, M.frozen0 4⟩
theorem Mem.putSt (M : Mem w w0 (B ++ ⟨p, t, wcs v s⟩ :: L)) (z : St) : Mem (Go.Proofs.Ytmfogedagepcgaa.putSt w p 1 z) w0 (B ++ ⟨p, t, wcs v z⟩ :: L) :=
  (((M.set0 1 _).set0 2 _).set0 3 _).set0 4 _
end

theorem whole_mem (s : St) (p : Nat) (v bv : Value) (x : List UInt8) (w w0 : World) (B L : List Blk) (M : Mem w w0 (B ++ ⟨p, 119, wcs v s⟩ :: L)) (hv : BSl w bv x) (hl : x.length ≤ 1000000000)
    (hne : ∀ bs os n c, bv = .slice (some ⟨bs, os, none⟩) n c → 8 ≤ n → bs ≠ p) (z : St) (hz : wholeF s x (x.length / 8) = z) :
    Calls Try.prog 78 #[.pointer (some ⟨p, 1, none⟩), bv] w fun e w' => e = .returned (.tuple #[]) ∧ Mem w' w0 (B ++ ⟨p, 119, wcs v z⟩ :: L) := by
  refine (whole_any s p 1 bv x w hv hl M.st hne).mono ?_
  rintro e w' ⟨rfl, g, d, rfl⟩
  rw [hz]
  exact ⟨rfl, (M.putSt z).plus g d⟩

theorem end_new (s : St) (t : TypeId) (v : Value) (l : List UInt8) (W : World) (hv : BSl W v l) (hl : l.length ≤ 1000000000) (k : Nat) (hk : k = W.heap.size) (z : St) (hz : endF s l = z) :
    Calls Try.prog 79 #[.pointer (some ⟨k, 0, none⟩), v] (W.alloc (.cells #[.int .u64 (nv s.a), .int .u64 (nv s.b), .int .u64 (nv s.c), .int .u64 (nv s.d)] t)) fun e w' => e = .returned (.tuple #[]) ∧ ∃ g d, w' = plus (W.alloc (.cells #[.int .u64 (nv z.a), .int .u64 (nv z.b), .int .u64 (nv z.c), .int .u64 (nv z.d)] t)) g d := by
  refine (end_any s k 0 v l _ (hv.alloc _) hl (hasSt_new W s t k hk)).mono ?_
  rintro e w' ⟨rfl, g, d, rfl⟩
  exact ⟨rfl, g, d, by rw [putSt_new W s _ t k hk, hz]⟩

set_option maxRecDepth 100000 in
set_option maxHeartbeats 1000000 in
theorem sum_nil (w : World) (z : BitVec 64) (hz : ofF [] = z) :
    Calls Try.prog 50 #[.pointer none] w fun e w' => e = .returned (.agg #[.int .u8 (by8 z 0), .int .u8 (by8 z 1), .int .u8 (by8 z 2), .int .u8 (by8 z 3), .int .u8 (by8 z 4), .int .u8 (by8 z 5), .int .u8 (by8 z 6), .int .u8 (by8 z 7)]) ∧ Below w.heap.size w w' := by
  go_enter Try.func50, Try.ntmps50
  go_wp2_with (go_at_call 44; refine (of_bytes _ [] _ (BSl.nil _) (by simp) z hz).mono ?_; rintro e w1 ⟨rfl, hb1⟩; obtain ⟨g1, d1, rfl⟩ := plus_of_below hb1; clear hb1)
  refine bodyPost_ret (v := .agg #[.int .u8 (by8 z 0), .int .u8 (by8 z 1), .int .u8 (by8 z 2), .int .u8 (by8 z 3), .int .u8 (by8 z 4), .int .u8 (by8 z 5), .int .u8 (by8 z 6), .int .u8 (by8 z 7)]) (by simp [results, Try.results50, go_sem]) rfl ⟨rfl, by (repeat' (first | (with_reducible exact Below.refl _ _) | (with_reducible refine bplus ?_ _ _) | (with_reducible refine balloc ?_ _) | (with_reducible refine Below.drew ?_) | (with_reducible refine bdrewN ?_ _) | (with_reducible refine Below.setCell ?_ (by go_size) _)))⟩

set_option maxRecDepth 100000 in
set_option maxHeartbeats 1000000 in
theorem sum_to (p : Nat) (v : Value) (l : List UInt8) (hl : l.length ≤ 1000000000) (s : St) (hs : stF l = s) (z : BitVec 64) (hz : ofF l = z) (w : World) (hb : HasBlk w p 119 (wcs v s)) (hv : BSl w v l) :
    Calls Try.prog 50 #[.pointer (some ⟨p, 0, none⟩)] w fun e w' => e = .returned (.agg #[.int .u8 (by8 z 0), .int .u8 (by8 z 1), .int .u8 (by8 z 2), .int .u8 (by8 z 3), .int .u8 (by8 z 4), .int .u8 (by8 z 5), .int .u8 (by8 z 6), .int .u8 (by8 z 7)]) ∧ Below w.heap.size w w' := by
  have cb := hb.cell
  have lb := hb.lt
  obtain ⟨u, HU⟩ : ∃ u, Hid (endF s l = u) := ⟨_, rfl⟩
  have HZ : Hid (givesF u = z) := by show _ = _; rw [← HU.out, ← hs, of_stF, hz]
  have HV := Lib.hid hv
  clear hv hz hs hb
  obtain ⟨ao, cap, rfl, -⟩ := HV.out.open_
  go_enter Try.func50, Try.ntmps50
  go_wp2_with (first
    | (go_at_call 79; refine (end_new s _ _ l _ (HV.out.alloc _) hl _ (by simp) u HU.out).mono ?_; rintro e w2 ⟨rfl, g2, d2, rfl⟩)
    | (go_at_call 70; refine (gives_any u _ _ _ (by go_simp) (by go_simp) (by go_simp)).mono ?_; rw [HZ.out]; rintro e w4 ⟨rfl, hb4⟩; obtain ⟨g4, d4, rfl⟩ := plus_of_below hb4; clear hb4))
  refine bodyPost_ret (v := .agg #[.int .u8 (by8 z 0), .int .u8 (by8 z 1), .int .u8 (by8 z 2), .int .u8 (by8 z 3), .int .u8 (by8 z 4), .int .u8 (by8 z 5), .int .u8 (by8 z 6), .int .u8 (by8 z 7)]) (by simp [results, Try.results50, go_sem]) rfl ⟨rfl, by (repeat' (first | (with_reducible exact Below.refl _ _) | (with_reducible refine bplus ?_ _ _) | (with_reducible refine balloc ?_ _) | (with_reducible refine Below.drew ?_) | (with_reducible refine bdrewN ?_ _) | (with_reducible refine Below.setCell ?_ (by go_size) _)))⟩

end Go.Proofs.Ytmfogedagepcgaa
