/- Contracts of hash.Of and hash.Word. -/
import Derived.Test.YtghaiplhakeahaaEn
namespace Go.Proofs.Ytghaiplhakeahaa
set_option linter.unusedSimpArgs false
set_option linter.unusedVariables false
open Go.RowKit

/-- A state in a block that was just made. -/
theorem hasSt_new (w : World) (s : St) (t : TypeId) (k : Nat) (hk : k = w.heap.size) : HasSt (w.alloc (.cells #[.int .u64 (nv s.a), .int .u64 (nv s.b), .int .u64 (nv s.c), .int .u64 (nv s.d)] t)) k 0 s := by
  subst hk
  refine ⟨?_, ?_, ?_, ?_, ?_, ?_, ?_, ?_⟩ <;> first | (rw [World.cell?_alloc_at _ _ _ _ rfl]; rfl) | (rw [World.frozen?_alloc_mark]; simp)
theorem putSt_new (w : World) (s u : St) (t : TypeId) (k : Nat) (hk : k = w.heap.size) : putSt (w.alloc (.cells #[.int .u64 (nv s.a), .int .u64 (nv s.b), .int .u64 (nv s.c), .int .u64 (nv s.d)] t)) k 0 u = w.alloc (.cells #[.int .u64 (nv u.a), .int .u64 (nv u.b), .int .u64 (nv u.c), .int .u64 (nv u.d)] t) := by
  subst hk
  unfold putSt
  simp [go_sem]

theorem BSl.lt {w : World} {v : Value} {l : List UInt8} (h : BSl w v l) : ∀ bs os n c, v = .slice (some ⟨bs, os, none⟩) n c → 8 ≤ n → bs < w.heap.size := fun bs os n c e hn => by
  obtain ⟨ao, cap, e2, h1, h2, h3⟩ := h.open_
  rw [e2] at e; cases e
  rcases h3 with rfl | ⟨b, o, e3, hb, _⟩
  · simp at hn
  · cases e3; exact hb

theorem bytes_new (s : St) (t : TypeId) (v : Value) (l : List UInt8) (W : World) (hv : BSl W v l) (hl : l.length ≤ 1000000000) (k : Nat) (hk : k = W.heap.size) (z : St) (hz : bytesF s l = z) :
    Calls Try.prog 91 #[.pointer (some ⟨k, 0, none⟩), v] (W.alloc (.cells #[.int .u64 (nv s.a), .int .u64 (nv s.b), .int .u64 (nv s.c), .int .u64 (nv s.d)] t)) fun e w' => e = .returned (.tuple #[]) ∧ ∃ g d, w' = plus (W.alloc (.cells #[.int .u64 (nv z.a), .int .u64 (nv z.b), .int .u64 (nv z.c), .int .u64 (nv z.d)] t)) g d := by
  refine (bytes_any s k 0 v l _ (hv.alloc _) hl (hasSt_new W s t k hk) (fun bs os n c e hn => by have := hv.lt bs os n c e hn; omega) (fun u => by rw [putSt_new W s u t k hk]; exact hv.alloc _)).mono ?_
  rintro e w' ⟨rfl, g, d, rfl⟩
  exact ⟨rfl, g, d, by rw [putSt_new W s _ t k hk, hz]⟩

set_option maxRecDepth 100000 in
set_option maxHeartbeats 1000000 in
theorem of_bytes (v : Value) (l : List UInt8) (w : World) (hv : BSl w v l) (hl : l.length ≤ 1000000000) (z : BitVec 64) (hz : ofF l = z) :
    Calls Try.prog 102 #[v] w fun e w' => e = .returned (.agg #[.int .u8 (by8 z 0), .int .u8 (by8 z 1), .int .u8 (by8 z 2), .int .u8 (by8 z 3), .int .u8 (by8 z 4), .int .u8 (by8 z 5), .int .u8 (by8 z 6), .int .u8 (by8 z 7)]) ∧ Below w.heap.size w w' := by
  have HV := Lib.hid hv
  obtain ⟨t, HT⟩ : ∃ t, Hid (bytesF (beginF 1#64) l = t) := ⟨_, rfl⟩
  have HZ : Hid (givesF t = z) := by show _ = _; rw [← HT.out]; exact hz
  clear hv hz
  obtain ⟨s0, HS0⟩ : ∃ s0, Hid (beginF 1#64 = s0) := ⟨_, rfl⟩
  rw [HS0.out] at HT
  go_enter Try.func102, Try.ntmps102
  go_wp2_with (first
    | (go_at_call 88; refine (begin_any 1#64 _ (nv_lit 1 (by decide)) _).mono ?_; rintro e w1 ⟨rfl, hb1⟩; obtain ⟨g1, d1, rfl⟩ := plus_of_below hb1; clear hb1; rw [HS0.out])
    | (go_at_call 91; refine (bytes_new s0 _ v l _ ((HV.out.alloc _).plus _ _) hl _ (by simp) t HT.out).mono ?_; rintro e w2 ⟨rfl, g2, d2, rfl⟩)
    | (go_at_call 92; refine (gives_any t _ _ _ (by go_simp) (by go_simp) (by go_simp)).mono ?_; rw [HZ.out]; rintro e w4 ⟨rfl, hb4⟩; obtain ⟨g4, d4, rfl⟩ := plus_of_below hb4; clear hb4))
  refine bodyPost_ret (v := .agg #[.int .u8 (by8 z 0), .int .u8 (by8 z 1), .int .u8 (by8 z 2), .int .u8 (by8 z 3), .int .u8 (by8 z 4), .int .u8 (by8 z 5), .int .u8 (by8 z 6), .int .u8 (by8 z 7)]) (by simp [results, Try.results102, go_sem]) rfl ⟨rfl, by (repeat' (first | (with_reducible exact Below.refl _ _) | (with_reducible refine bplus ?_ _ _) | (with_reducible refine balloc ?_ _) | (with_reducible refine Below.drew ?_) | (with_reducible refine bdrewN ?_ _) | (with_reducible refine Below.setCell ?_ (by go_size) _)))⟩

theorem cell_swap (W : World) (o o' : Obj) (G : Array Obj) (D : Nat) (p : Addr) (h : p.block ≠ W.heap.size) : (plus (W.alloc o) G D).cell? p = (plus (W.alloc o') G D).cell? p := by
  have e : (plus (W.alloc o) G D).heap[p.block]? = (plus (W.alloc o') G D).heap[p.block]? := by
    show (W.heap.push o ++ G)[p.block]? = (W.heap.push o' ++ G)[p.block]?
    simp only [Array.getElem?_append, Array.size_push, Array.getElem?_push, if_neg h]
  unfold World.cell?
  rw [e]
theorem BSl.swap {W : World} {o o' : Obj} {G : Array Obj} {D : Nat} {v : Value} {l : List UInt8} (h : BSl (Go.Proofs.Ytghaiplhakeahaa.plus (W.alloc o) G D) v l) (hne : ∀ bs os n c, v = .slice (some ⟨bs, os, none⟩) n c → 0 < n → bs ≠ W.heap.size) : BSl (Go.Proofs.Ytghaiplhakeahaa.plus (W.alloc o') G D) v l := by
  obtain ⟨ao, cap, rfl, h1, h2, h3⟩ := h.open_
  refine ⟨ao, cap, rfl, ⟨h1, h2⟩, ?_⟩
  rcases h3 with rfl | ⟨b, os, rfl, hb, hc⟩
  · exact .inl rfl
  · by_cases hz : l.length = 0
    · exact .inl hz
    · right
      refine ⟨b, os, rfl, by simpa using hb, fun i hi => ?_⟩
      rw [← cell_swap W o o' G D _ (hne b os _ _ rfl (by omega))]
      exact hc i hi
theorem bytes_new2 (s : St) (t : TypeId) (v : Value) (l : List UInt8) (W : World) (G : Array Obj) (D : Nat) (hv : BSl (plus (W.alloc (.cells #[.int .u64 (nv s.a), .int .u64 (nv s.b), .int .u64 (nv s.c), .int .u64 (nv s.d)] t)) G D) v l) (hne : ∀ bs os n c, v = .slice (some ⟨bs, os, none⟩) n c → 0 < n → bs ≠ W.heap.size) (hl : l.length ≤ 1000000000) (k : Nat) (hk : k = W.heap.size) (z : St) (hz : bytesF s l = z) :
    Calls Try.prog 91 #[.pointer (some ⟨k, 0, none⟩), v] (plus (W.alloc (.cells #[.int .u64 (nv s.a), .int .u64 (nv s.b), .int .u64 (nv s.c), .int .u64 (nv s.d)] t)) G D) fun e w' => e = .returned (.tuple #[]) ∧ ∃ g d, w' = plus (W.alloc (.cells #[.int .u64 (nv z.a), .int .u64 (nv z.b), .int .u64 (nv z.c), .int .u64 (nv z.d)] t)) g d := by
  have hlt : k < (W.alloc (.cells #[.int .u64 (nv s.a), .int .u64 (nv s.b), .int .u64 (nv s.c), .int .u64 (nv s.d)] t)).heap.size := by subst hk; simp
  refine (bytes_any s k 0 v l _ hv hl ((hasSt_new W s t k hk).plus _ _) (fun bs os n c e hn => by have := hne bs os n c e (by omega); omega) (fun u => by rw [putSt_plus _ _ _ hlt, putSt_new W s u t k hk]; exact hv.swap hne)).mono ?_
  rintro e w' ⟨rfl, g, d, rfl⟩
  exact ⟨rfl, G ++ g, d, by rw [putSt_plus _ _ _ hlt, putSt_new W s _ t k hk, hz, plus_plus]⟩

theorem take_new (s : St) (t : TypeId) (x : BitVec 64) (W : World) (G : Array Obj) (D : Nat) (k : Nat) (hk : k = W.heap.size) (z : St) (hz : takeF s x = z) :
    Calls Try.prog 89 #[.pointer (some ⟨k, 0, none⟩), .int .u64 (nv x)] (plus (W.alloc (.cells #[.int .u64 (nv s.a), .int .u64 (nv s.b), .int .u64 (nv s.c), .int .u64 (nv s.d)] t)) G D) fun e w' => e = .returned (.tuple #[]) ∧ ∃ d, w' = plus (W.alloc (.cells #[.int .u64 (nv z.a), .int .u64 (nv z.b), .int .u64 (nv z.c), .int .u64 (nv z.d)] t)) G d := by
  have hlt : k < (W.alloc (.cells #[.int .u64 (nv s.a), .int .u64 (nv s.b), .int .u64 (nv s.c), .int .u64 (nv s.d)] t)).heap.size := by subst hk; simp
  refine (take_st s x k 0 _ ((hasSt_new W s t k hk).plus _ _)).mono ?_
  rintro e w' ⟨rfl, n, rfl⟩
  exact ⟨rfl, D + n, by rw [putSt_plus _ _ _ hlt, putSt_new W s _ t k hk, hz, plus_drewN']⟩

/-- '[]byte(s)' of a string. -/
theorem run_bytes {P : Program} (w : World) (src dst e : TypeId) (s : ByteArray) (hs : P.underlying src = some .string) (hd : P.underlying dst = some (.slice e)) (he : P.underlying e = some (.int .u8)) :
    ∃ v g d, (convert src dst (.string s)).run P w = .ok v (plus w g d) ∧ BSl (plus w g d) v (strL s) ∧ ∃ cap, v = .slice (some ⟨w.heap.size, 0, none⟩) s.size cap := by
  have h := run_bytes_of_string (P := P) w src dst e s hs hd he
  have eo : ∀ o : Obj, plus w #[o] (w.drawn + 1) = w.drew.alloc o := fun o => by rw [alloc_self]; rfl
  refine ⟨_, #[_], w.drawn + 1, by rw [h, eo], ?_, _, rfl⟩
  rw [eo]
  refine ⟨some ⟨w.heap.size, 0, none⟩, _, by rw [strL_len], ⟨?_, fun h => by cases h⟩, .inr ⟨w.heap.size, 0, rfl, by simp, fun i hi => ?_⟩⟩
  · rw [strL_len]; exact grownCap_ge _ _ _ _
  · rw [strL_len] at hi
    have hi' : i < s.data.size := hi
    have hc := World.cell?_alloc_mark w.drew (bytesRow s (grownCap w s.size 0 e)) e ((bytesRow s (grownCap w s.size 0 e)).size, (bytesRow s (grownCap w s.size 0 e)).size + 1) i
    rw [show w.drew.heap.size = w.heap.size from rfl] at hc
    rw [Nat.zero_add, hc, bytesRow_at s _ i hi']
    simp [strL, List.getD_eq_getElem?_getD]
    rw [Array.getElem?_eq_getElem hi']; rfl

theorem bytes_after (s : St) (t : TypeId) (l : List UInt8) (m : Nat) (W : World) (G : Array Obj) (D : Nat) (bv : World → Value) (bg : World → Array Obj) (bd : World → Nat) (hB : ∀ W, BSl (plus W (bg W) (bd W)) (bv W) l ∧ ∃ cap, bv W = .slice (some ⟨W.heap.size, 0, none⟩) m cap)
    (hl : l.length ≤ 1000000000) (k : Nat) (hk : k = W.heap.size) (z : St) (hz : bytesF s l = z) :
    Calls Try.prog 91 #[.pointer (some ⟨k, 0, none⟩), bv (plus (W.alloc (.cells #[.int .u64 (nv s.a), .int .u64 (nv s.b), .int .u64 (nv s.c), .int .u64 (nv s.d)] t)) G D)] (plus (W.alloc (.cells #[.int .u64 (nv s.a), .int .u64 (nv s.b), .int .u64 (nv s.c), .int .u64 (nv s.d)] t)) (G ++ bg (plus (W.alloc (.cells #[.int .u64 (nv s.a), .int .u64 (nv s.b), .int .u64 (nv s.c), .int .u64 (nv s.d)] t)) G D)) (bd (plus (W.alloc (.cells #[.int .u64 (nv s.a), .int .u64 (nv s.b), .int .u64 (nv s.c), .int .u64 (nv s.d)] t)) G D))) fun e w' => e = .returned (.tuple #[]) ∧ ∃ g d, w' = plus (W.alloc (.cells #[.int .u64 (nv z.a), .int .u64 (nv z.b), .int .u64 (nv z.c), .int .u64 (nv z.d)] t)) g d := by
  obtain ⟨h1, cap, h2⟩ := hB (plus (W.alloc (.cells #[.int .u64 (nv s.a), .int .u64 (nv s.b), .int .u64 (nv s.c), .int .u64 (nv s.d)] t)) G D)
  rw [plus_plus] at h1
  exact bytes_new2 s t _ l W _ _ h1 (fun bs os n c e hn => by rw [h2] at e; cases e; simp; omega) hl k hk z hz

set_option maxRecDepth 100000 in
set_option maxHeartbeats 1000000 in
theorem word_bytes (x : BitVec 64) (tx : ByteArray) (w : World) (hl : tx.size ≤ 1000000000) (z : BitVec 64) (hz : wordF x (strL tx) = z) :
    Calls Try.prog 61 #[.agg #[.int .u8 (by8 x 0), .int .u8 (by8 x 1), .int .u8 (by8 x 2), .int .u8 (by8 x 3), .int .u8 (by8 x 4), .int .u8 (by8 x 5), .int .u8 (by8 x 6), .int .u8 (by8 x 7)], .string tx] w fun e w' => e = .returned (.agg #[.int .u8 (by8 z 0), .int .u8 (by8 z 1), .int .u8 (by8 z 2), .int .u8 (by8 z 3), .int .u8 (by8 z 4), .int .u8 (by8 z 5), .int .u8 (by8 z 6), .int .u8 (by8 z 7)]) ∧ Below w.heap.size w w' := by
  obtain ⟨u, HU⟩ : ∃ u, Hid (takeF (beginF 4#64) x = u) := ⟨_, rfl⟩
  obtain ⟨t, HT⟩ : ∃ t, Hid (bytesF u (strL tx) = t) := ⟨_, rfl⟩
  have HZ : Hid (givesF t = z) := by show _ = _; rw [← HT.out, ← HU.out]; exact hz
  clear hz
  obtain ⟨s0, HS0⟩ : ∃ s0, Hid (beginF 4#64 = s0) := ⟨_, rfl⟩
  rw [HS0.out] at HU
  have hlen : (strL tx).length ≤ 1000000000 := by rw [strL_len]; exact hl
  have HL := Lib.hid hlen
  clear hlen
  have hex := fun W : World => run_bytes (P := Try.prog) W 9 26 5 tx Try.underlying9 Try.underlying26 Try.underlying5
  obtain ⟨bv, bg, bd, hconv, hB⟩ : ∃ (bv : World → Value) (bg : World → Array Obj) (bd : World → Nat), (∀ W, (convert 9 26 (.string tx)).run Try.prog W = .ok (bv W) (plus W (bg W) (bd W))) ∧
      ∀ W, BSl (plus W (bg W) (bd W)) (bv W) (strL tx) ∧ ∃ cap, bv W = .slice (some ⟨W.heap.size, 0, none⟩) tx.size cap :=
    ⟨fun W => Classical.choose (hex W), fun W => Classical.choose (Classical.choose_spec (hex W)), fun W => Classical.choose (Classical.choose_spec (Classical.choose_spec (hex W))),
      fun W => (Classical.choose_spec (Classical.choose_spec (Classical.choose_spec (hex W)))).1, fun W => (Classical.choose_spec (Classical.choose_spec (Classical.choose_spec (hex W)))).2⟩
  have HB := Lib.hid hB
  clear hB hex
  go_enter Try.func61, Try.ntmps61
  go_wp2_with (first
    | (go_at_call 88; refine (begin_any 4#64 _ (nv_lit 4 (by decide)) _).mono ?_; rintro e w1 ⟨rfl, hb1⟩; obtain ⟨g1, d1, rfl⟩ := plus_of_below hb1; clear hb1; rw [HS0.out])
    | (go_at_call 90; refine (num_any _ _).mono ?_; rintro e w2 ⟨rfl, hb2⟩; obtain ⟨g2, d2, rfl⟩ := plus_of_below hb2; clear hb2)
    | (go_at_call 89; refine (take_new s0 _ x _ _ _ _ (by simp) u HU.out).mono ?_; rintro e w3 ⟨rfl, n3, rfl⟩)
    | (go_at_call 91; refine (bytes_after u _ (strL tx) tx.size _ _ _ bv bg bd HB.out HL.out _ (by simp) t HT.out).mono ?_; rintro e w5 ⟨rfl, g5, d5, rfl⟩)
    | (go_at_call 92; refine (gives_any t _ _ _ (by go_simp) (by go_simp) (by go_simp)).mono ?_; rw [HZ.out]; rintro e w4 ⟨rfl, hb4⟩; obtain ⟨g4, d4, rfl⟩ := plus_of_below hb4; clear hb4))
  refine bodyPost_ret (v := .agg #[.int .u8 (by8 z 0), .int .u8 (by8 z 1), .int .u8 (by8 z 2), .int .u8 (by8 z 3), .int .u8 (by8 z 4), .int .u8 (by8 z 5), .int .u8 (by8 z 6), .int .u8 (by8 z 7)]) (by simp [results, Try.results61, go_sem]) rfl ⟨rfl, by (repeat' (first | (with_reducible exact Below.refl _ _) | (with_reducible refine bplus ?_ _ _) | (with_reducible refine balloc ?_ _) | (with_reducible refine Below.drew ?_) | (with_reducible refine bdrewN ?_ _) | (with_reducible refine Below.setCell ?_ (by go_size) _)))⟩

end Go.Proofs.Ytghaiplhakeahaa
