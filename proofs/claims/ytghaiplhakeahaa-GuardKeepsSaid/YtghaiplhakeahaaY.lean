/- What every law's proof needs: arguments opened; what stands behind a call that leaves all as it was. -/
import Derived.Test.YtghaiplhakeahaaN
import Derived.Test.YtghaiplhakeahaaO
import Derived.ProofKit
import Derived.Deep.Grids
import Derived.Deep.Slices
namespace Go.Proofs.Ytghaiplhakeahaa
set_option linter.unusedSimpArgs false
set_option linter.unusedVariables false
open Go.ChangeShapes Go.WideShapes Go.ChangeAt Go.RowKit

section
variable {H : Type} {enc : TypeId × Value → H} {P : Program}

/-- All arguments read behind the call as they did before. -/
theorem trodAll_below (hl : laidOutB P = true) {W W' : World} (hB : Below W.heap.size W W') : ∀ (ts : List TypeId) (vs : List Value) (ds : List (DataW H)) (ps : List MemPlace),
    (∀ t ∈ ts, P.readableRec t = true ∧ t < P.types.size) → DataW.TrodAll enc P W 0 (fun _ => true) true ts vs ds ps → (∀ x ∈ ps, x.block < W.heap.size) →
    ∀ sp : Nat → Bool, (∀ p ∈ ps, sp p.block = true) → DataW.TrodAll enc P W' 0 sp true ts vs ds ps
  | [], vs, ds, ps, _, h, _, sp, _ => by
    obtain ⟨rfl, rfl, rfl⟩ := trodAll_nil h
    exact rfl
  | t :: ts, vs, ds, ps, hr, h, hlt, sp, hsp => by
    obtain ⟨v, vs', d, ds', p, q, rfl, rfl, rfl, h1, h2⟩ := trodAll_cons h
    obtain ⟨r1, r2⟩ := hr t (by simp)
    exact ⟨p, q, WideElems.Trod_stays hl r1 r2 h1 (fun x hx => hB.same (hlt x (by simp [hx]))) (fun x hx => hsp x (by simp [hx])),
      trodAll_below hl hB ts vs' ds' q (fun t ht => hr t (by simp [ht])) h2 (fun x hx => hlt x (by simp [hx])) sp (fun x hx => hsp x (by simp [hx])), rfl⟩

/-- What a law owes behind its call: true, and the input as it was. -/
theorem law_post {f : Func} {s : ChangeSpec} {W W' : World} {args : Array Value} {ds : List (DataW H)} {p : List MemPlace} {tb : TypeId}
    (hl : laidOutB P = true) (hr : ∀ t ∈ f.params.toList, P.readableRec t = true ∧ t < P.types.size) (hres : f.resultTypes = #[tb]) (ht : P.underlying tb = some .bool)
    (hv : s.vars = []) (hs : s.fn H ds = { results := [.lit (.bool true)], args := ds }) (hW : DataW.Whole enc P f.params.toList s.vars false W args.toList ds [] p) (hB : Below W.heap.size W W') :
    s.post enc P f false true false false W args (.bool true) W' := by
  have hW' := hW
  obtain ⟨p1, q, hA, hV, rfl, hfz, hnd⟩ := hW
  have hlt : ∀ x ∈ p1 ++ q, x.block < W.heap.size := hW'.lt
  rw [hv] at hV
  have hq : q = [] := hV
  subst hq
  refine ⟨ds, [], p1 ++ [], [], p1, [], hW', ?_, ?_, ?_, hB.frame _, fun h => by cases h⟩
  · rw [List.append_nil, hs, hres]
    exact trodAll_mk1 (shut_bool ht true)
  · rw [List.append_nil, hs]
    exact trodAll_below hl hB _ _ _ _ hr hA (fun x hx => hlt x (by simp [hx])) _ (fun x hx => by simpa using hlt x (by simp [hx]))
  · rw [hv]
    have : (s.fn H (ds ++ [])).vars = [] := by rw [List.append_nil, hs]
    rw [this]
    exact rfl

end

section
variable {H : Type} {enc : TypeId × Value → H} {P : Program} {w : World} {base : Nat} {held : Bool}

theorem cell_plain {w : World} {a : Addr} {v : Value} (h : w.cell? a = some v) : a = ⟨a.block, a.off, none⟩ ∧ a.block < w.heap.size := by
  refine ⟨?_, World.block_lt_of_cell? w a h⟩
  unfold World.cell? at h
  split at h
  · split at h
    · cases h
    · rename_i hs
      cases a
      simp at hs
      simp [hs]
  · cases h

theorem add_add (a : Addr) (i j : Nat) : (a.add i).add j = a.add (i + j) := by
  unfold Addr.add
  by_cases hi : i = 0
  · subst hi; simp
  · by_cases hj : j = 0
    · subst hj; simp [hi]
    · have : i + j ≠ 0 := by omega
      simp [hi, hj, Nat.add_assoc]
theorem add_plain (b o j : Nat) : (⟨b, o, none⟩ : Addr).add j = ⟨b, o + j, none⟩ := by unfold Addr.add; split <;> simp_all

/-- A slice of elements of one cell each, from what came in. -/
theorem open_vsl {t e : TypeId} {v : Value} {d : DataW H} {p : List MemPlace} (ht : P.underlying t = some (.slice e)) (hc : P.cellsOf e = 1) {r : Reach} {b0 : Nat} (hval : Value.okWide P w r b0 t v) (hd : DataW.Trod enc P w base (fun _ => true) held t v d p)
    {α : Type} [Inhabited α] (mk : α → Value) (ok : α → Prop) (he : ∀ fuel (v : Value) x, DataW.trod enc P w base (fun _ => true) held fuel e [v] = some x → ∃ a, v = mk a ∧ ok a) :
    ∃ (n : Nat) (l : Nat → α), n ≤ maxLen ∧ VSl w v n (fun i => mk (l i)) ∧ (∀ i, i < n → ok (l i)) ∧ (∀ ao n' cap, v = .slice ao n' cap → n' = n) := by
  obtain ⟨a', len, m, rfl⟩ := okWide_slice ht hval
  obtain ⟨fuel, hf⟩ := hd
  rcases Deep.open_slice1 ht hc hf with ⟨h0, _⟩ | ⟨a, len2, cap2, m2, n, V, D, Pl, h0, hb, hl, hm, hmm, _, hx⟩
  · refine ⟨0, fun _ => default, by unfold maxLen; omega, ?_⟩
    simp [Value.cells] at h0
    obtain ⟨rfl, rfl, rfl⟩ := h0
    exact ⟨⟨none, 0, rfl, ⟨by omega, fun _ => ⟨rfl, rfl⟩⟩, .inl rfl⟩, fun i hi => by omega, fun ao n' cap h => by cases h; rfl⟩
  · simp only [if_true] at hmm
    subst hmm
    simp [Value.cells] at h0
    obtain ⟨rfl, rfl, rfl⟩ := h0
    obtain ⟨l, hl2⟩ := Deep.choose_lt (α := α) (n := len) (p := fun i b => V i = mk b ∧ ok b) (fun i hi => he n (V i) _ (hx i (by omega)).2)
    refine ⟨len, l, by omega, ⟨some a, m, rfl, ⟨hl, (fun h => by cases h)⟩, ?_⟩, fun i hi => (hl2 i hi).2, fun ao n' cap h => by cases h; rfl⟩
    by_cases h0 : len = 0
    · exact .inl h0
    · right
      have h00 := (hx 0 (by omega)).1
      have ha : a.add 0 = a := by simp [Addr.add]
      rw [ha] at h00
      obtain ⟨e1, e2⟩ := cell_plain h00
      refine ⟨a.block, a.off, by rw [← e1], e2, fun i hi => ?_⟩
      have := (hx i (by omega)).1
      rw [e1, add_plain] at this
      rw [this, (hl2 i hi).1]

/-- Eight bytes are the bytes of a number. -/
theorem dig_of (b0 b1 b2 b3 b4 b5 b6 b7 : Int) (h0 : 0 ≤ b0 ∧ b0 ≤ 255) (h1 : 0 ≤ b1 ∧ b1 ≤ 255) (h2 : 0 ≤ b2 ∧ b2 ≤ 255) (h3 : 0 ≤ b3 ∧ b3 ≤ 255) (h4 : 0 ≤ b4 ∧ b4 ≤ 255) (h5 : 0 ≤ b5 ∧ b5 ≤ 255) (h6 : 0 ≤ b6 ∧ b6 ≤ 255) (h7 : 0 ≤ b7 ∧ b7 ≤ 255) :
    ∃ x : BitVec 64, by8 x 0 = b0 ∧ by8 x 1 = b1 ∧ by8 x 2 = b2 ∧ by8 x 3 = b3 ∧ by8 x 4 = b4 ∧ by8 x 5 = b5 ∧ by8 x 6 = b6 ∧ by8 x 7 = b7 := by
  refine ⟨BitVec.ofNat 64 (b0 + b1 * 256 + b2 * 65536 + b3 * 16777216 + b4 * 4294967296 + b5 * 1099511627776 + b6 * 281474976710656 + b7 * 72057594037927936).toNat, ?_⟩
  rw [by8_0, by8_1, by8_2, by8_3, by8_4, by8_5, by8_6, by8_7]
  simp only [nv_eq]
  rw [BitVec.toNat_ofNat, Nat.mod_eq_of_lt (by omega)]
  omega

theorem u8_wf {n : Int} (h : (Lit.int .u8 n).wf = true) : 0 ≤ n ∧ n ≤ 255 := by
  simpa [Lit.wf, IntKind.min, IntKind.max, IntKind.signed, IntKind.bits] using h

/-- Eight cells that read as an array of bytes are a digest's. -/
theorem trod_dig {t e : TypeId} (ht : P.underlying t = some (.array 8 e)) (he : P.underlying e = some (.int .u8)) (hc : P.cellsOf e = 1) (hc8 : P.cellsOf t = 8) {spare : Nat → Bool} {fuel : Nat} {cs : List Value} {x : DataW H × List MemPlace}
    (h : DataW.trod enc P w base spare held fuel t cs = some x) : ∃ n : BitVec 64, cs = dcs n := by
  obtain ⟨xs, m, _, _, hlen, hxl, hel⟩ := DataW.trod_array ht h
  rw [hc8] at hlen
  have one : ∀ i, (hi : i < 8) → ∃ b : Int, cs[i]? = some (.int .u8 b) ∧ 0 ≤ b ∧ b ≤ 255 := by
    intro i hi
    have h1 := hel i hi
    rw [hc, Nat.mul_one, List.getElem?_eq_getElem (by omega)] at h1
    obtain ⟨b, hb, _, hw⟩ := DataW.trod_int he h1
    have h2 : ((cs.drop i).take 1)[0]? = cs[i]? := by simp
    rw [hb] at h2
    exact ⟨b, h2.symm, u8_wf hw⟩
  obtain ⟨b0, e0, w0⟩ := one 0 (by omega)
  obtain ⟨b1, e1, w1⟩ := one 1 (by omega)
  obtain ⟨b2, e2, w2⟩ := one 2 (by omega)
  obtain ⟨b3, e3, w3⟩ := one 3 (by omega)
  obtain ⟨b4, e4, w4⟩ := one 4 (by omega)
  obtain ⟨b5, e5, w5⟩ := one 5 (by omega)
  obtain ⟨b6, e6, w6⟩ := one 6 (by omega)
  obtain ⟨b7, e7, w7⟩ := one 7 (by omega)
  obtain ⟨n, rfl, rfl, rfl, rfl, rfl, rfl, rfl, rfl⟩ := dig_of b0 b1 b2 b3 b4 b5 b6 b7 w0 w1 w2 w3 w4 w5 w6 w7
  refine ⟨n, List.ext_getElem? fun i => ?_⟩
  by_cases hi : i < 8
  · match i, hi with
    | 0, _ => exact e0
    | 1, _ => exact e1
    | 2, _ => exact e2
    | 3, _ => exact e3
    | 4, _ => exact e4
    | 5, _ => exact e5
    | 6, _ => exact e6
    | 7, _ => exact e7
  · rw [List.getElem?_eq_none (by omega), List.getElem?_eq_none (by rw [dcs_len]; omega)]

/-- A digest that came in. -/
theorem open_dig {t e : TypeId} (ht : P.underlying t = some (.array 8 e)) (he : P.underlying e = some (.int .u8)) (hc : P.cellsOf e = 1) (hc8 : P.cellsOf t = 8) {r : Reach} {b0 : Nat} {v : Value} {d : DataW H} {p : List MemPlace} {spare : Nat → Bool}
    (hval : Value.okWide P w r b0 t v) (hd : DataW.Trod enc P w base spare held t v d p) : ∃ n : BitVec 64, v = .agg #[.int .u8 (by8 n 0), .int .u8 (by8 n 1), .int .u8 (by8 n 2), .int .u8 (by8 n 3), .int .u8 (by8 n 4), .int .u8 (by8 n 5), .int .u8 (by8 n 6), .int .u8 (by8 n 7)] := by
  obtain ⟨fuel, hf⟩ := hd
  obtain ⟨n, hn⟩ := trod_dig ht he hc hc8 hf
  simp only [Value.okWide, ht] at hval
  obtain ⟨cs, rfl, _⟩ := hval
  refine ⟨n, ?_⟩
  have : cs = (dcs n).toArray := by
    apply Array.ext'
    simpa [Value.cells] using hn
  rw [this]
  rfl

/-- A slice of digests that came in. -/
theorem open_dsl {t e e' : TypeId} (ht : P.underlying t = some (.slice e)) (ht2 : P.underlying e = some (.array 8 e')) (he : P.underlying e' = some (.int .u8)) (hc : P.cellsOf e' = 1) (hc8 : P.cellsOf e = 8) {v : Value} {d : DataW H} {p : List MemPlace} {r : Reach} {b0 : Nat} (hval : Value.okWide P w r b0 t v)
    (hd : DataW.Trod enc P w base (fun _ => true) held t v d p) : ∃ xs : List (BitVec 64), xs.length ≤ maxLen ∧ DSl w v xs := by
  obtain ⟨a', len, m, rfl⟩ := okWide_slice ht hval
  obtain ⟨fuel, hf⟩ := hd
  rcases Deep.open_slice ht hf with ⟨h0, _⟩ | ⟨a, len2, cap2, m2, n, D, Pl, h0, hb, hl, hm, hmm, _, hx⟩
  · refine ⟨[], by unfold maxLen; simp, ?_⟩
    simp [Value.cells] at h0
    obtain ⟨rfl, rfl, rfl⟩ := h0
    exact ⟨none, 0, rfl, ⟨by simp, fun _ => ⟨rfl, rfl⟩⟩, .inl rfl⟩
  · simp only [if_true] at hmm
    subst hmm
    simp [Value.cells] at h0
    obtain ⟨rfl, rfl, rfl⟩ := h0
    rw [hc8] at hx
    obtain ⟨l, hl2⟩ := Deep.choose_lt (α := BitVec 64) (n := len) (p := fun i x => ∀ j, j < 8 → w.cell? (a.add (i * 8 + j)) = some (.int .u8 (by8 x j))) (fun i hi => by
      obtain ⟨cs', h1, h2⟩ := hx i (by omega)
      obtain ⟨x, rfl⟩ := trod_dig ht2 he hc hc8 h2
      obtain ⟨_, _, h3⟩ := World.cells?_some h1
      refine ⟨x, fun j hj => ?_⟩
      have h4 := h3 j hj
      rw [dcs_get x j hj] at h4
      rw [← h4, add_add])
    have hlen : ((List.range len).map l).length = len := by simp
    refine ⟨(List.range len).map l, by rw [hlen]; omega, some a, m, by rw [hlen], ⟨by rw [hlen]; exact hl, (fun h => by cases h)⟩, ?_⟩
    by_cases h0 : len = 0
    · left; subst h0; rfl
    · right
      have h00 := hl2 0 (by omega) 0 (by omega)
      have ha : a.add (0 * 8 + 0) = a := by simp [Addr.add]
      rw [ha] at h00
      obtain ⟨e1, e2⟩ := cell_plain h00
      refine ⟨a.block, a.off, by rw [← e1], e2, fun i hi j hj => ?_⟩
      rw [hlen] at hi
      have := hl2 i hi j hj
      rw [e1, add_plain] at this
      rw [show a.off + i * 8 + j = a.off + (i * 8 + j) by omega, this]
      simp [hi]
end

end Go.Proofs.Ytghaiplhakeahaa
