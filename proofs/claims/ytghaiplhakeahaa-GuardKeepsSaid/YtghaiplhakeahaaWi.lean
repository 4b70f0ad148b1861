/- guard and towers: what the law GuardKeeps says, plain. -/
import Derived.Test.YtghaiplhakeahaaWh
import Derived.Test.YtghaiplhakeahaaYt
namespace Go.Proofs.Ytghaiplhakeahaa
set_option linter.unusedSimpArgs false
set_option linter.unusedVariables false
open Go.RowKit Go.WideMaps Go.ChangeMaps Go.Maps

abbrev dT : Nat × TWS := (0, ⟨0, []⟩)
/-- The hint of the table's nonce. -/
noncomputable def hN : BitVec 64 := thintF nonceX
theorem box_len (x : BitVec 64) (l : List UInt8) : (tboxF x l).length = 8 + l.length := by unfold tboxF; rw [sealF_len]
theorem tok_nil : TOk ⟨3, []⟩ := TOk.new 3 (by omega)
theorem tok_one (a : AP) (h : a.l.length ≤ 32776) : TOk ⟨3, [a]⟩ := ⟨by simp [Dis], by simp, by simp, fun b hb => by simp at hb; subst hb; exact h⟩
theorem idx_hit (h : BitVec 64) (s : Int) (y : List UInt8) : idx [⟨h, s, y⟩] h = some 0 := idx_one _ _ rfl
theorem take_none3 (h : BitVec 64) (m : Int) (bx : List UInt8) (hm : isNum m = true) (h8 : 8 ≤ bx.length) (hl : bx.length ≤ 32776) : takeE ⟨3, []⟩ ⟨h, m, bx⟩ = 0 ∧ takeT ⟨3, []⟩ ⟨h, m, bx⟩ = ⟨3, [⟨h, m, bx⟩]⟩ := by
  have hE : takeE ⟨3, []⟩ ⟨h, m, bx⟩ = 0 := by
    unfold takeE
    rw [if_neg (by simp [hm]), if_neg (by show ¬ bx.length < 8; omega), if_neg (by show ¬ 32776 < bx.length; omega)]
    simp [idx]
  refine ⟨hE, ?_⟩
  unfold takeT
  rw [if_pos hE]
  simp [idx]
theorem take_one3 (h : BitVec 64) (s m : Int) (y bx : List UInt8) (hm : isNum m = true) (h8 : 8 ≤ bx.length) (hl : bx.length ≤ 32776) :
    (m ≤ s → takeE ⟨3, [⟨h, s, y⟩]⟩ ⟨h, m, bx⟩ = 18 ∧ takeT ⟨3, [⟨h, s, y⟩]⟩ ⟨h, m, bx⟩ = ⟨3, [⟨h, s, y⟩]⟩) ∧ (¬ m ≤ s → takeE ⟨3, [⟨h, s, y⟩]⟩ ⟨h, m, bx⟩ = 0 ∧ takeT ⟨3, [⟨h, s, y⟩]⟩ ⟨h, m, bx⟩ = ⟨3, [⟨h, m, bx⟩]⟩) := by
  have hi := idx_hit h s y
  have hE : takeE ⟨3, [⟨h, s, y⟩]⟩ ⟨h, m, bx⟩ = if m ≤ s then 18 else 0 := by
    unfold takeE
    rw [if_neg (by simp [hm]), if_neg (by show ¬ bx.length < 8; omega), if_neg (by show ¬ 32776 < bx.length; omega)]
    simp only [hi]
    rfl
  constructor
  · intro hms
    rw [if_pos hms] at hE
    refine ⟨hE, ?_⟩
    unfold takeT
    rw [if_neg (by rw [hE]; omega)]
  · intro hms
    rw [if_neg hms] at hE
    refine ⟨hE, ?_⟩
    unfold takeT
    rw [if_pos hE]
    simp only [hi]
    rfl
theorem drop_nil3 (h : BitVec 64) : dropT ⟨3, []⟩ h = ⟨3, []⟩ := by simp [dropT, idx]
theorem drop_one3 (h : BitVec 64) (s : Int) (y : List UInt8) : dropT ⟨3, [⟨h, s, y⟩]⟩ h = ⟨3, []⟩ := by
  unfold dropT
  simp only [idx_hit]
  rfl
/-- What a tower has, as it said. -/
def keepT (h : BitVec 64) (s : Int) (T : TWS) (kk : Nat) (bx : List UInt8) : Prop :=
  (s = -1 ∧ T = ⟨3, []⟩) ∨ (1 ≤ s ∧ s ≤ kk ∧ ∃ y : List UInt8, T = ⟨3, [⟨h, s, y⟩]⟩ ∧ y.length ≤ 32776 ∧ (s = kk → y = bx))
theorem keepT.ok {h : BitVec 64} {s : Int} {T : TWS} {kk : Nat} {bx : List UInt8} (k : keepT h s T kk bx) : TOk T := by
  rcases k with ⟨-, rfl⟩ | ⟨-, -, y, rfl, h1, -⟩
  · exact tok_nil
  · exact tok_one _ h1
structure KRel (n need : Nat) (G : GS) (ts : List (Nat × TWS)) (kk : Nat) (lc : List UInt8) : Prop where
  tow : G.towers = n
  nee : G.need = need
  non : G.nonce = nonceX
  len : ts.length = n
  no : kk = 0 → G.noted = false
  yes : 0 < kk → G.noted = true ∧ G.num = kk ∧ G.hint = hN ∧ G.box = tboxF nonceX lc
  lcl : lc.length ≤ 201
  each : ∀ i, i < n → keepT hN (G.said i) (ts.getD i dT).2 kk (tboxF nonceX lc)
theorem KRel.start (n need : Nat) (ts : List (Nat × TWS)) (h : ts.length = n) (h3 : ∀ i, i < n → (ts.getD i dT).2 = ⟨3, []⟩) : KRel n need (newG nonceX n need) ts 0 [] :=
  ⟨rfl, rfl, rfl, h, fun _ => rfl, fun h => by omega, by simp, fun i hi => .inl ⟨rfl, h3 i hi⟩⟩
theorem KRel.note {n need : Nat} {G : GS} {ts : List (Nat × TWS)} {kk : Nat} {lc : List UInt8} (r : KRel n need G ts kk lc) (c : List UInt8) (hc : c.length ≤ 201) : KRel n need (notedG G ((kk + 1 : Nat) : Int) c) ts (kk + 1) c := by
  refine ⟨r.tow, r.nee, r.non, r.len, fun h => by omega, fun _ => ⟨rfl, rfl, ?_, ?_⟩, hc, fun i hi => ?_⟩
  · show thintF G.nonce = _; rw [r.non]; rfl
  · show tboxF G.nonce c = _; rw [r.non]
  · show keepT hN (G.said i) _ _ _
    rcases r.each i hi with h | ⟨h1, h2, y, h3, h4, -⟩
    · exact .inl h
    · exact .inr ⟨h1, by push_cast; omega, y, h3, h4, fun h => by push_cast at h; omega⟩
theorem KRel.old {n need : Nat} {G : GS} {ts : List (Nat × TWS)} {kk : Nat} {lc : List UInt8} (r : KRel n need G ts kk lc) : ¬(G.noted = true ∧ ((kk + 1 : Nat) : Int) ≤ G.num) := by
  rintro ⟨h1, h2⟩
  by_cases h0 : kk = 0
  · rw [r.no h0] at h1; cases h1
  · have := (r.yes (by omega)).2.1
    push_cast at h2
    omega
theorem KRel.tok {n need : Nat} {G : GS} {ts : List (Nat × TWS)} {kk : Nat} {lc : List UInt8} (r : KRel n need G ts kk lc) {i : Nat} (hi : i < n) : TOk (ts.getD i dT).2 := (r.each i hi).ok
theorem KRel.get {n need : Nat} {G : GS} {ts : List (Nat × TWS)} {kk : Nat} {lc : List UInt8} (r : KRel n need G ts kk lc) {i : Nat} (hi : i < n) : ts[i]? = some ((ts.getD i dT).1, (ts.getD i dT).2) := by
  have hl : i < ts.length := by rw [r.len]; exact hi
  rw [List.getD_eq_getElem?_getD, List.getElem?_eq_getElem hl]
  rfl
/-- A tower that is due takes the newest appointment. -/
theorem KRel.take {n need : Nat} {G : GS} {ts : List (Nat × TWS)} {kk : Nat} {lc : List UInt8} (r : KRel n need G ts kk lc) (h0 : 0 < kk) (h6 : kk ≤ 6) {i : Nat} (hi : i < n) {q : Nat} {T : TWS} (hT : ts[i]? = some (q, T)) :
    (G.said i = kk ∧ takeE T ⟨G.hint, G.num, G.box⟩ = 18 ∧ takeT T ⟨G.hint, G.num, G.box⟩ = T ∧ ts.set i (q, T) = ts) ∨
    (G.said i < G.num ∧ takeE T ⟨G.hint, G.num, G.box⟩ = 0 ∧ ∃ T', takeT T ⟨G.hint, G.num, G.box⟩ = T' ∧ KRel n need (G.say i G.num) (ts.set i (q, T')) kk lc) := by
  obtain ⟨y1, y2, y3, y4⟩ := r.yes h0
  have hl : i < ts.length := by rw [r.len]; exact hi
  have hg : (ts.getD i dT).2 = T := by rw [List.getD_eq_getElem?_getD, hT]; rfl
  have hb := box_len nonceX lc
  have hlc := r.lcl
  have hnum : isNum G.num = true := by rw [y2]; simp [isNum]; omega
  have hset : ts.set i (q, T) = ts := by
    apply List.ext_getElem?
    intro j
    rw [List.getElem?_set]
    by_cases e : i = j
    · subst e; rw [if_pos rfl, if_pos hl, hT]
    · rw [if_neg e]
  have other : ∀ T', takeT T ⟨G.hint, G.num, G.box⟩ = T' → T' = ⟨3, [⟨G.hint, G.num, G.box⟩]⟩ → KRel n need (G.say i G.num) (ts.set i (q, T')) kk lc := by
    intro T' _ hT'
    refine ⟨r.tow, r.nee, r.non, by rw [List.length_set]; exact r.len, r.no, r.yes, r.lcl, fun j hj => ?_⟩
    show keepT hN (if j = i then G.num else G.said j) _ _ _
    by_cases e : j = i
    · subst e
      rw [if_pos rfl, List.getD_eq_getElem?_getD, List.getElem?_set, if_pos rfl, if_pos hl]
      refine .inr ⟨by rw [y2]; omega, by rw [y2]; omega, G.box, ?_, by rw [y4, hb]; omega, fun _ => y4⟩
      show T' = _
      rw [hT', y3]
    · rw [if_neg e, List.getD_eq_getElem?_getD, List.getElem?_set, if_neg (fun h => e h.symm), ← List.getD_eq_getElem?_getD]
      exact r.each j hj
  have hk := r.each i hi
  rw [hg] at hk
  rcases hk with ⟨h1, rfl⟩ | ⟨h1, h2, y, rfl, h4, h5⟩
  · right
    obtain ⟨e1, e2⟩ := take_none3 G.hint G.num G.box hnum (by rw [y4, hb]; omega) (by rw [y4, hb]; omega)
    exact ⟨by rw [h1, y2]; omega, e1, _, rfl, other _ rfl e2⟩
  · rw [← y3] at hT hset ⊢
    obtain ⟨e1, e2⟩ := take_one3 G.hint (G.said i) G.num y G.box hnum (by rw [y4, hb]; omega) (by rw [y4, hb]; omega)
    by_cases hs : G.said i = kk
    · left
      obtain ⟨e3, e4⟩ := e1 (by rw [hs, y2]; omega)
      exact ⟨hs, e3, e4, hset⟩
    · right
      obtain ⟨e3, e4⟩ := e2 (by rw [y2]; omega)
      refine ⟨by rw [y2]; omega, e3, _, rfl, ?_⟩
      have := other
      rw [← y3] at this
      exact this _ rfl e4

/-! ### How many have the newest one -/
def hasB (ts : List (Nat × TWS)) (kk : Nat) (i : Nat) : Bool := (ts.getD i dT).2.all.map (·.n) == [(kk : Int)]
def haveC (ts : List (Nat × TWS)) (kk n : Nat) : Nat := (List.range n).countP (hasB ts kk)
theorem cnt_one (f g : Nat → Bool) (i : Nat) (h : ∀ j, j ≠ i → f j = g j) : ∀ n, (List.range n).countP f ≤ (List.range n).countP g + 1 ∧ (n ≤ i → (List.range n).countP f = (List.range n).countP g)
  | 0 => ⟨by simp, fun _ => by simp⟩
  | n + 1 => by
    obtain ⟨h1, h2⟩ := cnt_one f g i h n
    rw [List.range_succ, List.countP_append, List.countP_append, List.countP_singleton, List.countP_singleton]
    by_cases e : n = i
    · refine ⟨?_, fun h => by omega⟩
      rw [h2 (by omega)]
      have : (if f n = true then 1 else 0) ≤ 1 := by split <;> omega
      omega
    · rw [h n e]
      refine ⟨by omega, fun hn => by rw [h2 (by omega)]⟩
/-- What is left of the towers: none newer than the newest one. -/
structure LRel (n : Nat) (ts : List (Nat × TWS)) (kk : Nat) (lc : List UInt8) (r : Nat) : Prop where
  len : ts.length = n
  each : ∀ i, i < n → ∃ s, keepT hN s (ts.getD i dT).2 kk (tboxF nonceX lc)
  cnt : r ≤ haveC ts kk n
theorem LRel.ok {n : Nat} {ts : List (Nat × TWS)} {kk : Nat} {lc : List UInt8} {r : Nat} (h : LRel n ts kk lc r) : ∀ t ∈ ts, TOk t.2 := by
  intro t ht
  obtain ⟨i, hi, rfl⟩ := List.getElem_of_mem ht
  obtain ⟨s, hs⟩ := h.each i (by rw [← h.len]; exact hi)
  rw [List.getD_eq_getElem?_getD, List.getElem?_eq_getElem hi] at hs
  exact hs.ok
theorem LRel.get {n : Nat} {ts : List (Nat × TWS)} {kk : Nat} {lc : List UInt8} {r : Nat} (h : LRel n ts kk lc r) {i : Nat} (hi : i < n) : ts[i]? = some ((ts.getD i dT).1, (ts.getD i dT).2) := by
  have hl : i < ts.length := by rw [h.len]; exact hi
  rw [List.getD_eq_getElem?_getD, List.getElem?_eq_getElem hl]
  rfl
theorem LRel.drop {n : Nat} {ts : List (Nat × TWS)} {kk : Nat} {lc : List UInt8} {r : Nat} (h : LRel n ts kk lc (r + 1)) {i q : Nat} (hi : i < n) {T : TWS} (hT : ts[i]? = some (q, T)) : LRel n (ts.set i (q, dropT T hN)) kk lc r := by
  have hl : i < ts.length := by rw [h.len]; exact hi
  have hg : (ts.getD i dT).2 = T := by rw [List.getD_eq_getElem?_getD, hT]; rfl
  have hdrop : dropT T hN = ⟨3, []⟩ := by
    obtain ⟨s, hs⟩ := h.each i hi
    rw [hg] at hs
    rcases hs with ⟨-, rfl⟩ | ⟨-, -, y, rfl, -, -⟩
    · exact drop_nil3 _
    · exact drop_one3 _ _ _
  refine ⟨by rw [List.length_set]; exact h.len, fun j hj => ?_, ?_⟩
  · by_cases e : j = i
    · subst e
      refine ⟨-1, .inl ⟨rfl, ?_⟩⟩
      rw [List.getD_eq_getElem?_getD, List.getElem?_set, if_pos rfl, if_pos hl]
      exact hdrop
    · rw [List.getD_eq_getElem?_getD, List.getElem?_set, if_neg (fun h => e h.symm), ← List.getD_eq_getElem?_getD]
      exact h.each j hj
  · have h1 := h.cnt
    have h2 := (cnt_one (hasB ts kk) (hasB (ts.set i (q, dropT T hN)) kk) i (fun j hj => by
      unfold hasB
      rw [List.getD_eq_getElem?_getD, List.getD_eq_getElem?_getD, List.getElem?_set, if_neg (fun h => hj h.symm)]) n).1
    unfold haveC at h1 ⊢
    omega
theorem LRel.less {n : Nat} {ts : List (Nat × TWS)} {kk : Nat} {lc : List UInt8} {r r' : Nat} (h : LRel n ts kk lc r) (hr : r' ≤ r) : LRel n ts kk lc r' := ⟨h.len, h.each, Nat.le_trans hr h.cnt⟩
/-- It is safe: as many have it as must. -/
theorem KRel.safe {n need : Nat} {G : GS} {ts : List (Nat × TWS)} {kk : Nat} {lc : List UInt8} (r : KRel n need G ts kk lc) (h0 : 0 < kk) (hs : safeB G = true) : LRel n ts kk lc need := by
  obtain ⟨y1, y2, y3, y4⟩ := r.yes h0
  refine ⟨r.len, fun i hi => ⟨_, r.each i hi⟩, ?_⟩
  unfold safeB at hs
  rw [y1] at hs
  simp only [Bool.not_true, Bool.false_or, decide_eq_true_eq] at hs
  unfold dueL at hs
  rw [if_pos y1, r.tow, r.nee] at hs
  have key : ∀ m, m ≤ n → (duK G m).length + haveC ts kk m = m := by
    intro m
    induction m with
    | zero => intro _; simp [duK, haveC]
    | succ m ih =>
      intro hm
      have ih' := ih (by omega)
      have hh : haveC ts kk (m + 1) = haveC ts kk m + if hasB ts kk m = true then 1 else 0 := by
        unfold haveC
        rw [List.range_succ, List.countP_append, List.countP_singleton]
      have hb : hasB ts kk m = true ↔ G.said m = G.num := by
        rw [y2]
        unfold hasB
        rcases r.each m (by omega) with ⟨h1, h2⟩ | ⟨h1, h2, y, h3, -, -⟩
        · rw [h2, h1]; simp <;> omega
        · rw [h3]; simp
      by_cases e : G.said m = G.num
      · rw [duK_no G m e, hh, if_pos (hb.2 e)]; omega
      · rw [duK_yes G m e, List.length_append, hh, if_neg (fun h => e (hb.1 h))]
        simp
        omega
  have := key n (Nat.le_refl _)
  omega
theorem LRel.some {n : Nat} {ts : List (Nat × TWS)} {kk : Nat} {lc : List UInt8} {r : Nat} (h : LRel n ts kk lc r) (hr : 1 ≤ r) : ∃ i, i < n ∧ (ts.getD i dT).2 = ⟨3, [⟨hN, kk, tboxF nonceX lc⟩]⟩ := by
  have h1 : 0 < (List.range n).countP (hasB ts kk) := Nat.lt_of_lt_of_le hr h.cnt
  rw [List.countP_pos_iff] at h1
  obtain ⟨i, hi, hb⟩ := h1
  have hin : i < n := by simpa using hi
  refine ⟨i, hin, ?_⟩
  obtain ⟨s, hs⟩ := h.each i hin
  unfold hasB at hb
  rcases hs with ⟨-, h2⟩ | ⟨-, -, y, h3, -, h5⟩
  · rw [h2] at hb; simp at hb
  · rw [h3] at hb
    simp at hb
    rw [h3, hb, h5 hb]

/-! ### What is filed -/
theorem addC_mem {acc : List (List UInt8)} {r : List UInt8 × Bool} {l : List UInt8} (h : l ∈ acc) : l ∈ addC acc r := by
  unfold addC
  split
  · simp [h]
  · exact h
theorem addC_new (acc : List (List UInt8)) (l : List UInt8) : l ∈ addC acc (l, true) := by
  unfold addC
  split
  · simp
  · rename_i h
    simpa using h
theorem claimsK_mem (ts : List (Nat × TWS)) (x : BitVec 64) (base : Int) (l : List UInt8) (i : Nat) (hi : seeT (ts.getD i dT).2 x base = (l, true)) : ∀ k, i < k → l ∈ claimsK ts x base k
  | 0, h => by omega
  | k + 1, h => by
    unfold claimsK
    by_cases e : i = k
    · subst e
      rw [show (ts.getD i (0, ⟨0, []⟩)) = ts.getD i dT from rfl, hi]
      exact addC_new _ _
    · exact addC_mem (claimsK_mem ts x base l i hi k (by omega))
theorem claimsK_none (ts : List (Nat × TWS)) (x : BitVec 64) (base : Int) (k : Nat) (h : ∀ i, i < k → (seeT (ts.getD i dT).2 x base).2 = false) : claimsK ts x base k = [] := by
  induction k with
  | zero => rfl
  | succ k ih =>
    unfold claimsK
    rw [ih (fun i hi => h i (by omega))]
    unfold addC
    rw [if_neg]
    intro hh
    have := h k (by omega)
    rw [show (ts.getD k (0, ⟨0, []⟩)) = ts.getD k dT from rfl, this] at hh
    exact absurd hh.1 (by simp)
theorem LRel.filed {n : Nat} {ts : List (Nat × TWS)} {kk : Nat} {lc : List UInt8} {r : Nat} (h : LRel n ts kk lc r) (hr : 1 ≤ r) (hl : lc.length ≤ 201) (base : Int) (hb : base < kk) : lc ∈ claimsL ts nonceX base := by
  obtain ⟨i, hi, hT⟩ := h.some hr
  refine claimsK_mem ts nonceX base lc i ?_ _ (by rw [h.len]; exact hi)
  rw [hT]
  have := seeT_sealed ⟨3, [⟨hN, kk, tboxF nonceX lc⟩]⟩ nonceX 0 base kk lc (by omega) (idx_one _ _ rfl) hN rfl
  rw [this, if_neg (by omega)]
theorem LRel.none {n : Nat} {ts : List (Nat × TWS)} {kk : Nat} {lc : List UInt8} {r : Nat} (h : LRel n ts kk lc r) : claimsL ts nonceX kk = [] := by
  refine claimsK_none ts nonceX kk _ fun i hi => ?_
  obtain ⟨s, hs⟩ := h.each i (by rw [← h.len]; exact hi)
  rcases hs with ⟨-, h2⟩ | ⟨-, h1, y, h3, -, -⟩
  · rw [h2]; rfl
  · rw [h3]
    have := seeT_at ⟨3, [⟨hN, s, y⟩]⟩ nonceX 0 kk (idx_one _ _ rfl) ⟨hN, s, y⟩ rfl
    rw [this, if_pos h1]

end Go.Proofs.Ytghaiplhakeahaa
