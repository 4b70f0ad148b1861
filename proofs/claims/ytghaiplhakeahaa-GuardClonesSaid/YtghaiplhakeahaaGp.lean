/- guard: a guard and the document's, alike step by step. -/
import Derived.Test.YtghaiplhakeahaaGb
import Derived.Test.YtghaiplhakeahaaGr
namespace Go.Proofs.Ytghaiplhakeahaa
set_option linter.unusedSimpArgs false
set_option linter.unusedVariables false
open Go.RowKit

/-- A guard of the law's nonce is as the document's. -/
structure GR (G : GS) (R : RS) : Prop where
  nonce : G.nonce = nonceX
  tow : G.towers = R.towers
  ned : G.need = R.need
  tt : R.towers ≤ 16
  len : R.has.length = R.towers
  low : -1 ≤ R.newest
  high : R.newest ≤ 1099511627776
  nt : G.noted = decide (0 ≤ R.newest)
  num : G.num = max 0 R.newest
  hint : G.hint = if 0 ≤ R.newest then thintF nonceX else 0
  box : G.box = if 0 ≤ R.newest then tboxF nonceX R.claim else []
  cl : R.claim.length ≤ 200
  cl0 : R.newest < 0 → R.claim = []
  said : ∀ i, i < R.towers → G.said i = R.has.getD i 0
  rest : ∀ i, R.towers ≤ i → G.said i = -1
  bd : ∀ i, i < R.towers → -1 ≤ R.has.getD i 0 ∧ R.has.getD i 0 ≤ R.newest
  slp : (R.sl = false ∧ R.fr = 0 ∧ R.to = 0 ∧ G.slf = 0 ∧ G.slt = 0) ∨ (R.sl = true ∧ G.slf = R.fr ∧ G.slt = R.to ∧ 0 ≤ R.fr ∧ R.fr < R.to ∧ R.to ≤ 1099511627776)
theorem tbox_inj (x : BitVec 64) (l r : List UInt8) (hl : l.length ≤ 65536) (hr : r.length ≤ 65536) (h : tboxF x l = tboxF x r) : l = r := by
  have h1 := open_sealF (tkeyF x) l hl
  have h2 := open_sealF (tkeyF x) r hr
  unfold tboxF at h
  rw [h, h2] at h1
  exact (Prod.mk.inj h1).1.symm
theorem tbox_len (x : BitVec 64) (l : List UInt8) : (tboxF x l).length = 8 + l.length := sealF_len _ _
theorem GR.boxlen {G : GS} {R : RS} (h : GR G R) : G.box.length ≤ 1000 := by
  rw [h.box]
  have := h.cl
  split
  · rw [tbox_len]; omega
  · simp
theorem GR.new (n k : Nat) (hn : n ≤ 16) : GR (newG nonceX n k) (newR n k) where
  nonce := rfl
  tow := rfl
  ned := rfl
  tt := hn
  len := by simp [newR]
  low := by simp [newR]
  high := by simp [newR]
  nt := by simp [newG, newR]
  num := by show (0 : Int) = max 0 (-1); decide
  hint := by simp [newG, newR]
  box := by simp [newG, newR]
  cl := by simp [newR]
  cl0 := by simp [newR]
  said := fun i hi => by
    have : i < n := hi
    simp [newG, newR, List.getD_eq_getElem?_getD, List.getElem?_replicate, this]
  rest := fun i _ => rfl
  bd := fun i hi => by
    have : i < n := hi
    simp [newR, List.getD_eq_getElem?_getD, List.getElem?_replicate, this]
  slp := .inl (by simp [newG, newR])
section
variable {G H : GS} {R S : RS}
theorem GR.all (h : GR G R) (k : GR H S) (ht : R.towers = S.towers) : ((List.range 16).all fun i => G.said i == H.said i) = true ↔ R.has = S.has := by
  rw [List.all_eq_true]
  constructor
  · intro a
    apply List.ext_getElem (by rw [h.len, k.len, ht])
    intro i h1 h2
    have hi : i < R.towers := by rw [← h.len]; exact h1
    have := a i (List.mem_range.2 (by have := h.tt; omega))
    rw [beq_iff_eq, h.said i hi, k.said i (by omega)] at this
    simpa [List.getD_eq_getElem?_getD, h1, h2] using this
  · intro e i hi
    rw [List.mem_range] at hi
    rw [beq_iff_eq]
    by_cases hlt : i < R.towers
    · rw [h.said i hlt, k.said i (by omega), e]
    · rw [h.rest i (by omega), k.rest i (by omega)]
theorem GR.alike (h : GR G R) (k : GR H S) : sameG G H = alikeB R S := by
  unfold sameG alikeB
  rw [decide_eq_decide]
  constructor
  · rintro ⟨-, t, n, nt, -, nu, bx, sd, s1, s2⟩
    have t' : R.towers = S.towers := by rw [← h.tow, ← k.tow, t]
    have nw : R.newest = S.newest := by
      rw [h.nt, k.nt, decide_eq_decide] at nt
      rw [h.num, k.num] at nu
      have := h.low
      have := k.low
      omega
    have cl : R.claim = S.claim := by
      rw [h.box, k.box] at bx
      by_cases h0 : 0 ≤ R.newest
      · rw [if_pos h0, if_pos (nw ▸ h0)] at bx
        exact tbox_inj _ _ _ (by have := h.cl; omega) (by have := k.cl; omega) bx
      · rw [h.cl0 (by omega), k.cl0 (by omega)]
    refine ⟨t', by rw [← h.ned, ← k.ned, n], nw, cl, (h.all k t').1 sd, ?_⟩
    rcases h.slp with ⟨a1, a2, a3, a4, a5⟩ | ⟨a1, a2, a3, a4, a5, a6⟩ <;> rcases k.slp with ⟨b1, b2, b3, b4, b5⟩ | ⟨b1, b2, b3, b4, b5, b6⟩
    · exact ⟨by rw [a1, b1], by omega, by omega⟩
    · omega
    · omega
    · exact ⟨by rw [a1, b1], by omega, by omega⟩
  · rintro ⟨t, n, nw, cl, hs, sl, f, o⟩
    refine ⟨by rw [h.nonce, k.nonce], by rw [h.tow, k.tow, t], by rw [h.ned, k.ned, n], by rw [h.nt, k.nt, nw], by rw [h.hint, k.hint, nw], by rw [h.num, k.num, nw], by rw [h.box, k.box, nw, cl], (h.all k t).2 hs, ?_⟩
    rcases h.slp with ⟨a1, a2, a3, a4, a5⟩ | ⟨a1, a2, a3, a4, a5, a6⟩ <;> rcases k.slp with ⟨b1, b2, b3, b4, b5⟩ | ⟨b1, b2, b3, b4, b5, b6⟩
    · omega
    · rw [a1, b1] at sl; cases sl
    · rw [a1, b1] at sl; cases sl
    · omega
theorem GR.nt_iff (h : GR G R) : G.noted = true ↔ 0 ≤ R.newest := by rw [h.nt, decide_eq_true_iff]
theorem GR.due (h : GR G R) : dueL G = rdueL R := by
  unfold dueL rdueL
  by_cases h0 : 0 ≤ R.newest
  · rw [if_pos (h.nt_iff.2 h0), if_pos h0]
    unfold duK rduK
    rw [h.tow]
    congr 1
    apply List.filter_congr
    intro i hi
    rw [List.mem_range] at hi
    have hb := h.bd i hi
    rw [decide_eq_decide, h.said i hi, h.num]
    omega
  · rw [if_neg (fun e => h0 (h.nt_iff.1 e)), if_neg h0]
theorem GR.safe (h : GR G R) : safeB G = rsafeB R := by
  unfold safeB rsafeB
  rw [h.due, h.ned, h.tow, h.nt]
  congr 1
  have := h.low
  by_cases h0 : 0 ≤ R.newest
  · rw [decide_eq_true h0, decide_eq_false (by omega)]; rfl
  · rw [decide_eq_false h0, decide_eq_true (by omega)]; rfl
theorem GR.asleep (h : GR G R) (now : Int) : asleepE G now = rasleepE R now := by
  unfold asleepE rasleepE
  rcases h.slp with ⟨a1, a2, a3, a4, a5⟩ | ⟨a1, a2, a3, a4, a5, a6⟩
  · rw [a1, a4, a5, Bool.false_and, ← Bool.not_eq_true, Bool.and_eq_true, decide_eq_true_iff, decide_eq_true_iff]; omega
  · rw [a1, a2, a3, Bool.true_and]
theorem GR.has_in (h : GR G R) (i : Nat) (hi : i < R.towers) : hasE G i = R.has.getD i 0 := by
  unfold hasE
  rw [if_neg (by rw [h.tow]; omega), Int.toNat_natCast, h.said i hi]
theorem GR.has_neg (h : GR G R) : hasE G (-1) = -1 := by
  unfold hasE; rw [if_pos (by omega)]
theorem GR.has_out (h : GR G R) : hasE G R.towers = -1 := by
  unfold hasE; rw [if_pos (by rw [h.tow]; omega)]
theorem GR.note (h : GR G R) (n : Int) (l : List UInt8) (hl : l.length ≤ 200) (mk : Int) (hm : mk = if isNum n = false then 2 else 0) : rnoteE R n mk = noteE G n l ∧ GR (noteG G n l) (rnoteR R n l mk) := by
  subst hm
  by_cases hn : isNum n = true
  · have hb := isNum_bd hn
    have hc : (G.noted = true ∧ n ≤ G.num) ↔ n ≤ R.newest := by
      rw [h.nt_iff, h.num]; have := h.low; omega
    rw [if_neg (by simp [hn])]
    by_cases h1 : n ≤ R.newest
    · have a1 : rnoteE R n 0 = 18 := by unfold rnoteE; rw [if_neg (by simp [hn]), if_pos h1]
      have a2 : noteE G n l = 18 := by unfold noteE; rw [if_neg (by simp [hn]), if_pos (hc.2 h1)]
      have a3 : rnoteR R n l 0 = R := by unfold rnoteR; rw [if_neg (fun e => e.2.1 h1)]
      have a4 : noteG G n l = G := by unfold noteG; rw [a2, if_neg (by omega)]
      rw [a1, a2, a3, a4]
      exact ⟨rfl, h⟩
    · have a1 : rnoteE R n 0 = 0 := by unfold rnoteE; rw [if_neg (by simp [hn]), if_neg h1, if_neg (by omega)]
      have a2 : noteE G n l = 0 := by unfold noteE; rw [if_neg (by simp [hn]), if_neg (fun e => h1 (hc.1 e)), if_neg (by omega)]
      have a3 : rnoteR R n l 0 = { R with newest := n, claim := l } := by unfold rnoteR; rw [if_pos ⟨hn, h1, rfl⟩]
      have a4 : noteG G n l = notedG G n l := by unfold noteG; rw [a2, if_pos rfl]
      rw [a1, a2, a3, a4]
      refine ⟨rfl, ?_⟩
      exact {
        nonce := h.nonce, tow := h.tow, ned := h.ned, tt := h.tt, len := h.len
        low := by show (-1 : Int) ≤ n; omega
        high := by show n ≤ 1099511627776; omega
        nt := by show true = decide (0 ≤ n); rw [decide_eq_true hb.1]
        num := by show n = max 0 n; omega
        hint := by show thintF G.nonce = if 0 ≤ n then thintF nonceX else 0; rw [if_pos hb.1, h.nonce]
        box := by show tboxF G.nonce l = if 0 ≤ n then tboxF nonceX l else []; rw [if_pos hb.1, h.nonce]
        cl := hl
        cl0 := fun e => absurd hb.1 (by have : n < 0 := e; omega)
        said := h.said, rest := h.rest
        bd := fun i hi => by
          have := h.bd i hi
          show -1 ≤ R.has.getD i 0 ∧ R.has.getD i 0 ≤ n
          omega
        slp := h.slp }
  · have hn' : isNum n = false := by simpa using hn
    rw [if_pos hn']
    have a1 : rnoteE R n 2 = 2 := by unfold rnoteE; rw [if_pos hn']
    have a2 : noteE G n l = 2 := by unfold noteE; rw [if_pos hn']
    have a3 : rnoteR R n l 2 = R := by unfold rnoteR; rw [if_neg (fun e => hn e.1)]
    have a4 : noteG G n l = G := by unfold noteG; rw [a2, if_neg (by omega)]
    rw [a1, a2, a3, a4]
    exact ⟨rfl, h⟩
theorem GR.ackE (h : GR G R) (which n : Int) : Go.Proofs.Ytghaiplhakeahaa.ackE G which n = rackE R which n := by
  unfold Go.Proofs.Ytghaiplhakeahaa.ackE rackE
  rw [h.tow]
  by_cases h1 : which < 0 ∨ (R.towers : Int) ≤ which
  · rw [if_pos h1, if_pos h1]
  · rw [if_neg h1, if_neg h1, h.said _ (by omega)]
    have hc : (G.noted = false ∨ G.num < n) ↔ (R.newest < 0 ∨ R.newest < n) := by
      rw [← Bool.not_eq_true, h.nt_iff, h.num]
      have := h.low
      omega
    by_cases h2 : R.newest < 0 ∨ R.newest < n
    · rw [if_pos h2, if_pos (hc.2 h2)]
    · rw [if_neg h2, if_neg (fun e => h2 (hc.1 e))]
theorem GR.ack (h : GR G R) (which n : Int) (h0 : rackE R which n = 0) : GR (ackG G which n) (rackR R which.toNat n) := by
  have h1 := h.ackE which n
  unfold ackG
  rw [if_pos (h1.trans h0)]
  unfold rackE at h0
  by_cases a1 : which < 0 ∨ (R.towers : Int) ≤ which
  · rw [if_pos a1] at h0; omega
  rw [if_neg a1] at h0
  by_cases a2 : R.newest < 0 ∨ R.newest < n
  · rw [if_pos a2] at h0; omega
  rw [if_neg a2] at h0
  by_cases a3 : n ≤ R.has.getD which.toNat 0
  · rw [if_pos a3] at h0; omega
  have hk : which.toNat < R.towers := by omega
  have hb := h.bd _ hk
  have hg : ∀ i, i < R.towers → (R.has.set which.toNat n).getD i 0 = if i = which.toNat then n else R.has.getD i 0 := fun i hi => by
    rw [List.getD_eq_getElem?_getD, List.getElem?_set]
    by_cases e : which.toNat = i
    · rw [if_pos e, if_pos (by rw [h.len]; exact hk), if_pos e.symm]; rfl
    · rw [if_neg e, if_neg (fun e' => e e'.symm), List.getD_eq_getElem?_getD]
  exact {
    nonce := h.nonce, tow := h.tow, ned := h.ned, tt := h.tt
    len := by show (R.has.set which.toNat n).length = _; rw [List.length_set]; exact h.len
    low := h.low, high := h.high, nt := h.nt, num := h.num, hint := h.hint, box := h.box, cl := h.cl, cl0 := h.cl0
    said := fun i hi => by
      show (if i = which.toNat then n else G.said i) = (R.has.set which.toNat n).getD i 0
      rw [hg i hi, h.said i hi]
    rest := fun i hi => by
      show (if i = which.toNat then n else G.said i) = -1
      have hi' : R.towers ≤ i := hi
      rw [if_neg (by omega), h.rest i hi']
    bd := fun i hi => by
      have hi' : i < R.towers := hi
      have := h.bd i hi'
      show -1 ≤ (R.has.set which.toNat n).getD i 0 ∧ (R.has.set which.toNat n).getD i 0 ≤ R.newest
      rw [hg i hi']
      split <;> omega
    slp := h.slp }
theorem isNum_false {n : Int} : isNum n = false ↔ n < 0 ∨ 1099511627776 < n := by
  rw [← Bool.not_eq_true]
  unfold isNum
  rw [Bool.and_eq_true, decide_eq_true_iff, decide_eq_true_iff]
  omega
theorem GR.sleepE (h : GR G R) (b f t : Int) : Go.Proofs.Ytghaiplhakeahaa.sleepE G b f t = rsleepE R (checkE b) b f t := by
  by_cases h1 : checkE b = 0
  · have c1 : (isNum f = false ∨ isNum t = false ∨ t < f) ↔ (f < 0 ∨ 1099511627776 < f ∨ t < f ∨ 1099511627776 < t) := by
      rw [isNum_false, isNum_false]; omega
    have b0 : ((checkE b : Nat) : Int) = 0 := by rw [h1]; rfl
    rw [b0]
    by_cases h2 : f < 0 ∨ 1099511627776 < f ∨ t < f ∨ 1099511627776 < t
    · have a1 : Go.Proofs.Ytghaiplhakeahaa.sleepE G b f t = 2 := by unfold Go.Proofs.Ytghaiplhakeahaa.sleepE; rw [if_neg (by omega), if_pos (c1.2 h2)]
      have a2 : rsleepE R 0 b f t = 2 := by unfold rsleepE; rw [if_neg (by omega), if_pos h2]
      rw [a1, a2]; rfl
    have c2 : f < G.slt ↔ (R.sl = true ∧ f < R.to) := by
      rcases h.slp with ⟨a1, a2, a3, a4, a5⟩ | ⟨a1, a2, a3, a4, a5, a6⟩
      · rw [a1, a5]; simp; omega
      · rw [a1, a3]; simp
    by_cases h3 : R.sl = true ∧ f < R.to
    · have a1 : Go.Proofs.Ytghaiplhakeahaa.sleepE G b f t = 7 := by unfold Go.Proofs.Ytghaiplhakeahaa.sleepE; rw [if_neg (by omega), if_neg (fun e => h2 (c1.1 e)), if_pos (c2.2 h3)]
      have a2 : rsleepE R 0 b f t = 7 := by unfold rsleepE; rw [if_neg (by omega), if_neg h2, if_pos h3]
      rw [a1, a2]; rfl
    have a1 : Go.Proofs.Ytghaiplhakeahaa.sleepE G b f t = if safeB G = false then 10 else if b < t - f then 5 else 0 := by unfold Go.Proofs.Ytghaiplhakeahaa.sleepE; rw [if_neg (by omega), if_neg (fun e => h2 (c1.1 e)), if_neg (fun e => h3 (c2.1 e))]
    have a2 : rsleepE R 0 b f t = if rsafeB R = false then 10 else if b < t - f then 5 else 0 := by unfold rsleepE; rw [if_neg (by omega), if_neg h2, if_neg h3]
    rw [a1, a2, h.safe]
    split
    · rfl
    split <;> rfl
  · have a1 : Go.Proofs.Ytghaiplhakeahaa.sleepE G b f t = checkE b := by unfold Go.Proofs.Ytghaiplhakeahaa.sleepE; rw [if_pos h1]
    have a2 : rsleepE R (checkE b) b f t = checkE b := by unfold rsleepE; rw [if_pos (by omega)]
    rw [a1, a2]
theorem GR.wake (h : GR G R) : GR (wakeG G) { R with sl := false, fr := 0, to := 0 } :=
  { nonce := h.nonce, tow := h.tow, ned := h.ned, tt := h.tt, len := h.len, low := h.low, high := h.high, nt := h.nt, num := h.num, hint := h.hint, box := h.box, cl := h.cl, cl0 := h.cl0, said := h.said, rest := h.rest, bd := h.bd, slp := .inl ⟨rfl, rfl, rfl, rfl, rfl⟩ }
theorem GR.sleep (h : GR G R) (b f t : Int) : GR (sleepG G b f t) (rsleepR R (checkE b) b f t) := by
  have h1 := h.sleepE b f t
  unfold sleepG rsleepR
  by_cases h0 : Go.Proofs.Ytghaiplhakeahaa.sleepE G b f t = 0
  · have z0 : rsleepE R (checkE b) b f t = 0 := by rw [← h1, h0]; rfl
    rw [if_pos h0, if_pos z0]
    have hb : 0 ≤ f ∧ f ≤ t ∧ t ≤ 1099511627776 := by
      unfold Go.Proofs.Ytghaiplhakeahaa.sleepE at h0
      split at h0
      · omega
      split at h0
      · omega
      rename_i hx
      rw [isNum_false, isNum_false] at hx
      omega
    by_cases hft : f = t
    · rw [if_pos hft, if_pos hft.symm]; exact h.wake
    · rw [if_neg hft, if_neg (fun e => hft e.symm)]
      exact { nonce := h.nonce, tow := h.tow, ned := h.ned, tt := h.tt, len := h.len, low := h.low, high := h.high, nt := h.nt, num := h.num, hint := h.hint, box := h.box, cl := h.cl, cl0 := h.cl0, said := h.said, rest := h.rest, bd := h.bd, slp := .inr ⟨rfl, rfl, rfl, hb.1, by show f < t; omega, hb.2.2⟩ }
  · have z0 : ¬ rsleepE R (checkE b) b f t = 0 := by rw [← h1]; omega
    rw [if_neg h0, if_neg z0]; exact h
end

end Go.Proofs.Ytghaiplhakeahaa
