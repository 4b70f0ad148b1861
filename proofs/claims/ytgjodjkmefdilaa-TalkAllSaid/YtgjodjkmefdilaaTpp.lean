/- talk: two ends over a net that loses packets and brings old ones: what each has heard is what the other one said, from the first on. Plain. -/
import Derived.Test.YtgjodjkmefdilaaTh
import Derived.Test.YtgjodjkmefdilaaTpl
namespace Go.Proofs.Ytgjodjkmefdilaa
set_option linter.unusedSimpArgs false
set_option linter.unusedVariables false
open Go.RowKit

theorem wds_take (e n k : Nat) (h : k ≤ n) : (wds e n).take k = wds e k := by
  unfold wds
  rw [← List.map_take, List.take_range, Nat.min_eq_left h]
theorem wds_split (e n k : Nat) (h : k ≤ n) : wds e k ++ (wds e n).drop k = wds e n := by
  rw [← wds_take e n k h, List.take_append_drop]

/-- One direction: T's messages (of the end e), U who hears them, g what was got of them. -/
structure Dir (e : Nat) (T U : TS) (s : Nat) (g : List (List UInt8)) : Prop where
  said : T.said = s
  le : T.waits.length ≤ s
  waits : T.waits = (wds e s).drop (s - T.waits.length)
  mid : s - T.waits.length ≤ U.heard
  hle : U.heard ≤ s
  got : g ++ U.got = wds e U.heard
/-- A packet of T's, to U. -/
structure Pk (e : Nat) (T U : TS) (s : Nat) (fi : Nat) (ms : List (List UInt8)) (he : Nat) : Prop where
  len : ms.length ≤ 64
  stop : fi + ms.length ≤ s
  ms : ms = (wds e (fi + ms.length)).drop fi
  fi : fi ≤ U.heard
  he : he ≤ T.heard
/-- What Hear makes of a Talker, of a packet that isn't early. -/
structure Heard (U : TS) (fi : Nat) (ms : List (List UInt8)) (he : Nat) (U' : TS) : Prop where
  heard : U'.heard = max U.heard (fi + ms.length)
  got : U'.got = U.got ++ ms.drop (U.heard - fi)
  said : U'.said = U.said
  waits : U'.waits = U.waits.drop (he + U.waits.length - U.said)
  owes : U'.owes = (U.owes || decide (0 < ms.length))
  last : U'.last = U.last
  went : U'.went = U.went
  most : U'.most = U.most
  again : U'.again = U.again
  gone : U'.gone ≤ U.gone
theorem heard_of (U : TS) (fi : Nat) (ms : List (List UInt8)) (he : Nat) (h : fi ≤ U.heard) : Heard U fi ms he (hearT U fi ms he) := by
  have hA : hearA U he = { U with waits := U.waits.drop (he + U.waits.length - U.said), gone := if U.said < he + U.waits.length then U.gone - (he + U.waits.length - U.said) else U.gone } := by
    unfold hearA
    split
    · rfl
    · rename_i hc
      rw [show he + U.waits.length - U.said = 0 by omega, List.drop_zero]
  have hB : ∀ T0 : TS, hearB T0 ms = { T0 with owes := T0.owes || decide (0 < ms.length) } := by
    intro T0
    unfold hearB
    by_cases hl : 0 < ms.length
    · rw [if_pos hl]; simp [hl]
    · rw [if_neg hl]; simp [hl]
  unfold hearT
  rw [if_neg (by omega), hB, hA]
  unfold hearC
  refine ⟨rfl, rfl, rfl, rfl, rfl, rfl, rfl, rfl, rfl, ?_⟩
  show (if U.said < he + U.waits.length then U.gone - (he + U.waits.length - U.said) else U.gone) ≤ U.gone
  split <;> omega
section
variable {e e' : Nat} {T U T' U' : TS} {s s' : Nat} {g g' : List (List UInt8)} {fi he : Nat} {ms : List (List UInt8)}
theorem Pk.small (h : Pk e T U s fi ms he) : ∀ m ∈ ms, m.length ≤ 4096 := fun m hm => by
  rw [h.ms] at hm
  have := wds_small e _ m (List.mem_of_mem_drop hm)
  omega
theorem Pk.right (h : Pk e T U s fi ms he) (d : Dir e' U T s' g') : rightT U fi ms he = true := by
  have hl : longL ms = false := longL_no fun j hj => getD_len h.small j
  have h1 := h.len
  have h2 : he ≤ U.said := Nat.le_trans h.he (by rw [d.said]; exact d.hle)
  unfold rightT
  rw [hl]
  simp [h1, h2]
theorem Pk.mono (h : Pk e T U s fi ms he) (hs : s ≤ s') (h1 : U.heard ≤ U'.heard) (h2 : T.heard ≤ T'.heard) : Pk e T' U' s' fi ms he :=
  ⟨h.len, Nat.le_trans h.stop hs, h.ms, Nat.le_trans h.fi h1, Nat.le_trans h.he h2⟩
/-- What a Talker sends. -/
theorem Dir.send (d : Dir e T U s g) (h : T.waits.length ≤ 64) : Pk e T U s (T.said - T.waits.length) T.waits T.heard := by
  have h1 := d.said; have h2 := d.le; have h3 := d.mid
  have e1 : T.said - T.waits.length + T.waits.length = s := by omega
  refine ⟨h, by omega, ?_, by omega, Nat.le_refl _⟩
  rw [e1, h1]
  exact d.waits
/-- The one who sends changes, but for what counts here. -/
theorem Dir.sender (d : Dir e T U s g) (h1 : T'.said = T.said) (h2 : T'.waits = T.waits) : Dir e T' U s g :=
  ⟨h1.trans d.said, by rw [h2]; exact d.le, by rw [h2]; exact d.waits, by rw [h2]; exact d.mid, d.hle, d.got⟩
/-- The one who hears changes, but for what counts here. -/
theorem Dir.hearer (d : Dir e T U s g) (h1 : U'.heard = U.heard) (h2 : U'.got = U.got) : Dir e T U' s g :=
  ⟨d.said, d.le, d.waits, by rw [h1]; exact d.mid, by rw [h1]; exact d.hle, by rw [h1, h2]; exact d.got⟩
theorem Dir.say (d : Dir e T U s g) (h : sayE T (wdL e s) = 0) : Dir e (sayT T (wdL e s)) U (s + 1) g := by
  have h3 : (wdL e s).length = 3 := rfl
  have hm : ¬ T.most ≤ T.waits.length := by
    intro hc
    unfold sayE at h
    rw [h3, if_neg (by omega), if_pos hc] at h
    omega
  have hT : sayT T (wdL e s) = { T with waits := T.waits ++ [wdL e s], said := T.said + 1 } := by
    unfold sayT
    rw [h3, if_neg (by omega), if_neg hm]
  have h4 := d.le; have h5 := d.mid; have h6 := d.hle
  rw [hT]
  have hl : (T.waits ++ [wdL e s]).length = T.waits.length + 1 := by simp
  refine ⟨by show T.said + 1 = s + 1; rw [d.said], by show (T.waits ++ [wdL e s]).length ≤ s + 1; omega, ?_, ?_, by omega, d.got⟩
  · show T.waits ++ [wdL e s] = (wds e (s + 1)).drop (s + 1 - (T.waits ++ [wdL e s]).length)
    rw [hl, show s + 1 - (T.waits.length + 1) = s - T.waits.length by omega, wds_snoc, List.drop_append_of_le_length (by rw [wds_len]; omega), ← d.waits]
  · show s + 1 - (T.waits ++ [wdL e s]).length ≤ U.heard
    rw [hl]; omega
theorem say_not (h : sayE T (wdL e s) ≠ 0) : sayT T (wdL e s) = T := by
  have h3 : (wdL e s).length = 3 := rfl
  unfold sayE at h
  unfold sayT
  rw [h3, if_neg (by omega)] at h
  rw [h3, if_neg (by omega)]
  by_cases hc : T.most ≤ T.waits.length
  · rw [if_pos hc]
  · rw [if_neg hc] at h; exact absurd rfl h
theorem say_keeps (T : TS) (m : List UInt8) : (sayT T m).heard = T.heard ∧ (sayT T m).got = T.got := by
  unfold sayT; split
  · exact ⟨rfl, rfl⟩
  · split <;> exact ⟨rfl, rfl⟩
/-- A packet comes: the direction that it goes. -/
theorem Dir.hear (d : Dir e T U s g) (k : Pk e T U s fi ms he) (h : Heard U fi ms he U') : Dir e T U' s g := by
  have h1 := d.mid; have h2 := d.hle; have h3 := k.stop; have h4 := k.fi
  refine ⟨d.said, d.le, d.waits, by rw [h.heard]; omega, by rw [h.heard]; omega, ?_⟩
  rw [h.heard, h.got, ← List.append_assoc, d.got]
  have e1 : ms.drop (U.heard - fi) = (wds e (fi + ms.length)).drop U.heard := by
    conv => lhs; rw [k.ms]
    rw [List.drop_drop, show fi + (U.heard - fi) = U.heard by omega]
  rw [e1]
  rcases Nat.le_total U.heard (fi + ms.length) with hc | hc
  · rw [Nat.max_eq_right hc, wds_split _ _ _ hc]
  · rw [Nat.max_eq_left hc, List.drop_eq_nil_of_le (by rw [wds_len]; exact hc), List.append_nil]
/-- A packet comes: the other direction. -/
theorem Dir.heardOf (d : Dir e' U T s' g') (k : Pk e T U s fi ms he) (h : Heard U fi ms he U') : Dir e' U' T s' g' := by
  have h1 := d.mid; have h2 := d.hle; have h3 := k.he; have h4 := d.le; have h5 := d.said
  obtain ⟨q, hq⟩ : ∃ q, he + U.waits.length - U.said = q := ⟨_, rfl⟩
  have hw := h.waits
  rw [hq] at hw
  have hl : U'.waits.length = U.waits.length - q := by rw [hw, List.length_drop]
  refine ⟨h.said.trans h5, by omega, ?_, by omega, h2, d.got⟩
  rw [hl, hw]
  conv => lhs; rw [d.waits]
  rw [List.drop_drop]
  congr 1
  omega
/-- Got. -/
theorem Dir.gotten (d : Dir e T U s g) : Dir e T (gotT U) s (g ++ U.got) :=
  ⟨d.said, d.le, d.waits, d.mid, d.hle, by show (g ++ U.got) ++ [] = wds e U.heard; rw [List.append_nil]; exact d.got⟩
end

/-- What TalkAll needs of an end. -/
structure Fit (T : TS) (b : Nat) : Prop where
  gone : 0 < T.gone → T.went = true
  last : T.last ≤ b
  again : T.again ≤ 1000
theorem Fit.mono {T : TS} {b c : Nat} (h : Fit T b) (hb : b ≤ c) : Fit T c := ⟨h.gone, Nat.le_trans h.last hb, h.again⟩
theorem Fit.due {T : TS} {b now : Nat} (h : Fit T b) (hn : b + 1000 ≤ now) (hw : 0 < T.waits.length) : dueT T now = true := by
  unfold dueT
  by_cases hg : T.gone < T.waits.length
  · simp [hg]
  · have h1 := h.gone (by omega)
    have h2 := h.last; have h3 := h.again
    have h4 : T.last + T.again ≤ now := by omega
    simp [h1, h4, hw]
/-- A packet goes out, if one is due, and comes through. -/
def half (T U : TS) (now : Nat) : TS × TS := if dueT T now = true then (tickT T now, hearT U (T.said - T.waits.length) T.waits T.heard) else (T, U)
section
variable {e e' : Nat} {T U : TS} {s s' : Nat} {g g' : List (List UInt8)} {b now : Nat}
structure Half (e e' : Nat) (T U T' U' : TS) (s s' : Nat) (g g' : List (List UInt8)) (now c : Nat) : Prop where
  ab : Dir e T' U' s g
  ba : Dir e' U' T' s' g'
  fT : Fit T' now
  fU : Fit U' c
  heard : U'.heard = s
  tw : T'.waits = T.waits
  th : T'.heard = T.heard
  owes : 0 < T.waits.length → U'.owes = true
  cut : (T.owes = true ∨ 0 < T.waits.length) → U'.waits.length ≤ s' - T.heard
  less : U'.waits.length ≤ U.waits.length
  tl : T'.waits.length ≤ 64
  ul : U'.waits.length ≤ 64
theorem half_ok {c : Nat} (d : Dir e T U s g) (d' : Dir e' U T s' g') (fT : Fit T b) (fU : Fit U c) (hn : b + 1000 ≤ now) (hl : T.waits.length ≤ 64) (hu : U.waits.length ≤ 64) : Half e e' T U (half T U now).1 (half T U now).2 s s' g g' now c := by
  unfold half
  by_cases hd : dueT T now = true
  · rw [if_pos hd]
    have k := d.send hl
    have h := heard_of U (T.said - T.waits.length) T.waits T.heard k.fi
    have h1 := d.said; have h2 := d.le; have h3 := d.hle; have h4 := d'.said; have h5 := d'.le; have h6 := d'.hle
    have hw : (hearT U (T.said - T.waits.length) T.waits T.heard).waits.length = U.waits.length - (T.heard + U.waits.length - U.said) := by rw [h.waits, List.length_drop]
    refine ⟨(d.hear k h).sender rfl rfl, (d'.heardOf k h).hearer rfl rfl, ⟨fun _ => rfl, Nat.le_refl _, fT.again⟩, ⟨fun hg => ?_, ?_, ?_⟩, ?_, rfl, rfl, fun hw0 => ?_, fun _ => ?_, ?_, hl, ?_⟩
    · rw [h.went]; exact fU.gone (Nat.lt_of_lt_of_le hg h.gone)
    · rw [h.last]; exact fU.last
    · rw [h.again]; exact fU.again
    · rw [h.heard]; omega
    · rw [h.owes]; simp [hw0]
    · simp only; omega
    · simp only; omega
    · simp only; omega
  · rw [if_neg hd]
    have hw0 : T.waits.length = 0 := by
      rcases Nat.eq_zero_or_pos T.waits.length with h | h
      · exact h
      · exact absurd (fT.due hn h) hd
    have h1 := d.mid; have h2 := d.hle
    refine ⟨d, d', fT.mono (by omega), fU, by simp only; omega, rfl, rfl, fun h => by omega, fun h => ?_, Nat.le_refl _, hl, hu⟩
    rcases h with h | h
    · exfalso; apply hd; unfold dueT; simp [h]
    · omega
end
/-- How far TalkAll's rounds have come. -/
structure Stage (i : Nat) (T U : TS) (s0 s1 : Nat) : Prop where
  tw : 1 ≤ i → T.waits.length = 0
  th : 1 ≤ i → T.heard = s1
  uh : 1 ≤ i → U.heard = s0
  ow : i = 1 → 0 < U.waits.length → T.owes = true
  uw : 2 ≤ i → U.waits.length = 0
structure Round (i : Nat) (T U : TS) (s0 s1 : Nat) (g0 g1 : List (List UInt8)) : Prop where
  ab : Dir 0 T U s0 g1
  ba : Dir 1 U T s1 g0
  fT : Fit T (2000 * i + 200)
  fU : Fit U (2000 * i + 200)
  tl : T.waits.length ≤ 64
  ul : U.waits.length ≤ 64
  st : Stage i T U s0 s1
theorem Round.next {i : Nat} {T U : TS} {s0 s1 : Nat} {g0 g1 : List (List UInt8)} (h : Round i T U s0 s1 g0 g1) : Round (i + 1) (half (half T U (2000 * (i + 1))).2 (half T U (2000 * (i + 1))).1 (2000 * (i + 1))).2 (half (half T U (2000 * (i + 1))).2 (half T U (2000 * (i + 1))).1 (2000 * (i + 1))).1 s0 s1 g0 g1 := by
  have A := half_ok (now := 2000 * (i + 1)) h.ab h.ba h.fT h.fU (by omega) h.tl h.ul
  have B := half_ok (now := 2000 * (i + 1)) A.ba A.ab A.fU A.fT (by omega) A.ul A.tl
  have t1 : (half T U (2000 * (i + 1))).1.waits.length = T.waits.length := by rw [A.tw]
  have t2 : (half (half T U (2000 * (i + 1))).2 (half T U (2000 * (i + 1))).1 (2000 * (i + 1))).1.waits.length = (half T U (2000 * (i + 1))).2.waits.length := by rw [B.tw]
  have a1 := A.heard; have a2 := A.less; have a3 := A.cut; have a4 := A.owes
  have b1 := B.heard; have b2 := B.less; have b3 := B.cut; have b4 := B.owes; have b5 := B.th
  refine ⟨B.ba, B.ab, B.fU.mono (by omega), B.fT.mono (by omega), B.ul, B.tl, ⟨fun _ => ?_, fun _ => b1, fun _ => b5.trans a1, fun _ hw => b4 (by omega), fun hi => ?_⟩⟩
  · by_cases hw : 0 < T.waits.length
    · have := b3 (.inl (a4 hw)); omega
    · omega
  · have hz := h.st.th (by omega)
    by_cases hi1 : i = 1
    · by_cases hw : 0 < U.waits.length
      · have := a3 (.inl (h.st.ow hi1 hw)); omega
      · omega
    · have := h.st.uw (by omega); omega

end Go.Proofs.Ytgjodjkmefdilaa
