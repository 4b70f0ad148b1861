/- talk: what the reference computes, and that it is what a Talker does. Plain. -/
import Derived.Test.YtgjodjkmefdilaaTx
namespace Go.Proofs.Ytgjodjkmefdilaa
set_option linter.unusedSimpArgs false
set_option linter.unusedVariables false
open Go.RowKit

structure RS where
  most : Nat
  again : Nat
  said : List (List UInt8)
  heard : Nat
  out : Nat
  took : List (List UInt8)
  gave : Nat
  last : Nat
  went : Bool
  owes : Bool
def rSayE (R : RS) (m : List UInt8) : Nat := if 4096 < m.length then 5 else if R.most ≤ R.said.length - R.heard then 8 else 0
def rSay (R : RS) (m : List UInt8) : RS := if 4096 < m.length then R else if R.most ≤ R.said.length - R.heard then R else { R with said := R.said ++ [m] }
def rDue (R : RS) (now : Nat) : Bool := decide (R.out < R.said.length) || (decide (R.heard < R.said.length) && R.went && decide (R.last + R.again ≤ now)) || R.owes
def rTick (R : RS) (now : Nat) : RS := { R with out := R.said.length, last := now, went := true, owes := false }
def rRight (R : RS) (fi : Int) (ms : List (List UInt8)) (he : Int) : Bool := decide (0 ≤ fi) && decide (0 ≤ he) && decide (ms.length ≤ 64) && decide (he ≤ R.said.length) && !longL ms
def rHear (R : RS) (fi : Nat) (ms : List (List UInt8)) (he : Nat) : RS :=
  { R with heard := max R.heard he, out := max R.out (max R.heard he), owes := R.owes || decide (0 < ms.length), took := if R.took.length < fi then R.took else R.took ++ ms.drop (R.took.length - fi) }
def rGot (R : RS) : RS := { R with gave := R.took.length }
def rAlike (R S : RS) : Bool := decide (R.most = S.most ∧ R.again = S.again ∧ R.said.length = S.said.length ∧ R.said.drop R.heard = S.said.drop S.heard ∧ R.heard = S.heard ∧ R.out = S.out ∧ R.took.length = S.took.length ∧ R.took.drop R.gave = S.took.drop S.gave ∧ R.last = S.last ∧ R.went = S.went ∧ R.owes = S.owes)

/-- A Talker T is what the document's R is. -/
structure Rel (T : TS) (R : RS) : Prop where
  most : T.most = R.most
  again : T.again = R.again
  waits : T.waits = R.said.drop R.heard
  said : T.said = R.said.length
  le : R.heard ≤ R.said.length
  gone : T.gone + R.heard = R.out
  out : R.out ≤ R.said.length
  got : T.got = R.took.drop R.gave
  gave : R.gave ≤ R.took.length
  heard : T.heard = R.took.length
  last : T.last = R.last
  went : T.went = R.went
  owes : T.owes = R.owes

section
variable {T U : TS} {R S : RS}
theorem Rel.wlen (h : Rel T R) : T.waits.length = R.said.length - R.heard := by rw [h.waits, List.length_drop]
theorem Rel.say (h : Rel T R) (m : List UInt8) : sayE T m = rSayE R m ∧ Rel (sayT T m) (rSay R m) := by
  have hw := h.wlen
  have hle := h.le
  unfold sayE rSayE sayT rSay
  rw [hw, h.most]
  by_cases h1 : 4096 < m.length
  · simp only [if_pos h1]; exact ⟨trivial, h⟩
  · simp only [if_neg h1]
    by_cases h2 : R.most ≤ R.said.length - R.heard
    · simp only [if_pos h2]; exact ⟨trivial, h⟩
    · simp only [if_neg h2]
      refine ⟨trivial, h.most ▸ rfl, h.again, ?_, ?_, ?_, h.gone, ?_, h.got, h.gave, h.heard, h.last, h.went, h.owes⟩
      · show T.waits ++ [m] = (R.said ++ [m]).drop R.heard
        rw [List.drop_append_of_le_length hle, h.waits]
      · show T.said + 1 = (R.said ++ [m]).length
        rw [h.said]; simp
      · show R.heard ≤ (R.said ++ [m]).length
        simp; omega
      · show R.out ≤ (R.said ++ [m]).length
        have := h.out
        simp; omega
theorem Rel.due (h : Rel T R) (now : Nat) : dueT T now = rDue R now := by
  have hw := h.wlen
  have hle := h.le
  have hg := h.gone
  unfold dueT rDue
  rw [hw, h.owes, h.went, h.last, h.again]
  have e1 : decide (T.gone < R.said.length - R.heard) = decide (R.out < R.said.length) := by
    rw [Bool.eq_iff_iff, decide_eq_true_iff, decide_eq_true_iff]; omega
  have e2 : decide (0 < R.said.length - R.heard) = decide (R.heard < R.said.length) := by
    rw [Bool.eq_iff_iff, decide_eq_true_iff, decide_eq_true_iff]; omega
  rw [e1, e2]
  cases R.owes <;> simp
theorem Rel.tick (h : Rel T R) (now : Nat) : Rel (tickT T now) (rTick R now) := by
  have hw := h.wlen
  have hle := h.le
  refine ⟨h.most, h.again, h.waits, h.said, h.le, ?_, Nat.le_refl _, h.got, h.gave, h.heard, rfl, rfl, rfl⟩
  show T.waits.length + R.heard = R.said.length
  omega
theorem Rel.first (h : Rel T R) : T.said - T.waits.length = R.heard := by
  have hw := h.wlen
  have hle := h.le
  rw [hw, h.said]; omega
theorem Rel.right (h : Rel T R) (fi : Int) (ms : List (List UInt8)) (he : Int) : rightT T fi ms he = rRight R fi ms he := by
  unfold rightT rRight
  rw [h.said]
  cases longL ms <;> simp
theorem Rel.gotten (h : Rel T R) : Rel (gotT T) (rGot R) := by
  refine ⟨h.most, h.again, h.waits, h.said, h.le, h.gone, h.out, ?_, Nat.le_refl _, h.heard, h.last, h.went, h.owes⟩
  show [] = R.took.drop R.took.length
  simp
theorem Rel.idle (h : Rel T R) : (T.waits.length == 0) = (R.heard == R.said.length) := by
  have hw := h.wlen
  have hle := h.le
  rw [hw, Bool.eq_iff_iff, beq_iff_eq, beq_iff_eq]; omega
theorem Rel.hear (h : Rel T R) (fi : Nat) (ms : List (List UInt8)) (he : Nat) (hhe : he ≤ R.said.length) : Rel (hearT T fi ms he) (rHear R fi ms he) := by
  have hw := h.wlen
  have hle := h.le
  have hs := h.said
  have hg := h.gone
  have ho := h.out
  have hA : hearA T he = { T with waits := R.said.drop (max R.heard he), gone := max R.out (max R.heard he) - max R.heard he } := by
    unfold hearA
    by_cases hc : T.said < he + T.waits.length
    · rw [if_pos hc]
      have e1 : max R.heard he = he := by omega
      have e2 : he + T.waits.length - T.said = he - R.heard := by omega
      have e3 : T.gone - (he - R.heard) = max R.out he - he := by omega
      rw [e1, e2, e3, h.waits, List.drop_drop, show R.heard + (he - R.heard) = he by omega]
    · rw [if_neg hc]
      have e1 : max R.heard he = R.heard := by omega
      have e3 : max R.out R.heard - R.heard = T.gone := by omega
      rw [e1, e3, ← h.waits]
  have hB : ∀ T0 : TS, hearB T0 ms = { T0 with owes := T0.owes || decide (0 < ms.length) } := by
    intro T0
    unfold hearB
    by_cases hl : 0 < ms.length
    · rw [if_pos hl]; simp [hl]
    · rw [if_neg hl]; simp [hl]
  unfold hearT
  rw [hB, hA]
  unfold rHear
  by_cases hf : T.heard < fi
  · rw [if_pos hf, if_pos (by rw [← h.heard]; exact hf)]
    exact ⟨h.most, h.again, rfl, h.said, by show max R.heard he ≤ R.said.length; omega, by show _ + max R.heard he = _; simp only; omega, by show max R.out (max R.heard he) ≤ R.said.length; omega, h.got, h.gave, h.heard, h.last, h.went, by show (T.owes || _) = _; rw [h.owes]⟩
  · rw [if_neg hf, if_neg (by rw [← h.heard]; exact hf)]
    unfold hearC
    refine ⟨h.most, h.again, rfl, h.said, by show max R.heard he ≤ R.said.length; omega, by show _ + max R.heard he = _; simp only; omega, by show max R.out (max R.heard he) ≤ R.said.length; omega, ?_, ?_, ?_, h.last, h.went, by show (T.owes || _) = _; rw [h.owes]⟩
    · show T.got ++ ms.drop (T.heard - fi) = (R.took ++ ms.drop (R.took.length - fi)).drop R.gave
      rw [List.drop_append_of_le_length h.gave, h.got, h.heard]
    · show R.gave ≤ (R.took ++ ms.drop (R.took.length - fi)).length
      have := h.gave
      simp; omega
    · show max T.heard (fi + ms.length) = (R.took ++ ms.drop (R.took.length - fi)).length
      have := h.heard
      simp; omega
theorem Rel.alike (h : Rel T R) (k : Rel U S) : sameT T U = rAlike R S := by
  have h1 := h.wlen; have h2 := h.le; have h3 := h.gone
  have k1 := k.wlen; have k2 := k.le; have k3 := k.gone
  unfold sameT rAlike
  rw [Bool.eq_iff_iff, decide_eq_true_iff, decide_eq_true_iff, h.most, k.most, h.again, k.again, h.said, k.said, h.heard, k.heard, h.last, k.last, h.went, k.went, h.owes, k.owes, h.got, k.got]
  constructor
  · rintro ⟨a1, a2, a3, a4, a5, a6, a7, a8, a9, a10⟩
    have e : T.waits.length = U.waits.length := by rw [a9]
    have e2 : R.heard = S.heard := by omega
    exact ⟨a1, a2, a4, by rw [← h.waits, ← k.waits]; exact a9, e2, by omega, a5, a10, a6, a7, a8⟩
  · rintro ⟨a1, a2, a3, a4, a5, a6, a7, a8, a9, a10, a11⟩
    exact ⟨a1, a2, by omega, a3, a7, a9, a10, a11, by rw [h.waits, k.waits]; exact a4, a8⟩
end
theorem rel_new (a b : Nat) : Rel (newT a b) ⟨a, b, [], 0, 0, [], 0, 0, false, false⟩ := by
  constructor <;> simp [newT]

theorem bsl_blk {w w0 : World} {X : List Blk} {b : Nat} {t : TypeId} {cs : Array Value} (O : Ow w w0 X) (hb : (⟨b, t, cs⟩ : Blk) ∈ X) (m : List UInt8) (hcs : cs = (bcs m).toArray) (n : Nat) (hn : m.length = n) (c : Nat) (hc : n ≤ c) : BSl w (.slice (some ⟨b, 0, none⟩) n c) m := by
  subst hn hcs
  refine ⟨_, c, rfl, ⟨hc, fun h => by cases h⟩, .inr ⟨b, 0, rfl, (O.has hb).lt, fun i hi => ?_⟩⟩
  rw [Nat.zero_add, (O.has hb).cell]
  simpa using bcs_get m i hi
/-- An end's message by its number; its first ones. -/
def wdL (e n : Nat) : List UInt8 := [UInt8.ofNat e, UInt8.ofNat n, UInt8.ofNat (n / 256)]
def wds (e n : Nat) : List (List UInt8) := (List.range n).map (wdL e)
theorem wds_len (e n : Nat) : (wds e n).length = n := by simp [wds]
theorem wds_snoc (e n : Nat) : wds e (n + 1) = wds e n ++ [wdL e n] := by simp [wds, List.range_succ]
theorem wds_small (e n : Nat) : ∀ m ∈ wds e n, m.length = 3 := by
  intro m hm
  obtain ⟨i, -, rfl⟩ := List.mem_map.1 hm
  rfl
theorem bcs_wd (e n : Nat) (he : e ≤ 255) : bcs (wdL e n) = [.int .u8 (e : Int), .int .u8 ((n : Int) % 256), .int .u8 (((n : Int) / 256) % 256)] := by
  have h1 : (UInt8.ofNat e).toNat = e := by simp; omega
  have h2 : ((UInt8.ofNat n).toNat : Int) = (n : Int) % 256 := by simp
  have h3 : ((UInt8.ofNat (n / 256)).toNat : Int) = ((n : Int) / 256) % 256 := by simp
  simp only [wdL, bcs, List.map_cons, List.map_nil, h1, h2, h3]

set_option maxRecDepth 100000 in
set_option maxHeartbeats 1000000 in
theorem word_to (e n : Nat) (he : e ≤ 255) (hn : n ≤ 1000000) (w : World) :
    Calls Try.prog 24 #[.int .u8 e, .int .i64 n] w fun x w' => ∃ v, x = .returned v ∧ Below w.heap.size w w' ∧ Clo 5 w.heap.size (wdL e n) v w' := by
  go_enter Try.func24, Try.ntmps24
  go_wp2
  go_ret
  refine ⟨_, rfl, by (repeat' (first | (with_reducible exact Below.refl _ _) | (with_reducible refine bplus ?_ _ _) | (with_reducible refine balloc ?_ _) | (with_reducible refine Below.drew ?_) | (with_reducible refine bdrewN ?_ _) | (with_reducible refine Below.setCell ?_ (by go_size) _))), some ⟨w.heap.size, 0, none⟩, 3, [⟨w.heap.size, 5, #[.int .u8 (e : Int), .int .u8 ((n : Int) % 256), .int .u8 (((n : Int) / 256) % 256)]⟩], rfl, ?_, fun x hx => ?_⟩
  · have := Row.one (e := 5) (sz := 1) w.heap.size 3 3 #[.int .u8 (e : Int), .int .u8 ((n : Int) % 256), .int .u8 (((n : Int) / 256) % 256)] (by omega) (by unfold maxLen; omega) (by rfl)
    rw [bcs_wd e n he]
    exact this
  · obtain rfl := List.mem_singleton.1 hx
    exact ⟨Nat.le_refl _, HasBlk.new _ _ _ _ rfl⟩

set_option maxRecDepth 100000 in
set_option maxHeartbeats 2000000 in
theorem lists_to (e n : Nat) (he : e ≤ 255) (hn : n ≤ 100000) (w : World) :
    Calls Try.prog 18 #[.int .u8 e, .int .i64 n] w fun x w' => ∃ u, x = .returned u ∧ Below w.heap.size w w' ∧ CloL w.heap.size (wds e n) u w' := by
  have HS := Lib.hid (Ow.start w)
  go_enter Try.func18, Try.ntmps18
  go_wp2_with fail
  go_loopw [5, 6] (fun c i wr => ∃ (k : Nat) (ac : Option Addr) (cc : Nat) (us : List Value) (B N : List Blk), i = .int .i64 k ∧ k ≤ n ∧ c = .slice ac k cc ∧ Row 34 1 (.slice ac k cc) k us B ∧ Ow wr w (B ++ N) ∧ ∀ w1, Msgs w1 N us (wds e k)) (fun _ i _ => n - (intOf i).toNat)
  case atStart => exact ⟨0, none, 0, [], [], [], rfl, by omega, rfl, .void, HS.out, fun w1 => Msgs.nil _ _⟩
  case round =>
    obtain ⟨k, ac, cc, us, B, N, rfl, hk, rfl, R, O, MM⟩ := hrel
    have HR := Lib.hid R
    have HO := Lib.hid O
    have HMM := Lib.hid MM
    by_cases hlt : k < n
    · clear R O MM
      go_wp2_with fail
      refine (word_to e k he (by omega) _).mono ?_
      rintro x w1 ⟨u, rfl, hb1, hc1⟩
      obtain ⟨NB, O1, M1⟩ := hc1.found' HO.out (Ext.of_below hb1)
      obtain ⟨au, cu, eu⟩ := (M1 w).slice
      subst eu
      have HMS := Lib.hid M1
      have hl3 : (wdL e k).length = 3 := rfl
      rw [hl3]
      rw [hl3] at HMS
      have O2 := (O1.alloc (.cells #[.slice au 3 cu] 34)).perm (L' := B ++ (NB ++ N)) (perm_cnt fun x => by simp only [cnt_append, cnt_cons, cnt_nil] <;> omega)
      have HO2 := Lib.hid O2
      have hcu : (w1.alloc (.cells #[.slice au 3 cu] 34)).cell? ⟨w1.heap.size, 0, none⟩ = some (.slice au 3 cu) := (HasBlk.new w1 34 #[.slice au 3 cu] w1.heap.size rfl).cell 0
      clear hb1 hc1 O1 M1 O2
      go_wp2_with (at_builtin; refine wpList_append_row rfl (.tmp 12) (.tmp 16) 25 rfl elt_msg HO2.out.mem HO2.out.split _ _ _ (by rfl) HR.out _ _ _ [.slice au 3 cu] (by rfl) (by simp) (by simp) (fun ad had j x hx => ?_) (by simp [Value.oneCell']) (by unfold maxLen; omega) (by omega) (k + 1) rfl (us ++ [.slice au 3 cu]) rfl (fun ao' cap' B' w' R' M' hB' => ?_); (· cases had; obtain rfl : j = 0 := by { have := (List.getElem?_eq_some_iff.1 hx).1; simp at this; exact this }; simp at hx; subst hx; exact hcu); (have HR1 := Lib.hid R'); (have HM1 := Lib.hid M'); (have HB1 := Lib.hid hB'); clear R' M' hB')
      refine ⟨⟨k + 1, ao', cap', _, B', NB ++ N, by simp, by omega, rfl, HR1.out, Ow.mk3 HM1.out HB1.out (fun x hx => HO2.out.new x (List.mem_append_right _ hx)), fun w1 => ?_⟩, by simp [intOf]; omega⟩
      rw [wds_snoc]
      exact ((HMM.out w1).mono (by intro x hx; simp [hx])).snoc ((HMS.out w1).mono (by intro x hx; simp [hx]))
    · obtain rfl : k = n := by omega
      clear R O MM
      go_wp2
      go_ret
      exact ⟨_, rfl, HO.out.below, us, B, N, by rw [wds_len]; exact HR.out, HO.out.mem.apart, fun x hx => ⟨HO.out.new x hx, HO.out.mem.has x hx⟩, HMM.out⟩

end Go.Proofs.Ytgjodjkmefdilaa
