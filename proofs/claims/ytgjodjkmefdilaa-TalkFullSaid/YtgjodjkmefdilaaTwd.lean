/- talk: contracts of word and lists. -/
import Derived.Test.YtgjodjkmefdilaaTpl
namespace Go.Proofs.Ytgjodjkmefdilaa
set_option linter.unusedSimpArgs false
set_option linter.unusedVariables false
open Go.RowKit

theorem bsl_blk {w w0 : World} {X : List Blk} {b : Nat} {t : TypeId} {cs : Array Value} (O : Ow w w0 X) (hb : (⟨b, t, cs⟩ : Blk) ∈ X) (m : List UInt8) (hcs : cs = (bcs m).toArray) (n : Nat) (hn : m.length = n) (c : Nat) (hc : n ≤ c) : BSl w (.slice (some ⟨b, 0, none⟩) n c) m := by
  subst hn hcs
  refine ⟨_, c, rfl, ⟨hc, fun h => by cases h⟩, .inr ⟨b, 0, rfl, (O.has hb).lt, fun i hi => ?_⟩⟩
  rw [Nat.zero_add, (O.has hb).cell]
  simpa using bcs_get m i hi
/-- An end's message by its number; its first ones. -/
def wdL (e n : Nat) : List UInt8 := [UInt8.ofNat e, UInt8.ofNat n, UInt8.ofNat (n / 256)]
def wds (e n : Nat) : List (List UInt8) := (List.range n).map (wdL e)
theorem wds_len (e n : Nat) : (wds e n).length = n := by simp [wds]
theorem wds_snoc (e n : Nat) : wds e (n + 1) = wds e n ++ [wdL e n] := by simp [wds, List.range_succ]
theorem wds_small (e n : Nat) : ∀ m ∈ wds e n, m.length = 3 := by
  intro m hm
  obtain ⟨i, -, rfl⟩ := List.mem_map.1 hm
  rfl
theorem bcs_wd (e n : Nat) (he : e ≤ 255) : bcs (wdL e n) = [.int .u8 (e : Int), .int .u8 ((n : Int) % 256), .int .u8 (((n : Int) / 256) % 256)] := by
  have h1 : (UInt8.ofNat e).toNat = e := by simp; omega
  have h2 : ((UInt8.ofNat n).toNat : Int) = (n : Int) % 256 := by simp
  have h3 : ((UInt8.ofNat (n / 256)).toNat : Int) = ((n : Int) / 256) % 256 := by simp
  simp only [wdL, bcs, List.map_cons, List.map_nil, h1, h2, h3]

set_option maxRecDepth 100000 in
set_option maxHeartbeats 1000000 in
theorem word_to (e n : Nat) (he : e ≤ 255) (hn : n ≤ 1000000) (w : World) :
    Calls Try.prog 24 #[.int .u8 e, .int .i64 n] w fun x w' => ∃ v, x = .returned v ∧ Below w.heap.size w w' ∧ Clo 5 w.heap.size (wdL e n) v w' := by
  go_enter Try.func24, Try.ntmps24
  go_wp2
  go_ret
  refine ⟨_, rfl, by (repeat' (first | (with_reducible exact Below.refl _ _) | (with_reducible refine bplus ?_ _ _) | (with_reducible refine balloc ?_ _) | (with_reducible refine Below.drew ?_) | (with_reducible refine bdrewN ?_ _) | (with_reducible refine Below.setCell ?_ (by go_size) _))), some ⟨w.heap.size, 0, none⟩, 3, [⟨w.heap.size, 5, #[.int .u8 (e : Int), .int .u8 ((n : Int) % 256), .int .u8 (((n : Int) / 256) % 256)]⟩], rfl, ?_, fun x hx => ?_⟩
  · have := Row.one (e := 5) (sz := 1) w.heap.size 3 3 #[.int .u8 (e : Int), .int .u8 ((n : Int) % 256), .int .u8 (((n : Int) / 256) % 256)] (by omega) (by unfold maxLen; omega) (by rfl)
    rw [bcs_wd e n he]
    exact this
  · obtain rfl := List.mem_singleton.1 hx
    exact ⟨Nat.le_refl _, HasBlk.new _ _ _ _ rfl⟩

set_option maxRecDepth 100000 in
set_option maxHeartbeats 2000000 in
theorem lists_to (e n : Nat) (he : e ≤ 255) (hn : n ≤ 100000) (w : World) :
    Calls Try.prog 18 #[.int .u8 e, .int .i64 n] w fun x w' => ∃ u, x = .returned u ∧ Below w.heap.size w w' ∧ CloL w.heap.size (wds e n) u w' := by
  have HS := Lib.hid (Ow.start w)
  go_enter Try.func18, Try.ntmps18
  go_wp2_with fail
  go_loopw [5, 6] (fun c i wr => ∃ (k : Nat) (ac : Option Addr) (cc : Nat) (us : List Value) (B N : List Blk), i = .int .i64 k ∧ k ≤ n ∧ c = .slice ac k cc ∧ Row 34 1 (.slice ac k cc) k us B ∧ Ow wr w (B ++ N) ∧ ∀ w1, Msgs w1 N us (wds e k)) (fun _ i _ => n - (intOf i).toNat)
  case atStart => exact ⟨0, none, 0, [], [], [], rfl, by omega, rfl, .void, HS.out, fun w1 => Msgs.nil _ _⟩
  case round =>
    obtain ⟨k, ac, cc, us, B, N, rfl, hk, rfl, R, O, MM⟩ := hrel
    have HR := Lib.hid R
    have HO := Lib.hid O
    have HMM := Lib.hid MM
    by_cases hlt : k < n
    · clear R O MM
      go_wp2_with fail
      refine (word_to e k he (by omega) _).mono ?_
      rintro x w1 ⟨u, rfl, hb1, hc1⟩
      obtain ⟨NB, O1, M1⟩ := hc1.found' HO.out (Ext.of_below hb1)
      obtain ⟨au, cu, eu⟩ := (M1 w).slice
      subst eu
      have HMS := Lib.hid M1
      have hl3 : (wdL e k).length = 3 := rfl
      rw [hl3]
      rw [hl3] at HMS
      have O2 := (O1.alloc (.cells #[.slice au 3 cu] 34)).perm (L' := B ++ (NB ++ N)) (perm_cnt fun x => by simp only [cnt_append, cnt_cons, cnt_nil] <;> omega)
      have HO2 := Lib.hid O2
      have hcu : (w1.alloc (.cells #[.slice au 3 cu] 34)).cell? ⟨w1.heap.size, 0, none⟩ = some (.slice au 3 cu) := (HasBlk.new w1 34 #[.slice au 3 cu] w1.heap.size rfl).cell 0
      clear hb1 hc1 O1 M1 O2
      go_wp2_with (at_builtin; refine wpList_append_row rfl (.tmp 12) (.tmp 16) 25 rfl elt_msg HO2.out.mem HO2.out.split _ _ _ (by rfl) HR.out _ _ _ [.slice au 3 cu] (by rfl) (by simp) (by simp) (fun ad had j x hx => ?_) (by simp [Value.oneCell']) (by unfold maxLen; omega) (by omega) (k + 1) rfl (us ++ [.slice au 3 cu]) rfl (fun ao' cap' B' w' R' M' hB' => ?_); (· cases had; obtain rfl : j = 0 := by { have := (List.getElem?_eq_some_iff.1 hx).1; simp at this; exact this }; simp at hx; subst hx; exact hcu); (have HR1 := Lib.hid R'); (have HM1 := Lib.hid M'); (have HB1 := Lib.hid hB'); clear R' M' hB')
      refine ⟨⟨k + 1, ao', cap', _, B', NB ++ N, by simp, by omega, rfl, HR1.out, Ow.mk3 HM1.out HB1.out (fun x hx => HO2.out.new x (List.mem_append_right _ hx)), fun w1 => ?_⟩, by simp [intOf]; omega⟩
      rw [wds_snoc]
      exact ((HMM.out w1).mono (by intro x hx; simp [hx])).snoc ((HMS.out w1).mono (by intro x hx; simp [hx]))
    · obtain rfl : k = n := by omega
      clear R O MM
      go_wp2
      go_ret
      exact ⟨_, rfl, HO.out.below, us, B, N, by rw [wds_len]; exact HR.out, HO.out.mem.apart, fun x hx => ⟨HO.out.new x hx, HO.out.mem.has x hx⟩, HMM.out⟩

end Go.Proofs.Ytgjodjkmefdilaa
