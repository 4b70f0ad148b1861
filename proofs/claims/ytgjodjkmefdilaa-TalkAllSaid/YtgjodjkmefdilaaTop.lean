/- talk: operations that came in. -/
import Derived.Test.YtgjodjkmefdilaaTdt
import Derived.Test.YtgjodjkmefdilaaOrw
namespace Go.Proofs.Ytgjodjkmefdilaa
set_option linter.unusedSimpArgs false
set_option linter.unusedVariables false
open Go.ChangeShapes Go.WideShapes Go.ChangeAt Go.RowKit

/-- Cells of a row that came in, an element of sz cells each. -/
def Rws (w : World) (v : Value) (n sz : Nat) (E : Nat → List Value) : Prop := ∃ ao cap, v = .slice ao n cap ∧ (n ≤ cap ∧ (ao = none → n = 0 ∧ cap = 0)) ∧ (n = 0 ∨ ∃ r o, ao = some ⟨r, o, none⟩ ∧ r < w.heap.size ∧ ∀ i, i < n → ∀ j u, (E i)[j]? = some u → w.cell? ⟨r, o + (i * sz + j), none⟩ = some u)
theorem Rws.slice {w : World} {v : Value} {n sz : Nat} {E : Nat → List Value} (h : Rws w v n sz E) : ∃ ao cap, v = .slice ao n cap ∧ n ≤ cap ∧ (ao = none → n = 0 ∧ cap = 0) := by
  obtain ⟨ao, cap, h1, h2, _⟩ := h; exact ⟨ao, cap, h1, h2.1, h2.2⟩
theorem Rws.at_ {w0 w : World} {X : List Blk} {ao : Option Addr} {n cap sz : Nat} {E : Nat → List Value} (h : Rws w0 (.slice ao n cap) n sz E) (O : Ow w w0 X) (k : Nat) (hk : k < n) : ∃ r o, ao = some ⟨r, o, none⟩ ∧ r < w.heap.size ∧ ∀ j u, (E k)[j]? = some u → w.cell? ⟨r, o + (k * sz + j), none⟩ = some u := by
  obtain ⟨ao', cap', e, _, h3⟩ := h
  cases e
  rcases h3 with h3 | ⟨r, o, h3, h4, h5⟩
  · omega
  · exact ⟨r, o, h3, Nat.lt_of_lt_of_le h4 O.mem.size, fun j u hj => by rw [O.old h4]; exact h5 k hk j u hj⟩
theorem Rws.fst {w : World} {ao : Option Addr} {n cap sz : Nat} {E : Nat → List Value} (h : Rws w (.slice ao n cap) n sz E) (k : Nat) (hk : k ≤ n) : Rws w (.slice ao k cap) k sz E := by
  obtain ⟨ao', cap', e, h2, h3⟩ := h
  cases e
  refine ⟨ao, cap, rfl, ⟨by omega, fun h => ⟨by have := (h2.2 h).1; omega, (h2.2 h).2⟩⟩, ?_⟩
  rcases h3 with h3 | ⟨r, o, h3, h4, h5⟩
  · exact .inl (by omega)
  · exact .inr ⟨r, o, h3, h4, fun i hi => h5 i (by omega)⟩

section
variable {H : Type} {enc : TypeId × Value → H} {P : Program} {w : World} {base : Nat} {held : Bool}

theorem open_rws {t e : TypeId} {sz : Nat} {v : Value} {d : DataW H} {p : List MemPlace} (ht : P.underlying t = some (.slice e)) (hc : P.cellsOf e = sz) (hsz : 0 < sz) {r : Reach} {b0 : Nat} (hval : Value.okWide P w r b0 t v) (hd : DataW.Trod enc P w base (fun _ => true) held t v d p)
    {α : Type} [Inhabited α] (mk : α → List Value) (ok : α → Prop) (he : ∀ fuel (cs : List Value) x, cs.length = sz → DataW.trod enc P w base (fun _ => true) held fuel e cs = some x → ∃ a, cs = mk a ∧ ok a) :
    ∃ (n : Nat) (l : Nat → α), n ≤ maxLen ∧ Rws w v n sz (fun i => mk (l i)) ∧ ∀ i, i < n → ok (l i) := by
  obtain ⟨a', len, m, rfl⟩ := okWide_slice ht hval
  obtain ⟨fuel, hf⟩ := hd
  rcases Deep.open_slice ht hf with ⟨h0, _⟩ | ⟨a, len2, cap2, m2, n, D, Pl, h0, hb, hl, hm, hmm, _, hx⟩
  · refine ⟨0, fun _ => default, by unfold maxLen; omega, ?_, fun i hi => by omega⟩
    simp [Value.cells] at h0
    obtain ⟨rfl, rfl, rfl⟩ := h0
    exact ⟨none, 0, rfl, ⟨by omega, fun _ => ⟨rfl, rfl⟩⟩, .inl rfl⟩
  · simp only [if_true] at hmm
    subst hmm
    simp [Value.cells] at h0
    obtain ⟨rfl, rfl, rfl⟩ := h0
    rw [hc] at hx
    obtain ⟨l, hl2⟩ := Deep.choose_lt (α := α) (n := len) (p := fun i x => ok x ∧ (mk x).length = sz ∧ ∀ j u, (mk x)[j]? = some u → w.cell? (a.add (i * sz + j)) = some u) (fun i hi => by
      obtain ⟨cs', h1, h2⟩ := hx i (by omega)
      obtain ⟨h5, h6, h3⟩ := World.cells?_some h1
      obtain ⟨x, rfl, hok⟩ := he _ _ _ (by omega) h2
      refine ⟨x, hok, by omega, fun j u hj => ?_⟩
      have hjl := (List.getElem?_eq_some_iff.1 hj).1
      have h4 := h3 j (by omega)
      rw [hj] at h4
      rw [← h4, Deep.add_add])
    refine ⟨len, l, by omega, ⟨some a, m, rfl, ⟨hl, fun h => by cases h⟩, ?_⟩, fun i hi => (hl2 i hi).1⟩
    by_cases h0 : len = 0
    · exact .inl h0
    · right
      obtain ⟨-, h2, h3⟩ := hl2 0 (by omega)
      have h00 := h3 0 _ (List.getElem?_eq_getElem (by omega))
      have ha : a.add (0 * sz + 0) = a := by simp [Addr.add]
      rw [ha] at h00
      obtain ⟨e1, e2⟩ := cell_plain h00
      refine ⟨a.block, a.off, by rw [← e1], e2, fun i hi j u hj => ?_⟩
      have := (hl2 i hi).2.2 j u hj
      rw [e1, add_plain] at this
      exact this

/-- A cell that reads as a slice of bytes. -/
theorem trod_bsl {e q : TypeId} (he : P.underlying e = some (.slice q)) (hq : P.underlying q = some (.int .u8)) (cq : P.cellsOf q = 1) {fuel : Nat} {v : Value} {x : DataW H × List MemPlace} (h : DataW.trod enc P w base (fun _ => true) held fuel e [v] = some x) : ∃ l : List UInt8, BSl w v l ∧ l.length ≤ maxLen := by
  rcases Deep.open_slice1 he cq h with ⟨h0, _⟩ | ⟨a, len, cap, m2, n, V, D, Pl, h0, hb, hl, hm, hmm, _, hx⟩
  · simp at h0
    subst h0
    exact ⟨[], BSl.nil w, by unfold maxLen; simp⟩
  · simp only [if_true] at hmm
    subst hmm
    simp at h0
    subst h0
    obtain ⟨Z, hZ⟩ := Deep.choose_lt (α := Int) (n := len) (p := fun i b => V i = .int .u8 b ∧ 0 ≤ b ∧ b ≤ 255) (fun i hi => by
      obtain ⟨b, hb1, _, hw⟩ := DataW.trod_int hq (hx i (by omega)).2
      simp at hb1
      exact ⟨b, hb1, u8_wf hw⟩)
    have hlen : ((List.range len).map fun c => UInt8.ofNat (Z c).toNat).length = len := by simp
    refine ⟨(List.range len).map fun c => UInt8.ofNat (Z c).toNat, ?_, by rw [hlen]; omega⟩
    show VSl w (.slice (some a) len m2) ((List.range len).map fun c => UInt8.ofNat (Z c).toNat).length _
    rw [hlen]
    refine ⟨some a, m2, rfl, ⟨hl, fun h => by cases h⟩, ?_⟩
    by_cases h0 : len = 0
    · exact .inl h0
    · right
      have h00 := (hx 0 (by omega)).1
      have ha : a.add 0 = a := by simp [Addr.add]
      rw [ha] at h00
      obtain ⟨e1, e2⟩ := cell_plain h00
      refine ⟨a.block, a.off, by rw [← e1], e2, fun c hc => ?_⟩
      have h1 := (hx c (by omega)).1
      rw [e1, add_plain] at h1
      rw [h1, (hZ c hc).1]
      have hw := (hZ c hc).2
      congr 2
      simp only [List.getD_eq_getElem?_getD, List.getElem?_map, List.getElem?_range hc, Option.map_some, Option.getD_some, UInt8.toNat_ofNat']
      omega
/-- A cell that reads as a list of messages. -/
theorem trod_bss {t e q : TypeId} (ht : P.underlying t = some (.slice e)) (he : P.underlying e = some (.slice q)) (hq : P.underlying q = some (.int .u8)) (ce : P.cellsOf e = 1) (cq : P.cellsOf q = 1) {fuel : Nat} {v : Value} {x : DataW H × List MemPlace} (h : DataW.trod enc P w base (fun _ => true) held fuel t [v] = some x) : ∃ ms : List (List UInt8), MsgL w [] v ms ∧ ms.length ≤ maxLen := by
  rcases Deep.open_slice1 ht ce h with ⟨h0, _⟩ | ⟨a, len, cap, m2, n, V, D, Pl, h0, hb, hl, hm, hmm, _, hx⟩
  · simp at h0
    subst h0
    exact ⟨[], MsgL.nil w [], by unfold maxLen; simp⟩
  · simp only [if_true] at hmm
    subst hmm
    simp at h0
    subst h0
    obtain ⟨Z, hZ⟩ := Deep.choose_lt (α := List UInt8) (n := len) (p := fun i l => BSl w (V i) l) (fun i hi => by
      obtain ⟨l, h1, _⟩ := trod_bsl he hq cq (hx i (by omega)).2
      exact ⟨l, h1⟩)
    have hlen : ((List.range len).map Z).length = len := by simp
    refine ⟨(List.range len).map Z, ⟨(List.range len).map V, ?_, by simp, fun i v m hv hm => ?_⟩, by rw [hlen]; omega⟩
    · rw [hlen]
      refine Sl.of_vsl (f := V) ⟨some a, m2, rfl, ⟨hl, fun h => by cases h⟩, ?_⟩
      by_cases h0 : len = 0
      · exact .inl h0
      · right
        have h00 := (hx 0 (by omega)).1
        have ha : a.add 0 = a := by simp [Addr.add]
        rw [ha] at h00
        obtain ⟨e1, e2⟩ := cell_plain h00
        refine ⟨a.block, a.off, by rw [← e1], e2, fun c hc => ?_⟩
        have h1 := (hx c (by omega)).1
        rw [e1, add_plain] at h1
        exact h1
    · have hi : i < len := by have := (List.getElem?_eq_some_iff.1 hv).1; simpa using this
      simp [hi] at hv hm
      subst hv hm
      exact Msg.of_bsl (hZ i hi)
end

/-- An operation, its values beside it. -/
structure OpV where
  d : OpD
  vm : Value
  vl : Value
instance : Inhabited OpV := ⟨⟨⟨0, [], 0, 0, [], 0⟩, undef, undef⟩⟩
def OpV.cells (o : OpV) : List Value := [.int .i64 o.d.kd, o.vm, .int .i64 o.d.nw, .int .i64 o.d.fi, o.vl, .int .i64 o.d.he]
structure OpOk (w : World) (o : OpV) : Prop where
  m : Msg w [] o.vm o.d.m
  ms : MsgL w [] o.vl o.d.ms
  len : o.d.ms.length ≤ maxLen
  fi : o.d.fi ≤ 9223372036854775807
section
variable {H : Type} {enc : TypeId × Value → H} {w : World} {base : Nat} {held : Bool}
theorem c_int : Try.prog.cellsOf 3 = 1 := by kernel_rfl
theorem c_bs : Try.prog.cellsOf 34 = 1 := by kernel_rfl
theorem c_bss : Try.prog.cellsOf 25 = 1 := by kernel_rfl
theorem c_u8 : Try.prog.cellsOf 5 = 1 := by kernel_rfl
theorem c_pk : Try.prog.cellsOf 36 = 3 := by kernel_rfl
theorem c_op : Try.prog.cellsOf 38 = 6 := by kernel_rfl
set_option maxRecDepth 100000 in
theorem trod_op {fuel : Nat} {cs : List Value} {x : DataW H × List MemPlace} (hl : cs.length = 6) (h : DataW.trod enc Try.prog w base (fun _ => true) held fuel 38 cs = some x) : ∃ o : OpV, cs = o.cells ∧ OpOk w o := by
  obtain ⟨xs, n, -, -, -, hxl, hf⟩ := DataW.trod_struct Try.underlying38 h
  match cs, hl with
  | [v0, v1, v2, v3, v4, v5], _ =>
    match xs, hxl with
    | [y0, y1, y2, y3], _ =>
      have f0 : DataW.trod enc Try.prog w base (fun _ => true) held n 3 (([v0, v1, v2, v3, v4, v5].drop 0).take (Try.prog.cellsOf 3)) = some y0 := hf 0 _ rfl
      rw [c_int] at f0
      have f1 : DataW.trod enc Try.prog w base (fun _ => true) held n 34 (([v0, v1, v2, v3, v4, v5].drop 1).take (Try.prog.cellsOf 34)) = some y1 := hf 1 _ rfl
      rw [c_bs] at f1
      have f2 : DataW.trod enc Try.prog w base (fun _ => true) held n 3 (([v0, v1, v2, v3, v4, v5].drop 2).take (Try.prog.cellsOf 3)) = some y2 := hf 2 _ rfl
      rw [c_int] at f2
      have f3 : DataW.trod enc Try.prog w base (fun _ => true) held n 36 (([v0, v1, v2, v3, v4, v5].drop 3).take (Try.prog.cellsOf 36)) = some y3 := hf 3 _ rfl
      rw [c_pk] at f3
      simp only [List.drop_succ_cons, List.drop_zero, List.take_succ_cons, List.take_zero] at f0 f1 f2 f3
      obtain ⟨k, hk, -, -⟩ := DataW.trod_int Try.underlying3 f0
      obtain ⟨nw, hnw, -, -⟩ := DataW.trod_int Try.underlying3 f2
      obtain ⟨m, hm, -⟩ := trod_bsl Try.underlying34 Try.underlying5 c_u8 f1
      obtain ⟨zs, n2, -, -, -, hzl, hg⟩ := DataW.trod_struct Try.underlying36 f3
      match zs, hzl with
      | [z0, z1, z2], _ =>
        have g0 : DataW.trod enc Try.prog w base (fun _ => true) held n2 3 (([v3, v4, v5].drop 0).take (Try.prog.cellsOf 3)) = some z0 := hg 0 _ rfl
        rw [c_int] at g0
        have g1 : DataW.trod enc Try.prog w base (fun _ => true) held n2 25 (([v3, v4, v5].drop 1).take (Try.prog.cellsOf 25)) = some z1 := hg 1 _ rfl
        rw [c_bss] at g1
        have g2 : DataW.trod enc Try.prog w base (fun _ => true) held n2 3 (([v3, v4, v5].drop 2).take (Try.prog.cellsOf 3)) = some z2 := hg 2 _ rfl
        rw [c_int] at g2
        simp only [List.drop_succ_cons, List.drop_zero, List.take_succ_cons, List.take_zero] at g0 g1 g2
        obtain ⟨fi, hfi, -, hwf⟩ := DataW.trod_int Try.underlying3 g0
        obtain ⟨he, hhe, -, -⟩ := DataW.trod_int Try.underlying3 g2
        obtain ⟨ms, hms, hml⟩ := trod_bss Try.underlying25 Try.underlying34 Try.underlying5 c_bs c_u8 g1
        simp at hk hnw hfi hhe
        subst hk hnw hfi hhe
        exact ⟨⟨⟨k, m, nw, fi, ms, he⟩, v1, v4⟩, rfl, ⟨Msg.of_bsl hm, hms, hml, (i64_wf hwf).2⟩⟩
end

section
open Go.RowKit

set_option maxRecDepth 100000 in
set_option maxHeartbeats 4000000 in
theorem small_to (ao : Option Addr) (n cap : Nat) (hn : n ≤ 100) (F : Nat → OpV) (w w0 : World) (Y : List Blk) (O : Ow w w0 Y) (hv : Rws w0 (.slice ao n cap) n 6 (fun i => (F i).cells)) (hF : ∀ i, i < n → OpOk w0 (F i)) :
    Calls Try.prog 13 #[.slice ao n cap] w fun e w' => ∃ b, e = .returned (.bool b) ∧ Ow w' w0 Y := by
  have HO := Lib.hid O
  have HV := Lib.hid hv
  have HF := Lib.hid hF
  clear O hv hF
  go_enter Try.func13, Try.ntmps13
  go_wp2_with fail
  go_loopw [3, 4, 5] (fun vn vi vj wr => ∃ (z : Int) (k : Nat), vn = .int .i64 z ∧ vi = .int .i64 k ∧ k ≤ n ∧ Ow wr w0 Y) (fun _ i _ _ => n - (intOf i).toNat)
  case atStart => exact ⟨0, 0, rfl, rfl, by omega, HO.out⟩
  case round =>
    obtain ⟨z, k, rfl, rfl, hk, O5⟩ := hrel
    have HO5 := Lib.hid O5
    by_cases hlt : k < n
    · obtain ⟨r, o, rfl, hr, hc⟩ := HV.out.at_ O5 k hlt
      have ok := HF.out k hlt
      obtain ⟨⟨⟨kd, m, nw, fi, ms, he⟩, vm, vl⟩, HFk⟩ : ∃ y, Hid (F k = y) := ⟨_, rfl⟩
      rw [HFk.out] at hc ok
      obtain ⟨am, cm, e1⟩ := ok.m.slice
      obtain ⟨al, cl, e2⟩ := ok.ms.slice
      have hlen := ok.len
      have HMs := Lib.hid ok.ms
      simp only at e1 e2 hlen HMs
      subst e1 e2
      have c1 := hc 1 _ rfl
      have c4 := hc 4 _ rfl
      rw [← Nat.add_assoc] at c1 c4
      have hml : ms.length ≤ 9223372036854775807 := by unfold maxLen at hlen; omega
      clear hc ok O5
      go_wp2_with fail
      go_loopw [3, 5] (fun vn vj wx => ∃ (z : Int) (j : Nat), vn = .int .i64 z ∧ vj = .int .i64 j ∧ j ≤ ms.length ∧ Ow wx w0 Y) (fun _ j _ => ms.length - (intOf j).toNat)
      case atStart => exact ⟨_, 0, rfl, rfl, by omega, HO5.out⟩
      case round =>
        obtain ⟨z2, j, rfl, rfl, hj, O6⟩ := hrel
        have HO6 := Lib.hid O6
        obtain ⟨r1, o1, e, hr1, hc1⟩ := HV.out.at_ O6 k hlt
        cases e
        rw [HFk.out] at hc1
        have k4 := hc1 4 _ rfl
        rw [← Nat.add_assoc] at k4
        by_cases hlj : j < ms.length
        · obtain ⟨r2, o2, ak, ck, e3, hr2, hc2, -⟩ := HMs.out.at_ O6 sub_nil j hlj
          subst e3
          clear hc1 O6
          go_wp2
          exact ⟨⟨_, j + 1, rfl, by simp, by omega, HO6.out⟩, by simp [intOf]; omega⟩
        · obtain rfl : j = ms.length := by omega
          clear hc1 O6
          go_wp2
          exact ⟨⟨_, k + 1, rfl, by simp, by omega, HO6.out⟩, by simp [intOf]; omega⟩
    · obtain rfl : k = n := by omega
      clear O5
      go_wp2
      go_ret
      exact ⟨_, rfl, HO5.out⟩


end

def dcells (x : Int × Int) : List Value := [.int .i64 x.1, .int .i64 x.2]
section
variable {H : Type} {enc : TypeId × Value → H} {w : World} {base : Nat} {held : Bool}
theorem c_deed : Try.prog.cellsOf 87 = 2 := by kernel_rfl
set_option maxRecDepth 100000 in
theorem trod_deed {fuel : Nat} {cs : List Value} {x : DataW H × List MemPlace} (hl : cs.length = 2) (h : DataW.trod enc Try.prog w base (fun _ => true) held fuel 87 cs = some x) : ∃ o : Int × Int, cs = dcells o ∧ True := by
  obtain ⟨xs, n, -, -, -, hxl, hf⟩ := DataW.trod_struct Try.underlying87 h
  match cs, hl with
  | [v0, v1], _ =>
    match xs, hxl with
    | [y0, y1], _ =>
      have f0 : DataW.trod enc Try.prog w base (fun _ => true) held n 3 (([v0, v1].drop 0).take (Try.prog.cellsOf 3)) = some y0 := hf 0 _ rfl
      rw [c_int] at f0
      have f1 : DataW.trod enc Try.prog w base (fun _ => true) held n 3 (([v0, v1].drop 1).take (Try.prog.cellsOf 3)) = some y1 := hf 1 _ rfl
      rw [c_int] at f1
      simp only [List.drop_succ_cons, List.drop_zero, List.take_succ_cons, List.take_zero] at f0 f1
      obtain ⟨k, hk, -, -⟩ := DataW.trod_int Try.underlying3 f0
      obtain ⟨m, hm, -, -⟩ := DataW.trod_int Try.underlying3 f1
      refine ⟨(k, m), ?_, trivial⟩
      simp only [dcells]
      rw [List.cons_eq_cons] at hk hm
      rw [hk.1, hm.1]
end

end Go.Proofs.Ytgjodjkmefdilaa
