/- tower: a tower's blocks and its map, beside others; contracts of New and of an appointment that is cloned. -/
import Derived.Test.YtghaiplhakeahaaYp
import Derived.Test.YtghaiplhakeahaaMp
import Derived.Test.YtghaiplhakeahaaRd
import Derived.Test.YtghaiplhakeahaaTl
import Derived.DeepKeys4
namespace Go.Proofs.Ytghaiplhakeahaa
set_option linter.unusedSimpArgs false
set_option linter.unusedVariables false
open Go.RowKit Go.WideMaps Go.ChangeMaps Go.Maps

theorem mapI : MapT Try.prog 119 27 3 where
  keyed := Keyed.of_law (deep_law_laid (P := Try.prog) (by kernel_rfl) (m := 2) (by omega) (of_decide_eq_true (by kernel_rfl)) (by kernel_rfl) (by kernel_rfl))
  key := dig_keyOf (e := 5) ⟨Try.underlying27, by kernel_rfl, by kernel_rfl, by kernel_rfl⟩ Try.underlying5 ⟨_, rfl⟩
  und := Try.underlying119
theorem make_mapI0 (w : World) : (Instr.makeMap 119 none).run Try.prog w = .ok (.map (some w.heap.size)) (w.alloc (.map #[] 0)) := by
  simp [Instr.makeMap, Result.andThen, Sem.run]
theorem make_mapI (w : World) (n : Int) : (Instr.makeMap 119 (some (.int .i64 n))).run Try.prog w = .ok (.map (some w.heap.size)) (w.alloc (.map #[] 0)) := by
  simp [Instr.makeMap, run_underlying Try.underlying119, asInt, asIntOf, Result.andThen]
theorem vz_int (w : World) : (zeroValue 3).run Try.prog w = .ok (.int .i64 0) w := by
  have h : (Try.prog.info? 3).bind (·.zero) = some (.int .i64 0) := by kernel_rfl
  obtain ⟨i, hi, hz⟩ := Option.bind_eq_some_iff.1 h
  simp [zeroValue, typeInfo, hi, hz]
theorem vz_app (w : World) : (zeroValue 29).run Try.prog w = .ok (.agg #[.int .u8 0, .int .u8 0, .int .u8 0, .int .u8 0, .int .u8 0, .int .u8 0, .int .u8 0, .int .u8 0, .int .i64 0, .slice none 0 0]) w := by
  have h : (Try.prog.info? 29).bind (·.zero) = some (.agg #[.int .u8 0, .int .u8 0, .int .u8 0, .int .u8 0, .int .u8 0, .int .u8 0, .int .u8 0, .int .u8 0, .int .i64 0, .slice none 0 0]) := by kernel_rfl
  obtain ⟨i, hi, hz⟩ := Option.bind_eq_some_iff.1 h
  simp [zeroValue, typeInfo, hi, hz]
theorem elt_app : Elt Try.prog 120 29 10 40 := by
  have h : (Try.prog.info? 29).map (fun i => (i.zero, i.size, i.bytes)) = some (some (.agg #[.int .u8 0, .int .u8 0, .int .u8 0, .int .u8 0, .int .u8 0, .int .u8 0, .int .u8 0, .int .u8 0, .int .i64 0, .slice none 0 0]), 10, 40) := by kernel_rfl
  exact elt_mk _ Try.underlying120 h rfl (by decide)

/-- What a tower's blocks hold; its boxes lie in X. -/
structure TwB (w0 : World) (X : List Blk) (T : TWS) (v : Value) (es : Array MapEntry) (ck : Nat) (R : List Blk) (vs : List Value) : Prop where
  row : Row 29 10 v T.all.length (ecs T.all vs) R
  len : vs.length = T.all.length
  box : Msgs w0 X vs (T.all.map (·.l))
  map : MapD es ck (idxV T.all)
theorem TwB.mono {w0 : World} {X X' : List Blk} {T : TWS} {v : Value} {es : Array MapEntry} {ck : Nat} {R : List Blk} {vs : List Value} (h : TwB w0 X T v es ck R vs) (hX : ∀ x ∈ X, x ∈ X') : TwB w0 X' T v es ck R vs := ⟨h.row, h.len, h.box.mono hX, h.map⟩
/-- A tower at p: its blocks B, its map k. -/
def TwP (w0 : World) (X : List Blk) (p : Nat) (T : TWS) (B : List Blk) (k : Nat × Obj) : Prop := ∃ v m es ck R vs, B = ⟨p, 122, #[.int .i64 T.room, v, .map (some m)]⟩ :: R ∧ k = (m, .map es ck) ∧ TwB w0 X T v es ck R vs
theorem TwP.mono {w0 : World} {X X' : List Blk} {p : Nat} {T : TWS} {B : List Blk} {k : Nat × Obj} (h : TwP w0 X p T B k) (hX : ∀ x ∈ X, x ∈ X') : TwP w0 X' p T B k := by
  obtain ⟨v, m, es, ck, R, vs, h1, h2, h3⟩ := h
  exact ⟨v, m, es, ck, R, vs, h1, h2, h3.mono hX⟩
/-- A tower beside blocks C and maps K. -/
def Tw (w w0 : World) (C X : List Blk) (K : List (Nat × Obj)) (p : Nat) (T : TWS) : Prop := ∃ B k, Omw w w0 (B ++ (C ++ X)) (k :: K) ∧ TwP w0 X p T B k
section
variable {w w0 w' : World} {C C' X X' : List Blk} {K : List (Nat × Obj)} {p : Nat} {T : TWS}
theorem Tw.of_below (h : Tw w w0 C X K p T) (hb : Below w.heap.size w w') : Tw w' w0 C X K p T := by
  obtain ⟨B, k, O, D⟩ := h; exact ⟨B, k, O.of_below hb, D⟩
theorem Tw.plus (h : Tw w w0 C X K p T) (g : Array Obj) (d : Nat) : Tw (Go.Proofs.Ytghaiplhakeahaa.plus w g d) w0 C X K p T := h.of_below (bplus (Below.refl _ _) g d)
theorem Tw.alloc (h : Tw w w0 C X K p T) (o : Obj) : Tw (w.alloc o) w0 C X K p T := h.of_below (balloc (Below.refl _ _) o)
theorem Tw.drew (h : Tw w w0 C X K p T) : Tw w.drew w0 C X K p T := h.of_below (Below.refl _ _).drew
theorem Tw.below (h : Tw w w0 C X K p T) : Below w0.heap.size w0 w := by
  obtain ⟨B, k, O, D⟩ := h; exact O.below
theorem Tw.park (h : Tw w w0 C X K p T) {cs : Array Value} {b : Nat} {t : TypeId} (hb : b = w.heap.size) : Tw (w.alloc (.cells cs t)) w0 (⟨b, t, cs⟩ :: C) X K p T := by
  obtain ⟨B, k, O, D⟩ := h; exact ⟨B, k, (O.key cs t b hb).perm (perm_cnt fun x => by simp only [cnt_append, cnt_cons, cnt_nil] <;> omega), D⟩
theorem Tw.permC (h : Tw w w0 C X K p T) (hp : C.Perm C') : Tw w w0 C' X K p T := by
  obtain ⟨B, k, O, D⟩ := h; exact ⟨B, k, O.perm ((hp.append_right X).append_left B), D⟩
theorem Tw.permX (h : Tw w w0 C X K p T) (hp : X.Perm X') : Tw w w0 C X' K p T := by
  obtain ⟨B, k, O, D⟩ := h; exact ⟨B, k, O.perm ((hp.append_left C).append_left B), D.mono fun x hx => hp.mem_iff.1 hx⟩
theorem Tw.dropC {D : List Blk} (h : Tw w w0 (D ++ C) X K p T) : Tw w w0 C X K p T := by
  obtain ⟨B, k, O, H⟩ := h
  exact ⟨B, k, (O.perm (X' := D ++ (B ++ (C ++ X))) (perm_cnt fun x => by simp only [cnt_append, cnt_cons, cnt_nil] <;> omega)).drop, H⟩
theorem Tw.has (h : Tw w w0 C X K p T) {b : Nat} {t : TypeId} {cs : Array Value} (hx : (⟨b, t, cs⟩ : Blk) ∈ C) : HasBlk w b t cs := by
  obtain ⟨B, k, O, D⟩ := h; exact O.blk (by simp [hx])
theorem Tw.set {cs : Array Value} {b : Nat} {t : TypeId} (h : Tw w w0 (⟨b, t, cs⟩ :: C) X K p T) (i : Nat) (v : Value) : Tw (w.setCell ⟨b, i, none⟩ v) w0 (⟨b, t, cs.setIfInBounds i v⟩ :: C) X K p T := by
  obtain ⟨B, k, O, D⟩ := h
  have O1 : Omw w w0 (⟨b, t, cs⟩ :: (B ++ (C ++ X))) (k :: K) := O.perm (perm_cnt fun x => by simp only [cnt_append, cnt_cons, cnt_nil] <;> omega)
  exact ⟨B, k, (O1.set i v).perm (perm_cnt fun x => by simp only [cnt_append, cnt_cons, cnt_nil] <;> omega), D⟩
/-- Blocks that were made on the way become part of what the boxes lie in. -/
theorem Tw.boxes {N : List Blk} (h : Tw w w0 (N ++ C) X K p T) : Tw w w0 C (N ++ X) K p T := by
  obtain ⟨B, k, O, D⟩ := h
  exact ⟨B, k, O.perm (perm_cnt fun x => by simp only [cnt_append, cnt_cons, cnt_nil] <;> omega), D.mono fun x hx => by simp [hx]⟩
theorem Tw.open_ (h : Tw w w0 C X K p T) : ∃ v m es ck R vs, Omw w w0 (⟨p, 122, #[.int .i64 T.room, v, .map (some m)]⟩ :: (R ++ (C ++ X))) ((m, .map es ck) :: K) ∧ TwB w0 X T v es ck R vs := by
  obtain ⟨B, k, O, v, m, es, ck, R, vs, rfl, rfl, D⟩ := h
  exact ⟨v, m, es, ck, R, vs, O, D⟩
theorem Tw.close {v : Value} {m : Nat} {es : Array MapEntry} {ck : Nat} {R : List Blk} {vs : List Value} (O : Omw w w0 (⟨p, 122, #[.int .i64 T.room, v, .map (some m)]⟩ :: (R ++ (C ++ X))) ((m, .map es ck) :: K)) (D : TwB w0 X T v es ck R vs) : Tw w w0 C X K p T :=
  ⟨_, _, O, v, m, es, ck, R, vs, rfl, rfl, D⟩
end

/-- A pointer to block p. -/
abbrev tptr (p : Nat) : Value := .pointer (some ⟨p, 0, none⟩)
set_option maxRecDepth 100000 in
set_option maxHeartbeats 1000000 in
theorem tnew_no (n : Int) (h : ¬(1 ≤ n ∧ n ≤ 4096)) (w : World) :
    Calls Try.prog 20 #[.int .i64 n] w fun e w' => e = .returned (.tuple #[.pointer none, .int .i64 1]) ∧ w' = w := by
  have h1 : decide (n < 1) = true ∨ (decide (n < 1) = false ∧ decide (4096 < n) = true) := by
    by_cases h1 : n < 1
    · exact .inl (decide_eq_true h1)
    · exact .inr ⟨decide_eq_false h1, decide_eq_true (by omega)⟩
  rcases h1 with h1 | ⟨h1, h2⟩
  · go_enter Try.func20, Try.ntmps20
    go_wp2
    refine bodyPost_ret (v := .tuple #[.pointer none, .int .i64 1]) (by simp [results, Try.results20, go_sem]) rfl ⟨rfl, rfl⟩
  · go_enter Try.func20, Try.ntmps20
    go_wp2
    refine bodyPost_ret (v := .tuple #[.pointer none, .int .i64 1]) (by simp [results, Try.results20, go_sem]) rfl ⟨rfl, rfl⟩
set_option maxRecDepth 100000 in
set_option maxHeartbeats 1000000 in
theorem tnew_to (n : Nat) (h1 : 1 ≤ n) (h2 : n ≤ 4096) (w w0 : World) (C : List Blk) (K : List (Nat × Obj)) (O : Omw w w0 C K) :
    Calls Try.prog 20 #[.int .i64 n] w fun e w' => ∃ p B k, e = .returned (.tuple #[tptr p, .int .i64 0]) ∧ Omw w' w0 (B ++ C) (k :: K) ∧ (∀ X, TwP w0 X p ⟨n, []⟩ B k) := by
  have hd1 : decide ((n : Int) < 1) = false := decide_eq_false (by omega)
  have hd2 : decide ((4096 : Int) < (n : Int)) = false := decide_eq_false (by omega)
  have HO := Lib.hid ((O.keyMap w.heap.size rfl).key #[.int .i64 n, .slice none 0 0, .map (some w.heap.size)] 122 (w.heap.size + 1) (by simp))
  have hmk := make_mapI0 w
  clear O
  go_enter Try.func20, Try.ntmps20
  go_wp2
  refine bodyPost_ret (v := .tuple #[tptr (w.heap.size + 1), .int .i64 0]) (by simp [results, Try.results20, go_sem]) rfl ?_
  exact ⟨_, [⟨w.heap.size + 1, 122, #[.int .i64 n, .slice none 0 0, .map (some w.heap.size)]⟩], _, rfl, HO.out, fun X => ⟨_, _, _, _, [], [], rfl, rfl, .void, rfl, Msgs.nil _ _, MapD.empty⟩⟩

set_option maxRecDepth 100000 in
set_option maxHeartbeats 4000000 in
theorem aclone_to (h : BitVec 64) (n : Int) (v : Value) (l : List UInt8) (hl : l.length ≤ 1000000) (w : World) (hv : BSl w v l) :
    Calls Try.prog 63 #[.agg #[.int .u8 (by8 h 0), .int .u8 (by8 h 1), .int .u8 (by8 h 2), .int .u8 (by8 h 3), .int .u8 (by8 h 4), .int .u8 (by8 h 5), .int .u8 (by8 h 6), .int .u8 (by8 h 7), .int .i64 n, v]] w fun e w' => ∃ u, e = .returned (.agg #[.int .u8 (by8 h 0), .int .u8 (by8 h 1), .int .u8 (by8 h 2), .int .u8 (by8 h 3), .int .u8 (by8 h 4), .int .u8 (by8 h 5), .int .u8 (by8 h 6), .int .u8 (by8 h 7), .int .i64 n, u]) ∧ Below w.heap.size w w' ∧ Clo 5 w.heap.size l u w' := by
  obtain ⟨ao, cap, rfl, -⟩ := hv.open_
  have HV := Lib.hid hv
  have HO := Lib.hid (((Ow.start w).key #[.int .u8 (by8 h 0), .int .u8 (by8 h 1), .int .u8 (by8 h 2), .int .u8 (by8 h 3), .int .u8 (by8 h 4), .int .u8 (by8 h 5), .int .u8 (by8 h 6), .int .u8 (by8 h 7), .int .i64 n, .slice ao l.length cap] 29 w.heap.size rfl).key #[.int .u8 0, .int .u8 0, .int .u8 0, .int .u8 0, .int .u8 0, .int .u8 0, .int .u8 0, .int .u8 0, .int .i64 0, .slice none 0 0] 29 (w.heap.size + 1) (by simp))
  clear hv
  go_enter Try.func63, Try.ntmps63
  go_wp2_with fail
  refine (sclone_any _ l hl _ ((HV.out.alloc _).alloc _)).mono ?_
  rintro e w1 ⟨u, rfl, hb1, au, cu, NB, rfl, R, hNB⟩
  have O1 := (HO.out.found (Ext.of_below hb1) R.apart hNB).perm (L' := ⟨w.heap.size, 29, #[.int .u8 (by8 h 0), .int .u8 (by8 h 1), .int .u8 (by8 h 2), .int .u8 (by8 h 3), .int .u8 (by8 h 4), .int .u8 (by8 h 5), .int .u8 (by8 h 6), .int .u8 (by8 h 7), .int .i64 n, .slice ao l.length cap]⟩ :: (⟨w.heap.size + 1, 29, #[.int .u8 0, .int .u8 0, .int .u8 0, .int .u8 0, .int .u8 0, .int .u8 0, .int .u8 0, .int .u8 0, .int .i64 0, .slice none 0 0]⟩ :: NB)) (perm_cnt fun x => by simp only [cnt_append, cnt_cons, cnt_nil] <;> omega)
  have HB := O1.has (List.mem_cons_self ..)
  have hc := HB.cell
  have hf := HB.frozen 9
  have lt := HB.lt
  have O2 : Ow (w1.setCell ⟨w.heap.size, 9, none⟩ (.slice au l.length cu)) w (⟨w.heap.size + 1, 29, #[.int .u8 0, .int .u8 0, .int .u8 0, .int .u8 0, .int .u8 0, .int .u8 0, .int .u8 0, .int .u8 0, .int .i64 0, .slice none 0 0]⟩ :: (⟨w.heap.size, 29, #[.int .u8 (by8 h 0), .int .u8 (by8 h 1), .int .u8 (by8 h 2), .int .u8 (by8 h 3), .int .u8 (by8 h 4), .int .u8 (by8 h 5), .int .u8 (by8 h 6), .int .u8 (by8 h 7), .int .i64 n, .slice au l.length cu]⟩ :: NB)) := by
    have := O1.set 9 (.slice au l.length cu)
    refine (this.as ?_).perm (L := ⟨w.heap.size, 29, #[.int .u8 (by8 h 0), .int .u8 (by8 h 1), .int .u8 (by8 h 2), .int .u8 (by8 h 3), .int .u8 (by8 h 4), .int .u8 (by8 h 5), .int .u8 (by8 h 6), .int .u8 (by8 h 7), .int .i64 n, .slice au l.length cu]⟩ :: (⟨w.heap.size + 1, 29, #[.int .u8 0, .int .u8 0, .int .u8 0, .int .u8 0, .int .u8 0, .int .u8 0, .int .u8 0, .int .u8 0, .int .i64 0, .slice none 0 0]⟩ :: NB)) (perm_cnt fun x => by simp only [cnt_append, cnt_cons, cnt_nil] <;> omega)
    simp
  have HO2 := Lib.hid O2
  have HR := Lib.hid R
  have hc0 := hc 0; have hc1 := hc 1; have hc2 := hc 2; have hc3 := hc 3; have hc4 := hc 4; have hc5 := hc 5; have hc6 := hc 6; have hc7 := hc 7; have hc8 := hc 8; have hc9 := hc 9
  clear hb1 O1 O2 HB hc R hNB HO
  go_wp2_with (refine HO2.out.storeL rfl 29 (.tmp 2) (.tmp 7) rfl (by rfl) #[.int .u8 (by8 h 0), .int .u8 (by8 h 1), .int .u8 (by8 h 2), .int .u8 (by8 h 3), .int .u8 (by8 h 4), .int .u8 (by8 h 5), .int .u8 (by8 h 6), .int .u8 (by8 h 7), .int .i64 n, .slice au l.length cu] (by rfl) (by kernel_rfl) (by rfl) (by simp [Value.oneCell']) ?_; intro w3 O3)
  have HB3 := O3.has (List.mem_cons_self ..)
  have hd := HB3.cell
  refine bodyPost_ret (v := .agg #[.int .u8 (by8 h 0), .int .u8 (by8 h 1), .int .u8 (by8 h 2), .int .u8 (by8 h 3), .int .u8 (by8 h 4), .int .u8 (by8 h 5), .int .u8 (by8 h 6), .int .u8 (by8 h 7), .int .i64 n, .slice au l.length cu]) (by simp [results, Try.results63, go_sem, hd]) rfl ?_
  exact ⟨_, rfl, O3.below, au, cu, NB, rfl, HR.out, fun z hz => ⟨O3.new z (by simp [hz]), O3.mem.has z (by simp [hz])⟩⟩

/-! ### What a drawn region needs -/
theorem then_go {P : Program} {c : Code} {Q' Q : Exit → Act → World → Prop} {K : Act → World → Prop} {a : Act} {w : World} (hK : ∀ a w, c.wp P Q' a w → K a w) (h : c.wp P Q' a w) : Exit.then K Q .normal a w := hK _ _ h
/-- An appointment whose box is in memory of the call's own. -/
def ApC (base : Nat) (h : BitVec 64) (n : Int) (l : List UInt8) : Pred := fun v W => ∃ u, v = .agg #[.int .u8 (by8 h 0), .int .u8 (by8 h 1), .int .u8 (by8 h 2), .int .u8 (by8 h 3), .int .u8 (by8 h 4), .int .u8 (by8 h 5), .int .u8 (by8 h 6), .int .u8 (by8 h 7), .int .i64 n, u] ∧ Clo 5 base l u W
theorem stays_apc (base : Nat) (h : BitVec 64) (n : Int) (l : List UInt8) : Stays (ApC base h n l) := fun v w w' hx ⟨u, h1, h2⟩ => ⟨u, h1, stays_clo _ _ _ u w w' hx h2⟩
section
variable {P : Program} {ops : Array Oper} {w0 : World} {Q : Slots → Prop} {a : Act} {R : List (Tmp × Pred)} {o : Oper} {rest : List Oper}
/-- An operation that leaves the world alone, its run told. -/
theorem B_run (c : Value) {d : Tmp} (hd : o.dst = some d) (hB : (sideB true ops R a o && noSel o) = true) (hdn : ((relAt R d).isNone && decide (d < a.tmps.size)) = true)
    (h : ∀ x : Gd, (execOp a.eval o).run P (Go.Proofs.Ytghaiplhakeahaa.plus w0 x.g x.d) = .ok (.value c) (Go.Proofs.Ytghaiplhakeahaa.plus w0 x.g x.d))
    (hr : wpS P ops w0 Q rest (mix (a.put o.dst c) R)) : wpS P ops w0 Q (o :: rest) (mix a R) := by
  simp only [Bool.and_eq_true, Option.isNone_iff_eq_none, decide_eq_true_eq] at hdn
  refine B_make (fun v _ => v = c) (stays_eq c) hd hB (fun x => ⟨c, _, h x, Ext.refl _, rfl⟩) ?_
  rw [← mix_put_rel, mix_put_ex a R d c hdn.1 hdn.2, ← hd]
  exact hr
/-- A lookup, with 'ok'. -/
theorem B_look2 {t k e : TypeId} {b : Nat} {es : Array MapEntry} {ck : Nat} {g : BitVec 64 → Option Value} (M : MapD es ck g) (T : MapT P t k e) (hb : w0.heap[b]? = some (.map es ck)) (m x : Operand) (ho : o.op = .lookup t m x true) (hm : a.eval m = .map (some b)) (z : BitVec 64) (hx : a.eval x = .agg #[.int .u8 (by8 z 0), .int .u8 (by8 z 1), .int .u8 (by8 z 2), .int .u8 (by8 z 3), .int .u8 (by8 z 4), .int .u8 (by8 z 5), .int .u8 (by8 z 6), .int .u8 (by8 z 7)]) {v : Value} (hz : ∀ W, (zeroValue e).run P W = .ok v W)
    (r : Value) (hr0 : Value.tuple #[(g z).getD v, .bool (g z).isSome] = r) {d : Tmp} (hd : o.dst = some d) (hB : (sideB true ops R a o && noSel o) = true) (hdn : ((relAt R d).isNone && decide (d < a.tmps.size)) = true)
    (hr : wpS P ops w0 Q rest (mix (a.put o.dst r) R)) : wpS P ops w0 Q (o :: rest) (mix a R) := by
  refine B_run r hd hB hdn (fun y => ?_) hr
  have hb' : (Go.Proofs.Ytghaiplhakeahaa.plus w0 y.g y.d).heap[b]? = some (.map es ck) := (heap_plus _ _ _ _ (Array.getElem?_eq_some_iff.1 hb).1).trans hb
  subst hr0
  cases hg : g z with
  | none =>
    have hr := M.look_none T hb' z hg (hz _) true
    simp [execOp, ho, hm, hx, hr, Result.andThen]
  | some u =>
    have hr := M.look_some T hb' z hg true
    simp [execOp, ho, hm, hx, hr, Result.andThen]
/-- A slice of one element of several cells, that is known by a property, in a block that was just made. -/
def NewSlA (B : Nat) (e : TypeId) (Φ : Pred) : Pred := fun v w => ∃ b vs, v = .slice (some ⟨b, 0, none⟩) 1 1 ∧ B ≤ b ∧ HasBlk w b e vs ∧ Φ (.agg vs) w
theorem stays_newSlA (B : Nat) (e : TypeId) {Φ : Pred} (h : Stays Φ) : Stays (NewSlA B e Φ) := fun v w w' ⟨x, hx⟩ ⟨b, u, h1, h2, h3, h4⟩ => ⟨b, u, h1, h2, by rw [hx]; exact h3.plus _ _, h _ w w' ⟨x, hx⟩ h4⟩
theorem B_newslA {d s : Tmp} {t e : TypeId} {sz bytes : Nat} {Φ : Pred} (E : Elt P t e sz bytes) (hd : o.dst = some d) (ho : o.op = .buildSlice t 1 #[(0, .tmp s)]) (hs : relAt R s = some Φ) (hΦ : Stays Φ) (hsz' : sz ≤ 1000) (h1 : ∀ u W, Φ u W → ∃ vs, u = .agg vs ∧ vs.size = sz)
    (hB : (sideC ops R a o && noSel o && (o.looksAt ops).all (fun t => t == s || (relAt R t).isNone) && (o.looksAt ops).contains s && decide (s < a.tmps.size)) = true)
    (hr : wpS P ops w0 Q rest (mix a ((d, NewSlA w0.heap.size e Φ) :: R))) : wpS P ops w0 Q (o :: rest) (mix a R) := by
  have hsz : s < a.tmps.size := by
    simp only [Bool.and_eq_true, decide_eq_true_eq] at hB; exact hB.2
  refine B_makeR _ (stays_newSlA _ _ hΦ) hd hs hB (fun x u hu => ?_) hr
  obtain ⟨vs, rfl, hn⟩ := h1 _ _ hu
  refine ⟨_, _, run_buildSlice_one E ho (.agg vs) (by simp [Act.eval, Act.put, hsz]) hn hsz' _, Ext.of_below (balloc (Below.refl _ _) _), _, _, rfl, by simp, HasBlk.new _ _ _ _ rfl, hΦ _ _ _ (Ext.of_below (balloc (Below.refl _ _) _)) hu⟩
theorem apc_agg (base : Nat) (h : BitVec 64) (n : Int) (l : List UInt8) : ∀ u W, ApC base h n l u W → ∃ vs, u = .agg vs ∧ vs.size = 10 := fun u W ⟨v, h1, _⟩ => ⟨_, h1, rfl⟩
end
section
variable {w w0 W : World} {X : List Blk} {K : List (Nat × Obj)} {B : List Blk}
theorem Omw.found (h : Omw W w0 X K) (hx : Ext W w) (hp : B.Pairwise (fun x y => x.no ≠ y.no)) (hb : ∀ x ∈ B, W.heap.size ≤ x.no ∧ HasBlk w x.no x.ty x.cs) : Omw w w0 (B ++ X) K := by
  have h' : Omw w w0 X K := by obtain ⟨x, hx⟩ := hx; rw [hx]; exact h.plus _ _
  exact ⟨h.ow.found hx hp hb, h'.has, h'.new, h'.nc, h'.apart⟩
theorem Clo.foundM {l : List UInt8} {u : Value} {e : TypeId} (h : Clo e W.heap.size l u w) (M : Omw W w0 X K) (hx : Ext W w) : ∃ B, Omw w w0 (B ++ X) K ∧ Msg w0 B u l := by
  obtain ⟨ao, cap, B, rfl, h1, h2⟩ := h
  exact ⟨B, M.found hx h1.apart h2, h1.msg w0⟩
theorem Ans.foundM {l : List UInt8} {u : Value} (h : Ans W.heap.size l u w) (M : Omw W w0 X K) (hx : Ext W w) : ∃ B, Omw w w0 (B ++ X) K ∧ ∀ w1, Msg w1 B u l := by
  obtain ⟨B, h1, h2⟩ := h.found M.ow hx
  have h' : Omw w w0 X K := by obtain ⟨x, hx⟩ := hx; rw [hx]; exact M.plus _ _
  exact ⟨B, ⟨h1, h'.has, h'.new, h'.nc, h'.apart⟩, h2⟩
end

set_option maxRecDepth 100000 in
theorem take_nil (h : BitVec 64) (n : Int) (v : Value) (w : World) : Calls Try.prog 21 #[.pointer none, .agg #[.int .u8 (by8 h 0), .int .u8 (by8 h 1), .int .u8 (by8 h 2), .int .u8 (by8 h 3), .int .u8 (by8 h 4), .int .u8 (by8 h 5), .int .u8 (by8 h 6), .int .u8 (by8 h 7), .int .i64 n, v]] w fun e w' => e = .returned (.int .i64 1) ∧ Below w.heap.size w w' := by
  go_enter Try.func21, Try.ntmps21
  go_wp2
  go_ret
  exact ⟨rfl, by (repeat' (first | (with_reducible exact Below.refl _ _) | (with_reducible refine bplus ?_ _ _) | (with_reducible refine balloc ?_ _) | (with_reducible refine Below.drew ?_) | (with_reducible refine bdrewN ?_ _) | (with_reducible refine Below.setCell ?_ (by go_size) _)))⟩
set_option maxRecDepth 100000 in
set_option maxHeartbeats 1000000 in
theorem take_range (p : Nat) (h : BitVec 64) (n : Int) (v : Value) (hn : isNum n = false) (w : World) : Calls Try.prog 21 #[tptr p, .agg #[.int .u8 (by8 h 0), .int .u8 (by8 h 1), .int .u8 (by8 h 2), .int .u8 (by8 h 3), .int .u8 (by8 h 4), .int .u8 (by8 h 5), .int .u8 (by8 h 6), .int .u8 (by8 h 7), .int .i64 n, v]] w fun e w' => e = .returned (.int .i64 2) ∧ Below w.heap.size w w' := by
  go_enter Try.func21, Try.ntmps21
  go_wp2_with fail
  refine (tisNumber_to n false hn _).mono ?_
  rintro e w' ⟨rfl, rfl⟩
  go_wp2
  go_ret
  exact ⟨rfl, by (repeat' (first | (with_reducible exact Below.refl _ _) | (with_reducible refine bplus ?_ _ _) | (with_reducible refine balloc ?_ _) | (with_reducible refine Below.drew ?_) | (with_reducible refine bdrewN ?_ _) | (with_reducible refine Below.setCell ?_ (by go_size) _)))⟩
set_option maxRecDepth 100000 in
set_option maxHeartbeats 1000000 in
theorem take_form (p : Nat) (h : BitVec 64) (n : Int) (ao : Option Addr) (k c : Nat) (hk : k < 8) (hn : isNum n = true) (w : World) : Calls Try.prog 21 #[tptr p, .agg #[.int .u8 (by8 h 0), .int .u8 (by8 h 1), .int .u8 (by8 h 2), .int .u8 (by8 h 3), .int .u8 (by8 h 4), .int .u8 (by8 h 5), .int .u8 (by8 h 6), .int .u8 (by8 h 7), .int .i64 n, .slice ao k c]] w fun e w' => e = .returned (.int .i64 3) ∧ Below w.heap.size w w' := by
  have hd : decide ((k : Int) < 8) = true := decide_eq_true (by omega)
  go_enter Try.func21, Try.ntmps21
  go_wp2_with fail
  refine (tisNumber_to n true hn _).mono ?_
  rintro e w' ⟨rfl, rfl⟩
  go_wp2
  go_ret
  exact ⟨rfl, by (repeat' (first | (with_reducible exact Below.refl _ _) | (with_reducible refine bplus ?_ _ _) | (with_reducible refine balloc ?_ _) | (with_reducible refine Below.drew ?_) | (with_reducible refine bdrewN ?_ _) | (with_reducible refine Below.setCell ?_ (by go_size) _)))⟩
set_option maxRecDepth 100000 in
set_option maxHeartbeats 1000000 in
theorem take_long (p : Nat) (h : BitVec 64) (n : Int) (ao : Option Addr) (k c : Nat) (hk : 32776 < k) (hn : isNum n = true) (w : World) : Calls Try.prog 21 #[tptr p, .agg #[.int .u8 (by8 h 0), .int .u8 (by8 h 1), .int .u8 (by8 h 2), .int .u8 (by8 h 3), .int .u8 (by8 h 4), .int .u8 (by8 h 5), .int .u8 (by8 h 6), .int .u8 (by8 h 7), .int .i64 n, .slice ao k c]] w fun e w' => e = .returned (.int .i64 5) ∧ Below w.heap.size w w' := by
  have hd : decide ((k : Int) < 8) = false := decide_eq_false (by omega)
  have hd2 : decide ((32776 : Int) < (k : Int)) = true := decide_eq_true (by omega)
  go_enter Try.func21, Try.ntmps21
  go_wp2_with fail
  refine (tisNumber_to n true hn _).mono ?_
  rintro e w' ⟨rfl, rfl⟩
  go_wp2
  go_ret
  exact ⟨rfl, by (repeat' (first | (with_reducible exact Below.refl _ _) | (with_reducible refine bplus ?_ _ _) | (with_reducible refine balloc ?_ _) | (with_reducible refine Below.drew ?_) | (with_reducible refine bdrewN ?_ _) | (with_reducible refine Below.setCell ?_ (by go_size) _)))⟩

/-! ### Behind the checks -/
/-- What a walk reads of a tower. -/
theorem TwB.at_ {w w0 : World} {X C L : List Blk} {K : List (Nat × Obj)} {T : TWS} {v : Value} {es : Array MapEntry} {ck : Nat} {R : List Blk} {vs : List Value} (D : TwB w0 X T v es ck R vs) (O : Omw w w0 (C ++ (R ++ L)) K) {i : Nat} (hi : i < T.all.length) :
    ∃ r cap cur, v = .slice (some ⟨r, 0, none⟩) T.all.length cap ∧ T.all.length ≤ cap ∧ cap ≤ maxLen ∧ R = [⟨r, 29, cur⟩] ∧ cur.size = cap * 10 ∧ cur.toList.take (T.all.length * 10) = ecs T.all vs ∧ HasBlk w r 29 cur ∧ ∀ j, j < 10 → cur[i * 10 + j]? = (acs (T.all.getD i default) (vs.getD i undef))[j]? := by
  obtain ⟨hr, hl, -, -⟩ := D
  generalize hz : ecs T.all vs = zs at hr
  obtain ⟨N, hN⟩ : ∃ N, T.all.length = N := ⟨_, rfl⟩
  rw [hN] at hr
  cases hr with
  | void => omega
  | one r n cap cur h1 h2 h3 =>
    subst hN
    refine ⟨r, cap, cur, rfl, h1, h2, rfl, h3, hz.symm ▸ rfl, O.blk (by simp), fun j hj => ?_⟩
    have h4 := ecs_get T.all vs i j hl hi hj
    rw [hz, List.getElem?_take, if_pos (by omega), Array.getElem?_toList] at h4
    exact h4
theorem writeAt_len (vs : List Value) : ∀ (cs : Array Value) (o : Nat), (writeAt cs o vs).size = cs.size := by
  induction vs with
  | nil => intro cs o; rfl
  | cons v r ih => intro cs o; rw [writeAt, ih]; simp
theorem Msgs.set_ {w0 : World} {L : List Blk} {vs : List Value} {ms : List (List UInt8)} (h : Msgs w0 L vs ms) (i : Nat) {u : Value} {m : List UInt8} (hu : Msg w0 L u m) : Msgs w0 L (vs.set i u) (ms.set i m) := by
  refine ⟨by simp [h.1], fun j v m' hv hm => ?_⟩
  rw [List.getElem?_set] at hv hm
  by_cases e : i = j
  · rw [if_pos e] at hv hm
    split at hv
    · split at hm
      · cases hv; cases hm; exact hu
      · cases hm
    · cases hv
  · rw [if_neg e] at hv hm
    exact h.2 j v m' hv hm
theorem BSl.map {w w' : World} {v : Value} {l : List UInt8} {m : Nat} {es : Array MapEntry} {ck : Nat} (h : BSl w v l) (hm : w.heap[m]? = some (.map es ck)) (hk : ∀ j, j ≠ m → w'.heap[j]? = w.heap[j]?) (hs : w'.heap.size = w.heap.size) : BSl w' v l := by
  obtain ⟨ao, cap, rfl, h1, h2⟩ := h
  refine ⟨ao, cap, rfl, h1, h2.imp id ?_⟩
  rintro ⟨r, o, rfl, hlt, hc⟩
  refine ⟨r, o, rfl, by omega, fun i hi => ?_⟩
  have h3 := hc i hi
  by_cases e : r = m
  · subst e
    simp [World.cell?, hm] at h3
  · rw [← h3]
    exact World.cell?_of_block (a := ⟨r, o + i, none⟩) (hk r e)
theorem Omw.putK2 {P : Program} {w w0 : World} {o : Oper} {a : Act} {Q : Exit → Act → World → Prop} {K' : Act → World → Prop} {X : List Blk} {K : List (Nat × Obj)} {t k e : TypeId} {b : Nat} {es : Array MapEntry} {ck : Nat} {g : BitVec 64 → Option Value}
    (h : Omw w w0 X ((b, .map es ck) :: K)) (M : MapD es ck g) (T : MapT P t k e) (m x v : Operand) (ho : o.op = .mapUpdate t m x v) (hm : a.eval m = .map (some b)) (z : BitVec 64) (hx : a.eval x = .agg #[.int .u8 (by8 z 0), .int .u8 (by8 z 1), .int .u8 (by8 z 2), .int .u8 (by8 z 3), .int .u8 (by8 z 4), .int .u8 (by8 z 5), .int .u8 (by8 z 6), .int .u8 (by8 z 7)]) (u : Value) (hu : a.eval v = u)
    (h' : ∀ es' ck' w', Omw w' w0 X ((b, .map es' ck') :: K) → MapD es' ck' (putF g z u) → (∀ j, j ≠ b → w'.heap[j]? = w.heap[j]?) → w'.heap.size = w.heap.size → K' (a.put o.dst undef) w') : o.wp P a w K' Q := by
  have hb := h.has (b, .map es ck) (List.mem_cons_self ..)
  obtain ⟨es', ck', hr, M'⟩ := M.put T hb z u
  unfold Oper.wp
  simp [execOp, ho, hm, hx, hu, hr, Result.andThen]
  exact h' es' ck' _ h.setMap M' (fun j hj => heap_setBlock_other hb _ hj) (by simp [setBlock])
set_option maxRecDepth 100000 in
set_option maxHeartbeats 2000000 in
theorem take_old (p : Nat) (T : TWS) (h : BitVec 64) (n : Int) (v : Value) (l : List UInt8) (w w0 : World) (C X : List Blk) (K : List (Nat × Obj)) (H : Tw w w0 C X K p T) (hv : BSl w v l) (hn : isNum n = true) (hl8 : 8 ≤ l.length) (hl : l.length ≤ 32776) (hr : T.room ≤ 4096) (hk : T.all.length ≤ T.room) (i : Nat) (hi : idx T.all h = some i) (ho : n ≤ (T.all.getD i default).n) :
    Calls Try.prog 21 #[tptr p, .agg #[.int .u8 (by8 h 0), .int .u8 (by8 h 1), .int .u8 (by8 h 2), .int .u8 (by8 h 3), .int .u8 (by8 h 4), .int .u8 (by8 h 5), .int .u8 (by8 h 6), .int .u8 (by8 h 7), .int .i64 n, v]] w fun e w' => e = .returned (.int .i64 18) ∧ Below w.heap.size w w' := by
  obtain ⟨tv, m, es, ck, R, vs, O, D⟩ := H.open_
  have HB := O.blk (List.mem_cons_self ..)
  have lt := HB.lt
  have c0 : w.cell? ⟨p, 0, none⟩ = some (.int .i64 T.room) := HB.cell 0
  have c1 : w.cell? ⟨p, 1, none⟩ = some tv := HB.cell 1
  have c2 : w.cell? ⟨p, 2, none⟩ = some (.map (some m)) := HB.cell 2
  have hd1 : decide ((l.length : Int) < 8) = false := decide_eq_false (by omega)
  have hd2 : decide ((32776 : Int) < (l.length : Int)) = false := decide_eq_false (by omega)
  obtain ⟨ao, cap, rfl, -⟩ := hv.open_
  have HV := Lib.hid (hv.alloc (.cells #[.int .u8 (by8 h 0), .int .u8 (by8 h 1), .int .u8 (by8 h 2), .int .u8 (by8 h 3), .int .u8 (by8 h 4), .int .u8 (by8 h 5), .int .u8 (by8 h 6), .int .u8 (by8 h 7), .int .i64 n, .slice ao l.length cap] 29))
  have HO := Lib.hid (O.key #[.int .u8 (by8 h 0), .int .u8 (by8 h 1), .int .u8 (by8 h 2), .int .u8 (by8 h 3), .int .u8 (by8 h 4), .int .u8 (by8 h 5), .int .u8 (by8 h 6), .int .u8 (by8 h 7), .int .i64 n, .slice ao l.length cap] 29 w.heap.size rfl)
  have HD := Lib.hid D
  have HN := Lib.hid hn
  have HH := Lib.hid H
  clear HB hv hn H
  obtain ⟨hlt, -⟩ := idx_some hi
  obtain ⟨r, kcap, cur, rfl, hkc, -, rfl, -, -, HR, hcell⟩ := D.at_ (C := [_]) O hlt
  have rl := HR.lt
  have c8 : w.cell? ⟨r, i * 10 + 8, none⟩ = some (.int .i64 (T.all.getD i default).n) := by rw [HR.cell]; exact hcell 8 (by omega)
  obtain ⟨nn, hnn⟩ : ∃ z, (T.all.getD i default).n = z := ⟨_, rfl⟩
  rw [hnn] at c8 ho
  have HI : Hid (idxV T.all h = some (.int .i64 (i : Int))) := by show _ = _; unfold idxV; rw [hi]; rfl
  have hd3 : decide (n ≤ nn) = true := decide_eq_true ho
  clear HR hcell O D hnn
  go_enter Try.func21, Try.ntmps21
  go_wp2_with fail
  refine (tisNumber_to n true HN.out _).mono ?_
  rintro e w' ⟨rfl, rfl⟩
  go_wp2_with fail
  refine wp_region_rq (by kernel_rfl) (by kernel_rfl) (by kernel_rfl) ?_
  repeat (first
    | (refine B_skip ?_ ?_; (· rfl); (try simp only [Act.put, List.setIfInBounds_toArray, List.set_cons_zero, List.set_cons_succ]))
    | (refine B_move rfl ?_ ?_; (· rfl); (try simp only [Act.eval, Act.put, Array.getD_eq_getD_getElem?, List.getElem?_toArray, List.getElem?_cons_succ, List.getElem?_cons_zero, Option.getD_some, List.setIfInBounds_toArray, List.set_cons_zero, List.set_cons_succ]))
    | (refine B_plain ?_ ?_; (· rfl); intro K hK; go_big_quiet_op; with_reducible refine hK _ ?_; clear hK K)
    | (refine B_nilck rfl rfl ?_ ?_; (· rfl); (try simp only [Act.put, List.setIfInBounds_toArray, List.set_cons_zero, List.set_cons_succ]))
    | (refine B_look2 HD.out.map mapI (HO.out.has _ (List.mem_cons_self ..)) (.tmp 29) (.tmp 31) rfl (by rfl) h (by rfl) vz_int (.tuple #[.int .i64 (i : Int), .bool true]) (by rw [HI.out]; rfl) rfl ?_ ?_ ?_; (· rfl); (· rfl); (try simp only [Act.put, List.setIfInBounds_toArray, List.set_cons_zero, List.set_cons_succ])))
  refine B_nil ?_ rfl ?_ ?_
  · kernel_rfl
  · rfl
  rintro _ ⟨⟨g1, d1⟩, rfl⟩
  simp only [fin, Act.put, List.setIfInBounds_toArray, List.set_cons_zero, List.set_cons_succ]
  go_wp2_with fail
  refine wp_region_rq (by kernel_rfl) (by kernel_rfl) (by kernel_rfl) ?_
  repeat (first
    | (refine B_skip ?_ ?_; (· rfl); (try simp only [Act.put, List.setIfInBounds_toArray, List.set_cons_zero, List.set_cons_succ]))
    | (refine B_move rfl ?_ ?_; (· rfl); (try simp only [Act.eval, Act.put, Array.getD_eq_getD_getElem?, List.getElem?_toArray, List.getElem?_cons_succ, List.getElem?_cons_zero, Option.getD_some, List.setIfInBounds_toArray, List.set_cons_zero, List.set_cons_succ]))
    | (refine B_plain ?_ ?_; (· rfl); intro K hK; go_big_quiet_op; with_reducible refine hK _ ?_; clear hK K)
    | (refine B_nilck rfl rfl ?_ ?_; (· rfl); (try simp only [Act.put, List.setIfInBounds_toArray, List.set_cons_zero, List.set_cons_succ])))
  refine B_nil ?_ rfl ?_ ?_
  · kernel_rfl
  · rfl
  rintro _ ⟨⟨g2, d2⟩, rfl⟩
  simp only [fin, Act.put, List.setIfInBounds_toArray, List.set_cons_zero, List.set_cons_succ]
  go_wp2
  go_ret
  exact ⟨rfl, by (repeat' (first | (with_reducible exact Below.refl _ _) | (with_reducible refine bplus ?_ _ _) | (with_reducible refine balloc ?_ _) | (with_reducible refine Below.drew ?_) | (with_reducible refine bdrewN ?_ _) | (with_reducible refine Below.setCell ?_ (by go_size) _)))⟩

set_option maxRecDepth 100000 in
set_option maxHeartbeats 4000000 in
theorem take_put (p : Nat) (T : TWS) (h : BitVec 64) (n : Int) (v : Value) (l : List UInt8) (w w0 : World) (C X : List Blk) (K : List (Nat × Obj)) (H : Tw w w0 C X K p T) (hv : BSl w v l) (hn : isNum n = true) (hl8 : 8 ≤ l.length) (hl : l.length ≤ 32776) (hr : T.room ≤ 4096) (hk : T.all.length ≤ T.room) (i : Nat) (hi : idx T.all h = some i) (ho : ¬ n ≤ (T.all.getD i default).n) :
    Calls Try.prog 21 #[tptr p, .agg #[.int .u8 (by8 h 0), .int .u8 (by8 h 1), .int .u8 (by8 h 2), .int .u8 (by8 h 3), .int .u8 (by8 h 4), .int .u8 (by8 h 5), .int .u8 (by8 h 6), .int .u8 (by8 h 7), .int .i64 n, v]] w fun e w' => e = .returned (.int .i64 0) ∧ ∃ N, Tw w' w0 C (N ++ X) K p { T with all := T.all.set i ⟨h, n, l⟩ } := by
  obtain ⟨tv, m, es, ck, R, vs, O, D⟩ := H.open_
  have HB := O.blk (List.mem_cons_self ..)
  have lt := HB.lt
  have c0 : w.cell? ⟨p, 0, none⟩ = some (.int .i64 T.room) := HB.cell 0
  have c1 : w.cell? ⟨p, 1, none⟩ = some tv := HB.cell 1
  have c2 : w.cell? ⟨p, 2, none⟩ = some (.map (some m)) := HB.cell 2
  have hd1 : decide ((l.length : Int) < 8) = false := decide_eq_false (by omega)
  have hd2 : decide ((32776 : Int) < (l.length : Int)) = false := decide_eq_false (by omega)
  obtain ⟨ao, cap, rfl, -⟩ := hv.open_
  have HV := Lib.hid (hv.alloc (.cells #[.int .u8 (by8 h 0), .int .u8 (by8 h 1), .int .u8 (by8 h 2), .int .u8 (by8 h 3), .int .u8 (by8 h 4), .int .u8 (by8 h 5), .int .u8 (by8 h 6), .int .u8 (by8 h 7), .int .i64 n, .slice ao l.length cap] 29))
  have HO := Lib.hid (O.key #[.int .u8 (by8 h 0), .int .u8 (by8 h 1), .int .u8 (by8 h 2), .int .u8 (by8 h 3), .int .u8 (by8 h 4), .int .u8 (by8 h 5), .int .u8 (by8 h 6), .int .u8 (by8 h 7), .int .i64 n, .slice ao l.length cap] 29 w.heap.size rfl)
  have HD := Lib.hid D
  have HN := Lib.hid hn
  have HH := Lib.hid H
  clear HB hv hn H
  obtain ⟨hlt, hih⟩ := idx_some hi
  obtain ⟨r, kcap, cur, rfl, hkc, hkm, rfl, hcs, htk, HR, hcell⟩ := D.at_ (C := [_]) O hlt
  have rl := HR.lt
  have c8 : w.cell? ⟨r, i * 10 + 8, none⟩ = some (.int .i64 (T.all.getD i default).n) := by rw [HR.cell]; exact hcell 8 (by omega)
  obtain ⟨nn, hnn⟩ : ∃ z, (T.all.getD i default).n = z := ⟨_, rfl⟩
  rw [hnn] at c8 ho
  have HI : Hid (idxV T.all h = some (.int .i64 (i : Int))) := by show _ = _; unfold idxV; rw [hi]; rfl
  have HTK := Lib.hid htk
  have HIH := Lib.hid hih
  have hd3 : decide (n ≤ nn) = false := decide_eq_false ho
  clear HR hcell O D htk hih hi hnn
  go_enter Try.func21, Try.ntmps21
  go_wp2_with fail
  refine (tisNumber_to n true HN.out _).mono ?_
  rintro e w' ⟨rfl, rfl⟩
  go_wp2_with fail
  refine wp_region_rq (by kernel_rfl) (by kernel_rfl) (by kernel_rfl) ?_
  repeat (first
    | (refine B_skip ?_ ?_; (· rfl); (try simp only [Act.put, List.setIfInBounds_toArray, List.set_cons_zero, List.set_cons_succ]))
    | (refine B_move rfl ?_ ?_; (· rfl); (try simp only [Act.eval, Act.put, Array.getD_eq_getD_getElem?, List.getElem?_toArray, List.getElem?_cons_succ, List.getElem?_cons_zero, Option.getD_some, List.setIfInBounds_toArray, List.set_cons_zero, List.set_cons_succ]))
    | (refine B_plain ?_ ?_; (· rfl); intro K hK; go_big_quiet_op; with_reducible refine hK _ ?_; clear hK K)
    | (refine B_nilck rfl rfl ?_ ?_; (· rfl); (try simp only [Act.put, List.setIfInBounds_toArray, List.set_cons_zero, List.set_cons_succ]))
    | (refine B_look2 HD.out.map mapI (HO.out.has _ (List.mem_cons_self ..)) (.tmp 29) (.tmp 31) rfl (by rfl) h (by rfl) vz_int (.tuple #[.int .i64 (i : Int), .bool true]) (by rw [HI.out]; rfl) rfl ?_ ?_ ?_; (· rfl); (· rfl); (try simp only [Act.put, List.setIfInBounds_toArray, List.set_cons_zero, List.set_cons_succ])))
  refine B_nil ?_ rfl ?_ ?_
  · kernel_rfl
  · rfl
  rintro _ ⟨⟨g1, d1⟩, rfl⟩
  simp only [fin, Act.put, List.setIfInBounds_toArray, List.set_cons_zero, List.set_cons_succ]
  go_wp2_with fail
  refine wp_region_rq (by kernel_rfl) (by kernel_rfl) (by kernel_rfl) ?_
  repeat (first
    | (refine B_skip ?_ ?_; (· rfl); (try simp only [Act.put, List.setIfInBounds_toArray, List.set_cons_zero, List.set_cons_succ]))
    | (refine B_move rfl ?_ ?_; (· rfl); (try simp only [Act.eval, Act.put, Array.getD_eq_getD_getElem?, List.getElem?_toArray, List.getElem?_cons_succ, List.getElem?_cons_zero, Option.getD_some, List.setIfInBounds_toArray, List.set_cons_zero, List.set_cons_succ]))
    | (refine B_plain ?_ ?_; (· rfl); intro K hK; go_big_quiet_op; with_reducible refine hK _ ?_; clear hK K)
    | (refine B_nilck rfl rfl ?_ ?_; (· rfl); (try simp only [Act.put, List.setIfInBounds_toArray, List.set_cons_zero, List.set_cons_succ])))
  refine B_nil ?_ rfl ?_ ?_
  · kernel_rfl
  · rfl
  rintro _ ⟨⟨g2, d2⟩, rfl⟩
  simp only [fin, Act.put, List.setIfInBounds_toArray, List.set_cons_zero, List.set_cons_succ]
  go_wp2_with fail
  refine wp_opq (fun W => Omw W w0 (⟨r, 29, cur⟩ :: (⟨w.heap.size, 29, #[.int .u8 (by8 h 0), .int .u8 (by8 h 1), .int .u8 (by8 h 2), .int .u8 (by8 h 3), .int .u8 (by8 h 4), .int .u8 (by8 h 5), .int .u8 (by8 h 6), .int .u8 (by8 h 7), .int .i64 n, .slice ao l.length cap]⟩ :: (⟨p, 122, #[.int .i64 T.room, .slice (some ⟨r, 0, none⟩) T.all.length kcap, .map (some m)]⟩ :: (C ++ X)))) ((m, .map es ck) :: K) ∧ BSl W (.slice ao l.length cap) l) ⟨(HO.out.perm (perm_cnt fun x => by simp only [cnt_append, cnt_cons, cnt_nil] <;> omega)).of_below (by (repeat' (first | (with_reducible exact Below.refl _ _) | (with_reducible refine bplus ?_ _ _) | (with_reducible refine balloc ?_ _) | (with_reducible refine Below.drew ?_) | (with_reducible refine bdrewN ?_ _) | (with_reducible refine Below.setCell ?_ (by go_size) _)))), HV.out.below (by (repeat' (first | (with_reducible exact Below.refl _ _) | (with_reducible refine bplus ?_ _ _) | (with_reducible refine balloc ?_ _) | (with_reducible refine Below.drew ?_) | (with_reducible refine bdrewN ?_ _) | (with_reducible refine Below.setCell ?_ (by go_size) _))))⟩ ?_
  rintro W2 ⟨O2, V2⟩
  have HO2 := Lib.hid O2
  have HBp := O2.blk (b := p) (t := 122) (cs := #[.int .i64 T.room, .slice (some ⟨r, 0, none⟩) T.all.length kcap, .map (some m)]) (by simp)
  have lt2 := HBp.lt
  have c12 : W2.cell? ⟨p, 1, none⟩ = some (.slice (some ⟨r, 0, none⟩) T.all.length kcap) := HBp.cell 1
  have HBa := O2.blk (b := w.heap.size) (t := 29) (cs := #[.int .u8 (by8 h 0), .int .u8 (by8 h 1), .int .u8 (by8 h 2), .int .u8 (by8 h 3), .int .u8 (by8 h 4), .int .u8 (by8 h 5), .int .u8 (by8 h 6), .int .u8 (by8 h 7), .int .i64 n, .slice ao l.length cap]) (by simp)
  have hca := HBa.cell
  have lta := HBa.lt
  (have a0 := hca 0); (have a1 := hca 1); (have a2 := hca 2); (have a3 := hca 3); (have a4 := hca 4); (have a5 := hca 5); (have a6 := hca 6); (have a7 := hca 7); (have a8 := hca 8); (have a9 := hca 9)
  simp only [List.getElem?_toArray, List.getElem?_cons_succ, List.getElem?_cons_zero] at a0 a1 a2 a3 a4 a5 a6 a7 a8 a9
  have T3 : Hid (∀ g d, Calls Try.prog 63 #[.agg #[.int .u8 (by8 h 0), .int .u8 (by8 h 1), .int .u8 (by8 h 2), .int .u8 (by8 h 3), .int .u8 (by8 h 4), .int .u8 (by8 h 5), .int .u8 (by8 h 6), .int .u8 (by8 h 7), .int .i64 n, .slice ao l.length cap]] (plus W2 g d) fun e w' => ∃ u, e = .returned u ∧ Below (plus W2 g d).heap.size (plus W2 g d) w' ∧ ApC W2.heap.size h n l u w') := fun g d => by
    refine (aclone_to h n _ l (by omega) _ (V2.plus g d)).mono ?_
    rintro e w' ⟨u, h1, h2, h3⟩
    exact ⟨_, h1, h2, u, rfl, h3.base (by simp)⟩
  clear O2 V2 HBp HBa hca HO HV c0 c1 c2 c8 lt rl
  refine wp_region_rc 7 2 (by kernel_rfl) (by kernel_rfl) (by kernel_rfl) (by kernel_rfl) ?_
  simp only [List.take_succ_cons, List.take_zero]
  repeat (first
    | (refine B_skip ?_ ?_; (· rfl); (try simp only [Act.put, List.setIfInBounds_toArray, List.set_cons_zero, List.set_cons_succ]))
    | (refine B_move rfl ?_ ?_; (· rfl); (try simp only [Act.eval, Act.put, Array.getD_eq_getD_getElem?, List.getElem?_toArray, List.getElem?_cons_succ, List.getElem?_cons_zero, Option.getD_some, List.setIfInBounds_toArray, List.set_cons_zero, List.set_cons_succ]))
    | (refine B_plain ?_ ?_; (· rfl); intro K hK; go_big_quiet_op; with_reducible refine hK _ ?_; clear hK K)
    | (refine B_nilck rfl rfl ?_ ?_; (· rfl); (try simp only [Act.put, List.setIfInBounds_toArray, List.set_cons_zero, List.set_cons_succ]))
    | (refine B_callR (ApC W2.heap.size h n l) (stays_apc _ _ _ _) (f := 63) rfl rfl (by kernel_rfl) ?_ (fun xq => ?_) ?_; (· rfl); (· ((simp only [List.map_toArray, List.map_cons, List.map_nil, Act.eval, Array.getD_eq_getD_getElem?, List.getElem?_toArray, List.getElem?_cons_succ, List.getElem?_cons_zero, Option.getD_some]); (with_reducible apply retR); with_reducible exact T3.out _ _))))
  refine B_nil ?_ rfl ?_ ?_
  · kernel_rfl
  · rfl
  rintro _ ⟨⟨g3, d3⟩, rfl⟩
  simp only [fin, Act.put, List.setIfInBounds_toArray, List.set_cons_zero, List.set_cons_succ]
  rintro _ ⟨u, rfl, hu⟩
  obtain ⟨N, O3, hm⟩ := hu.foundM HO2.out ⟨⟨_, _⟩, rfl⟩
  have HO3 := Lib.hid (O3.perm (X' := ⟨r, 29, cur⟩ :: (⟨w.heap.size, 29, #[.int .u8 (by8 h 0), .int .u8 (by8 h 1), .int .u8 (by8 h 2), .int .u8 (by8 h 3), .int .u8 (by8 h 4), .int .u8 (by8 h 5), .int .u8 (by8 h 6), .int .u8 (by8 h 7), .int .i64 n, .slice ao l.length cap]⟩ :: (⟨p, 122, #[.int .i64 T.room, .slice (some ⟨r, 0, none⟩) T.all.length kcap, .map (some m)]⟩ :: (C ++ (N ++ X))))) (perm_cnt fun x => by simp only [cnt_append, cnt_cons, cnt_nil] <;> omega))
  have HM := Lib.hid hm
  clear O3 hu hm a0 a1 a2 a3 a4 a5 a6 a7 a8 a9 lta lt2 c12 HO2 T3
  refine step_one (n := 1) (k := 7) (by kernel_rfl) (by rfl) (by rfl) ?_
  intro K hK
  go_simp
  refine hK _ _ ?_
  clear hK K
  refine last_one (k := 8) (by kernel_rfl) (by kernel_rfl) (by rfl) ?_ ?_
  · rfl
  intro K' hK
  refine HO3.out.storeAt 29 (.tmp 54) (.tmp 53) (by rfl) (i * 10) (by rfl) #[.int .u8 (by8 h 0), .int .u8 (by8 h 1), .int .u8 (by8 h 2), .int .u8 (by8 h 3), .int .u8 (by8 h 4), .int .u8 (by8 h 5), .int .u8 (by8 h 6), .int .u8 (by8 h 7), .int .i64 n, u] (by rfl) (by kernel_rfl) (by rw [hcs]; show i * 10 + 10 ≤ kcap * 10; omega) (acs_one ⟨h, n, l⟩ u HM.out.one) (fun w5 O5 => hK _ _ ?_)
  clear hK K'
  have HO5 := Lib.hid O5
  clear O5 HO3
  go_wp2
  go_ret
  have hvl := HD.out.len
  have e1 : writeAt cur (i * 10) (#[.int .u8 (by8 h 0), .int .u8 (by8 h 1), .int .u8 (by8 h 2), .int .u8 (by8 h 3), .int .u8 (by8 h 4), .int .u8 (by8 h 5), .int .u8 (by8 h 6), .int .u8 (by8 h 7), .int .i64 n, u] : Array Value).toList = writeAt cur (i * 10) (acs ⟨h, n, l⟩ u) := rfl
  have e2 := ecs_set T.all vs hvl i hlt ⟨h, n, l⟩ u cur HTK.out
  refine ⟨rfl, N, ?_⟩
  have O6 := HO5.out
  rw [e1] at O6
  refine Tw.close (v := .slice (some ⟨r, 0, none⟩) T.all.length kcap) (m := m) (es := es) (ck := ck) (R := [⟨r, 29, writeAt cur (i * 10) (acs ⟨h, n, l⟩ u)⟩]) (vs := vs.set i u) ((Omw.drop1 (O6.perm (X' := ⟨w.heap.size, 29, #[.int .u8 (by8 h 0), .int .u8 (by8 h 1), .int .u8 (by8 h 2), .int .u8 (by8 h 3), .int .u8 (by8 h 4), .int .u8 (by8 h 5), .int .u8 (by8 h 6), .int .u8 (by8 h 7), .int .i64 n, .slice ao l.length cap]⟩ :: (⟨p, 122, #[.int .i64 T.room, .slice (some ⟨r, 0, none⟩) T.all.length kcap, .map (some m)]⟩ :: ([⟨r, 29, writeAt cur (i * 10) (acs ⟨h, n, l⟩ u)⟩] ++ (C ++ (N ++ X))))) (perm_cnt fun x => by simp only [cnt_append, cnt_cons, cnt_nil] <;> omega)))) ⟨?_, by simpa using hvl, ?_, ?_⟩
  · have hR := Row.one (e := 29) (sz := 10) r T.all.length kcap (writeAt cur (i * 10) (acs ⟨h, n, l⟩ u)) hkc hkm (by rw [writeAt_len]; exact hcs)
    rw [e2] at hR
    simpa using hR
  · have := (HD.out.box.mono (L' := N ++ X) (by intro x hx; simp [hx])).set_ i (HM.out.mono (L' := N ++ X) (by intro x hx; simp [hx]))
    simpa using this
  · show MapD es ck (idxV (T.all.set i ⟨h, n, l⟩))
    rw [idxV_set HIH.out]
    exact HD.out.map

set_option maxRecDepth 100000 in
set_option maxHeartbeats 2000000 in
theorem take_full (p : Nat) (T : TWS) (h : BitVec 64) (n : Int) (v : Value) (l : List UInt8) (w w0 : World) (C X : List Blk) (K : List (Nat × Obj)) (H : Tw w w0 C X K p T) (hv : BSl w v l) (hn : isNum n = true) (hl8 : 8 ≤ l.length) (hl : l.length ≤ 32776) (hi : idx T.all h = none) (ho : T.room ≤ T.all.length) :
    Calls Try.prog 21 #[tptr p, .agg #[.int .u8 (by8 h 0), .int .u8 (by8 h 1), .int .u8 (by8 h 2), .int .u8 (by8 h 3), .int .u8 (by8 h 4), .int .u8 (by8 h 5), .int .u8 (by8 h 6), .int .u8 (by8 h 7), .int .i64 n, v]] w fun e w' => e = .returned (.int .i64 8) ∧ Below w.heap.size w w' := by
  have hd3 : decide ((T.room : Int) ≤ (T.all.length : Int)) = true := decide_eq_true (by omega)
  have hd4 : decide (T.room ≤ T.all.length) = true := decide_eq_true ho
  obtain ⟨tv, m, es, ck, R, vs, O, D⟩ := H.open_
  have HB := O.blk (List.mem_cons_self ..)
  have lt := HB.lt
  have c0 : w.cell? ⟨p, 0, none⟩ = some (.int .i64 T.room) := HB.cell 0
  have c1 : w.cell? ⟨p, 1, none⟩ = some tv := HB.cell 1
  have c2 : w.cell? ⟨p, 2, none⟩ = some (.map (some m)) := HB.cell 2
  have hd1 : decide ((l.length : Int) < 8) = false := decide_eq_false (by omega)
  have hd2 : decide ((32776 : Int) < (l.length : Int)) = false := decide_eq_false (by omega)
  obtain ⟨ao, cap, rfl, -⟩ := hv.open_
  have HV := Lib.hid (hv.alloc (.cells #[.int .u8 (by8 h 0), .int .u8 (by8 h 1), .int .u8 (by8 h 2), .int .u8 (by8 h 3), .int .u8 (by8 h 4), .int .u8 (by8 h 5), .int .u8 (by8 h 6), .int .u8 (by8 h 7), .int .i64 n, .slice ao l.length cap] 29))
  have HO := Lib.hid (O.key #[.int .u8 (by8 h 0), .int .u8 (by8 h 1), .int .u8 (by8 h 2), .int .u8 (by8 h 3), .int .u8 (by8 h 4), .int .u8 (by8 h 5), .int .u8 (by8 h 6), .int .u8 (by8 h 7), .int .i64 n, .slice ao l.length cap] 29 w.heap.size rfl)
  have HD := Lib.hid D
  have HN := Lib.hid hn
  have HH := Lib.hid H
  clear HB hv hn H
  have HI : Hid (idxV T.all h = none) := by show _ = _; unfold idxV; rw [hi]; rfl
  have HR := Lib.hid D.row
  obtain ⟨ak, kcap, rfl⟩ := D.row.slice
  clear O D
  go_enter Try.func21, Try.ntmps21
  go_wp2_with fail
  refine (tisNumber_to n true HN.out _).mono ?_
  rintro e w' ⟨rfl, rfl⟩
  go_wp2_with fail
  refine wp_region_rq (by kernel_rfl) (by kernel_rfl) (by kernel_rfl) ?_
  repeat (first
    | (refine B_skip ?_ ?_; (· rfl); (try simp only [Act.put, List.setIfInBounds_toArray, List.set_cons_zero, List.set_cons_succ]))
    | (refine B_move rfl ?_ ?_; (· rfl); (try simp only [Act.eval, Act.put, Array.getD_eq_getD_getElem?, List.getElem?_toArray, List.getElem?_cons_succ, List.getElem?_cons_zero, Option.getD_some, List.setIfInBounds_toArray, List.set_cons_zero, List.set_cons_succ]))
    | (refine B_plain ?_ ?_; (· rfl); intro K hK; go_big_quiet_op; with_reducible refine hK _ ?_; clear hK K)
    | (refine B_nilck rfl rfl ?_ ?_; (· rfl); (try simp only [Act.put, List.setIfInBounds_toArray, List.set_cons_zero, List.set_cons_succ]))
    | (refine B_look2 HD.out.map mapI (HO.out.has _ (List.mem_cons_self ..)) (.tmp 29) (.tmp 31) rfl (by rfl) h (by rfl) vz_int (.tuple #[.int .i64 0, .bool false]) (by rw [HI.out]; rfl) rfl ?_ ?_ ?_; (· rfl); (· rfl); (try simp only [Act.put, List.setIfInBounds_toArray, List.set_cons_zero, List.set_cons_succ])))
  refine B_nil ?_ rfl ?_ ?_
  · kernel_rfl
  · rfl
  rintro _ ⟨⟨g1, d1⟩, rfl⟩
  simp only [fin, Act.put, List.setIfInBounds_toArray, List.set_cons_zero, List.set_cons_succ]
  go_wp2_with fail
  refine wp_region_rq (by kernel_rfl) (by kernel_rfl) (by kernel_rfl) ?_
  repeat (first
    | (refine B_skip ?_ ?_; (· rfl); (try simp only [Act.put, List.setIfInBounds_toArray, List.set_cons_zero, List.set_cons_succ]))
    | (refine B_move rfl ?_ ?_; (· rfl); (try simp only [Act.eval, Act.put, Array.getD_eq_getD_getElem?, List.getElem?_toArray, List.getElem?_cons_succ, List.getElem?_cons_zero, Option.getD_some, List.setIfInBounds_toArray, List.set_cons_zero, List.set_cons_succ]))
    | (refine B_plain ?_ ?_; (· rfl); intro K hK; go_big_quiet_op; with_reducible refine hK _ ?_; clear hK K)
    | (refine B_nilck rfl rfl ?_ ?_; (· rfl); (try simp only [Act.put, List.setIfInBounds_toArray, List.set_cons_zero, List.set_cons_succ])))
  refine B_nil ?_ rfl ?_ ?_
  · kernel_rfl
  · rfl
  rintro _ ⟨⟨g2, d2⟩, rfl⟩
  simp only [fin, Act.put, List.setIfInBounds_toArray, List.set_cons_zero, List.set_cons_succ]
  go_wp2
  go_ret
  exact ⟨rfl, by (repeat' (first | (with_reducible exact Below.refl _ _) | (with_reducible refine bplus ?_ _ _) | (with_reducible refine balloc ?_ _) | (with_reducible refine Below.drew ?_) | (with_reducible refine bdrewN ?_ _) | (with_reducible refine Below.setCell ?_ (by go_size) _)))⟩
set_option maxRecDepth 100000 in
set_option maxHeartbeats 4000000 in
theorem take_add (p : Nat) (T : TWS) (h : BitVec 64) (n : Int) (v : Value) (l : List UInt8) (w w0 : World) (C X : List Blk) (K : List (Nat × Obj)) (H : Tw w w0 C X K p T) (hv : BSl w v l) (hn : isNum n = true) (hl8 : 8 ≤ l.length) (hl : l.length ≤ 32776) (hi : idx T.all h = none) (hr : T.room ≤ 4096) (ho : ¬ T.room ≤ T.all.length) :
    Calls Try.prog 21 #[tptr p, .agg #[.int .u8 (by8 h 0), .int .u8 (by8 h 1), .int .u8 (by8 h 2), .int .u8 (by8 h 3), .int .u8 (by8 h 4), .int .u8 (by8 h 5), .int .u8 (by8 h 6), .int .u8 (by8 h 7), .int .i64 n, v]] w fun e w' => e = .returned (.int .i64 0) ∧ ∃ N, Tw w' w0 C (N ++ X) K p { T with all := T.all ++ [⟨h, n, l⟩] } := by
  have hd3 : decide ((T.room : Int) ≤ (T.all.length : Int)) = false := decide_eq_false (by omega)
  have hd4 : decide (T.room ≤ T.all.length) = false := decide_eq_false ho
  have HIX := Lib.hid hi
  obtain ⟨tv, m, es, ck, R, vs, O, D⟩ := H.open_
  have HB := O.blk (List.mem_cons_self ..)
  have lt := HB.lt
  have c0 : w.cell? ⟨p, 0, none⟩ = some (.int .i64 T.room) := HB.cell 0
  have c1 : w.cell? ⟨p, 1, none⟩ = some tv := HB.cell 1
  have c2 : w.cell? ⟨p, 2, none⟩ = some (.map (some m)) := HB.cell 2
  have hd1 : decide ((l.length : Int) < 8) = false := decide_eq_false (by omega)
  have hd2 : decide ((32776 : Int) < (l.length : Int)) = false := decide_eq_false (by omega)
  obtain ⟨ao, cap, rfl, -⟩ := hv.open_
  have HV := Lib.hid (hv.alloc (.cells #[.int .u8 (by8 h 0), .int .u8 (by8 h 1), .int .u8 (by8 h 2), .int .u8 (by8 h 3), .int .u8 (by8 h 4), .int .u8 (by8 h 5), .int .u8 (by8 h 6), .int .u8 (by8 h 7), .int .i64 n, .slice ao l.length cap] 29))
  have HO := Lib.hid (O.key #[.int .u8 (by8 h 0), .int .u8 (by8 h 1), .int .u8 (by8 h 2), .int .u8 (by8 h 3), .int .u8 (by8 h 4), .int .u8 (by8 h 5), .int .u8 (by8 h 6), .int .u8 (by8 h 7), .int .i64 n, .slice ao l.length cap] 29 w.heap.size rfl)
  have HD := Lib.hid D
  have HN := Lib.hid hn
  have HH := Lib.hid H
  clear HB hv hn H
  have HI : Hid (idxV T.all h = none) := by show _ = _; unfold idxV; rw [hi]; rfl
  have HR := Lib.hid D.row
  obtain ⟨ak, kcap, rfl⟩ := D.row.slice
  clear O D
  go_enter Try.func21, Try.ntmps21
  go_wp2_with fail
  refine (tisNumber_to n true HN.out _).mono ?_
  rintro e w' ⟨rfl, rfl⟩
  go_wp2_with fail
  refine wp_region_rq (by kernel_rfl) (by kernel_rfl) (by kernel_rfl) ?_
  repeat (first
    | (refine B_skip ?_ ?_; (· rfl); (try simp only [Act.put, List.setIfInBounds_toArray, List.set_cons_zero, List.set_cons_succ]))
    | (refine B_move rfl ?_ ?_; (· rfl); (try simp only [Act.eval, Act.put, Array.getD_eq_getD_getElem?, List.getElem?_toArray, List.getElem?_cons_succ, List.getElem?_cons_zero, Option.getD_some, List.setIfInBounds_toArray, List.set_cons_zero, List.set_cons_succ]))
    | (refine B_plain ?_ ?_; (· rfl); intro K hK; go_big_quiet_op; with_reducible refine hK _ ?_; clear hK K)
    | (refine B_nilck rfl rfl ?_ ?_; (· rfl); (try simp only [Act.put, List.setIfInBounds_toArray, List.set_cons_zero, List.set_cons_succ]))
    | (refine B_look2 HD.out.map mapI (HO.out.has _ (List.mem_cons_self ..)) (.tmp 29) (.tmp 31) rfl (by rfl) h (by rfl) vz_int (.tuple #[.int .i64 0, .bool false]) (by rw [HI.out]; rfl) rfl ?_ ?_ ?_; (· rfl); (· rfl); (try simp only [Act.put, List.setIfInBounds_toArray, List.set_cons_zero, List.set_cons_succ])))
  refine B_nil ?_ rfl ?_ ?_
  · kernel_rfl
  · rfl
  rintro _ ⟨⟨g1, d1⟩, rfl⟩
  simp only [fin, Act.put, List.setIfInBounds_toArray, List.set_cons_zero, List.set_cons_succ]
  go_wp2_with fail
  refine wp_region_rq (by kernel_rfl) (by kernel_rfl) (by kernel_rfl) ?_
  repeat (first
    | (refine B_skip ?_ ?_; (· rfl); (try simp only [Act.put, List.setIfInBounds_toArray, List.set_cons_zero, List.set_cons_succ]))
    | (refine B_move rfl ?_ ?_; (· rfl); (try simp only [Act.eval, Act.put, Array.getD_eq_getD_getElem?, List.getElem?_toArray, List.getElem?_cons_succ, List.getElem?_cons_zero, Option.getD_some, List.setIfInBounds_toArray, List.set_cons_zero, List.set_cons_succ]))
    | (refine B_plain ?_ ?_; (· rfl); intro K hK; go_big_quiet_op; with_reducible refine hK _ ?_; clear hK K)
    | (refine B_nilck rfl rfl ?_ ?_; (· rfl); (try simp only [Act.put, List.setIfInBounds_toArray, List.set_cons_zero, List.set_cons_succ])))
  refine B_nil ?_ rfl ?_ ?_
  · kernel_rfl
  · rfl
  rintro _ ⟨⟨g2, d2⟩, rfl⟩
  simp only [fin, Act.put, List.setIfInBounds_toArray, List.set_cons_zero, List.set_cons_succ]
  go_wp2_with fail
  refine wp_opq (fun W => Omw W w0 (⟨w.heap.size, 29, #[.int .u8 (by8 h 0), .int .u8 (by8 h 1), .int .u8 (by8 h 2), .int .u8 (by8 h 3), .int .u8 (by8 h 4), .int .u8 (by8 h 5), .int .u8 (by8 h 6), .int .u8 (by8 h 7), .int .i64 n, .slice ao l.length cap]⟩ :: (⟨p, 122, #[.int .i64 T.room, .slice ak T.all.length kcap, .map (some m)]⟩ :: (R ++ (C ++ X)))) ((m, .map es ck) :: K) ∧ BSl W (.slice ao l.length cap) l) ⟨HO.out.of_below (by (repeat' (first | (with_reducible exact Below.refl _ _) | (with_reducible refine bplus ?_ _ _) | (with_reducible refine balloc ?_ _) | (with_reducible refine Below.drew ?_) | (with_reducible refine bdrewN ?_ _) | (with_reducible refine Below.setCell ?_ (by go_size) _)))), HV.out.below (by (repeat' (first | (with_reducible exact Below.refl _ _) | (with_reducible refine bplus ?_ _ _) | (with_reducible refine balloc ?_ _) | (with_reducible refine Below.drew ?_) | (with_reducible refine bdrewN ?_ _) | (with_reducible refine Below.setCell ?_ (by go_size) _))))⟩ ?_
  rintro W2 ⟨O2, V2⟩
  have HO2 := Lib.hid O2
  have HV2 := Lib.hid V2
  clear V2
  have HBp := O2.blk (b := p) (t := 122) (cs := #[.int .i64 T.room, .slice ak T.all.length kcap, .map (some m)]) (by simp)
  have lt2 := HBp.lt
  have c12 : W2.cell? ⟨p, 1, none⟩ = some (.slice ak T.all.length kcap) := HBp.cell 1
  have c22 : W2.cell? ⟨p, 2, none⟩ = some (.map (some m)) := HBp.cell 2
  have HBa := O2.blk (b := w.heap.size) (t := 29) (cs := #[.int .u8 (by8 h 0), .int .u8 (by8 h 1), .int .u8 (by8 h 2), .int .u8 (by8 h 3), .int .u8 (by8 h 4), .int .u8 (by8 h 5), .int .u8 (by8 h 6), .int .u8 (by8 h 7), .int .i64 n, .slice ao l.length cap]) (by simp)
  have hca := HBa.cell
  have lta := HBa.lt
  (have a0 := hca 0); (have a1 := hca 1); (have a2 := hca 2); (have a3 := hca 3); (have a4 := hca 4); (have a5 := hca 5); (have a6 := hca 6); (have a7 := hca 7)
  simp only [List.getElem?_toArray, List.getElem?_cons_succ, List.getElem?_cons_zero] at a0 a1 a2 a3 a4 a5 a6 a7
  clear O2 HBp HBa hca HO c0 c1 c2 lt
  refine wp_region_rc 11 1 (by kernel_rfl) (by kernel_rfl) (by kernel_rfl) (by kernel_rfl) ?_
  simp only [List.take_succ_cons, List.take_zero]
  repeat (first
    | (refine B_skip ?_ ?_; (· rfl); (try simp only [Act.put, List.setIfInBounds_toArray, List.set_cons_zero, List.set_cons_succ]))
    | (refine B_move rfl ?_ ?_; (· rfl); (try simp only [Act.eval, Act.put, Array.getD_eq_getD_getElem?, List.getElem?_toArray, List.getElem?_cons_succ, List.getElem?_cons_zero, Option.getD_some, List.setIfInBounds_toArray, List.set_cons_zero, List.set_cons_succ]))
    | (refine B_plain ?_ ?_; (· rfl); intro K hK; go_big_quiet_op; with_reducible refine hK _ ?_; clear hK K)
    | (refine B_nilck rfl rfl ?_ ?_; (· rfl); (try simp only [Act.put, List.setIfInBounds_toArray, List.set_cons_zero, List.set_cons_succ])))
  refine B_nil ?_ rfl ?_ ?_
  · kernel_rfl
  · rfl
  rintro _ ⟨⟨g3, d3⟩, rfl⟩
  simp only [fin, Act.put, List.setIfInBounds_toArray, List.set_cons_zero, List.set_cons_succ]
  refine last_one (k := 11) (by kernel_rfl) (by kernel_rfl) (by rfl) ?_ ?_
  · rfl
  intro K' hK
  refine (HO2.out.perm (X' := ⟨w.heap.size, 29, #[.int .u8 (by8 h 0), .int .u8 (by8 h 1), .int .u8 (by8 h 2), .int .u8 (by8 h 3), .int .u8 (by8 h 4), .int .u8 (by8 h 5), .int .u8 (by8 h 6), .int .u8 (by8 h 7), .int .i64 n, .slice ao l.length cap]⟩ :: (⟨p, 122, #[.int .i64 T.room, .slice ak T.all.length kcap, .map (some m)]⟩ :: (R ++ (C ++ X)))) (perm_cnt fun x => by simp only [cnt_append, cnt_cons, cnt_nil] <;> omega)).plus _ _ |>.putK2 HD.out.map mapI (.tmp 68) (.tmp 70) (.tmp 75) (by rfl) (by rfl) h (by rfl) (.int .i64 T.all.length) (by rfl) (fun es' ck' w3 O3 D3 hk3 hs3 => hK _ _ ?_)
  rw [idxV_snoc (a := ⟨h, n, l⟩) HIX.out] at D3
  have HO3 := Lib.hid O3
  have HD3 := Lib.hid D3
  have V3 := (HV2.out.plus _ _).map ((HO2.out.plus _ _).has (m, .map es ck) (List.mem_cons_self ..)) hk3 hs3
  clear hk3 hs3 HV2
  have HBp := O3.blk (b := p) (t := 122) (cs := #[.int .i64 T.room, .slice ak T.all.length kcap, .map (some m)]) (by simp)
  have lt3 := HBp.lt
  have c13 : w3.cell? ⟨p, 1, none⟩ = some (.slice ak T.all.length kcap) := HBp.cell 1
  have HBa := O3.blk (b := w.heap.size) (t := 29) (cs := #[.int .u8 (by8 h 0), .int .u8 (by8 h 1), .int .u8 (by8 h 2), .int .u8 (by8 h 3), .int .u8 (by8 h 4), .int .u8 (by8 h 5), .int .u8 (by8 h 6), .int .u8 (by8 h 7), .int .i64 n, .slice ao l.length cap]) (by simp)
  have hca := HBa.cell
  have lta3 := HBa.lt
  clear hK K' O3 D3 lt2 c12 c22 lta a0 a1 a2 a3 a4 a5 a6 a7 HO2 HBp HBa
  (have a0 := hca 0); (have a1 := hca 1); (have a2 := hca 2); (have a3 := hca 3); (have a4 := hca 4); (have a5 := hca 5); (have a6 := hca 6); (have a7 := hca 7); (have a8 := hca 8); (have a9 := hca 9)
  simp only [List.getElem?_toArray, List.getElem?_cons_succ, List.getElem?_cons_zero] at a0 a1 a2 a3 a4 a5 a6 a7 a8 a9
  have T3 : Hid (∀ g d, Calls Try.prog 63 #[.agg #[.int .u8 (by8 h 0), .int .u8 (by8 h 1), .int .u8 (by8 h 2), .int .u8 (by8 h 3), .int .u8 (by8 h 4), .int .u8 (by8 h 5), .int .u8 (by8 h 6), .int .u8 (by8 h 7), .int .i64 n, .slice ao l.length cap]] (plus w3 g d) fun e w' => ∃ u, e = .returned u ∧ Below (plus w3 g d).heap.size (plus w3 g d) w' ∧ ApC w3.heap.size h n l u w') := fun g d => by
    refine (aclone_to h n _ l (by omega) _ (V3.plus g d)).mono ?_
    rintro e w' ⟨u, h1, h2, h3⟩
    exact ⟨_, h1, h2, u, rfl, h3.base (by simp)⟩
  clear hca V3
  (try simp only [Act.put, List.getElem_toArray, List.getElem_cons_succ, List.getElem_cons_zero])
  go_wp2_with fail
  refine wp_region_rdk 7 4 rfl rfl (by kernel_rfl) (by kernel_rfl) (by kernel_rfl) (by kernel_rfl) (by kernel_rfl) (by rfl) ?_
  simp only [List.take_succ_cons, List.take_zero, Act.put, List.setIfInBounds_toArray, List.set_cons_zero, List.set_cons_succ]
  repeat (first
    | (refine B_skip ?_ ?_; (· rfl); (try simp only [Act.put, List.setIfInBounds_toArray, List.set_cons_zero, List.set_cons_succ]))
    | (refine B_move rfl ?_ ?_; (· rfl); (try simp only [Act.eval, Act.put, Array.getD_eq_getD_getElem?, List.getElem?_toArray, List.getElem?_cons_succ, List.getElem?_cons_zero, Option.getD_some, List.setIfInBounds_toArray, List.set_cons_zero, List.set_cons_succ]))
    | (refine B_plain ?_ ?_; (· rfl); intro K hK; go_big_quiet_op; with_reducible refine hK _ ?_; clear hK K)
    | (refine B_callR (ApC w3.heap.size h n l) (stays_apc _ _ _ _) (f := 63) rfl rfl (by kernel_rfl) ?_ (fun xq => ?_) ?_; (· rfl); (· ((simp only [List.map_toArray, List.map_cons, List.map_nil, Act.eval, Array.getD_eq_getD_getElem?, List.getElem?_toArray, List.getElem?_cons_succ, List.getElem?_cons_zero, Option.getD_some]); (with_reducible apply retR); with_reducible exact T3.out _ _)))
    | (refine B_nilck rfl rfl ?_ ?_; (· rfl); (try simp only [Act.put, List.setIfInBounds_toArray, List.set_cons_zero, List.set_cons_succ]))
    | (refine B_newslA elt_app rfl (s := 82) rfl rfl (stays_apc _ _ _ _) (by omega) (apc_agg _ _ _ _) ?_ ?_; (· rfl)))
  refine B_nil ?_ rfl ?_ ?_
  · kernel_rfl
  · rfl
  rintro _ ⟨⟨g4, d4⟩, rfl⟩
  simp only [fin, Act.put, List.setIfInBounds_toArray, List.set_cons_zero, List.set_cons_succ]
  rintro _ ⟨b, _, rfl, hb1, hb2, u, hvs, hu⟩ _ -
  obtain rfl := Value.agg.inj hvs
  obtain ⟨N, O4, hm⟩ := hu.foundM HO3.out ⟨⟨_, _⟩, rfl⟩
  have HO4 := Lib.hid (O4.perm (X' := R ++ (⟨p, 122, #[.int .i64 T.room, .slice ak T.all.length kcap, .map (some m)]⟩ :: (⟨w.heap.size, 29, #[.int .u8 (by8 h 0), .int .u8 (by8 h 1), .int .u8 (by8 h 2), .int .u8 (by8 h 3), .int .u8 (by8 h 4), .int .u8 (by8 h 5), .int .u8 (by8 h 6), .int .u8 (by8 h 7), .int .i64 n, .slice ao l.length cap]⟩ :: (C ++ (N ++ X))))) (perm_cnt fun x => by simp only [cnt_append, cnt_cons, cnt_nil] <;> omega))
  have HM := Lib.hid hm
  clear O4 hu hm a0 a1 a2 a3 a4 a5 a6 a7 a8 a9 lta3 lt3 c13 HO3 T3
  refine step_one (n := 3) (k := 8) (by kernel_rfl) (by rfl) (by rfl) ?_
  intro K' hK
  refine HO4.out.appendK (.tmp 80) (.tmp 83) 120 rfl elt_app (by rfl) HR.out _ 1 1 (#[.int .u8 (by8 h 0), .int .u8 (by8 h 1), .int .u8 (by8 h 2), .int .u8 (by8 h 3), .int .u8 (by8 h 4), .int .u8 (by8 h 5), .int .u8 (by8 h 6), .int .u8 (by8 h 7), .int .i64 n, u] : Array Value).toList (by rfl) (by rfl) (by simp) (blk_news hb2) (acs_one ⟨h, n, l⟩ u HM.out.one) (by unfold maxLen; omega) (by omega) _ rfl (ecs (T.all ++ [⟨h, n, l⟩]) (vs ++ [u])) (by rw [ecs_app _ _ _ _ HD.out.len, ecs_one1]; rfl) (fun ao' cap' B' w5 R5 O5 => hK _ _ ?_)
  clear hK K' hb2
  have HBp := O5.blk (b := p) (t := 122) (cs := #[.int .i64 T.room, .slice ak T.all.length kcap, .map (some m)]) (by simp)
  have lt5 := HBp.lt
  have c15 := HBp.cell 1
  have f15 := HBp.frozen 1
  simp only [List.getElem?_toArray, List.getElem?_cons_succ, List.getElem?_cons_zero] at c15
  have HO5 := Lib.hid (O5.perm (X' := ⟨p, 122, #[.int .i64 T.room, .slice ak T.all.length kcap, .map (some m)]⟩ :: (⟨w.heap.size, 29, #[.int .u8 (by8 h 0), .int .u8 (by8 h 1), .int .u8 (by8 h 2), .int .u8 (by8 h 3), .int .u8 (by8 h 4), .int .u8 (by8 h 5), .int .u8 (by8 h 6), .int .u8 (by8 h 7), .int .i64 n, .slice ao l.length cap]⟩ :: (B' ++ (C ++ (N ++ X))))) (perm_cnt fun x => by simp only [cnt_append, cnt_cons, cnt_nil] <;> omega))
  have HR5 := Lib.hid R5
  clear O5 R5 HBp
  refine step_one (n := 2) (k := 9) (by kernel_rfl) (by rfl) (by rfl) ?_
  intro K hK
  go_simp
  refine hK _ _ ?_
  clear hK K
  refine step_one (n := 1) (k := 10) (by kernel_rfl) (by rfl) (by rfl) ?_
  intro K hK
  go_simp
  refine hK _ _ ?_
  clear hK K
  refine last_one (k := 11) (by kernel_rfl) (by kernel_rfl) (by rfl) ?_ ?_
  · rfl
  intro K hK
  go_simp
  refine hK _ _ ?_
  clear hK K
  try (refine ⟨rfl, ?_⟩; refine then_go (by assumption) ?_)
  refine wp_opq (fun W => Omw W w0 (⟨p, 122, #[.int .i64 T.room, .slice ao' (T.all.length + 1) cap', .map (some m)]⟩ :: (⟨w.heap.size, 29, #[.int .u8 (by8 h 0), .int .u8 (by8 h 1), .int .u8 (by8 h 2), .int .u8 (by8 h 3), .int .u8 (by8 h 4), .int .u8 (by8 h 5), .int .u8 (by8 h 6), .int .u8 (by8 h 7), .int .i64 n, .slice ao l.length cap]⟩ :: (B' ++ (C ++ (N ++ X))))) ((m, .map es' ck') :: K)) ((HO5.out.set 1 _).as (by simp)) ?_
  intro w6 O6
  have HO6 := Lib.hid O6
  clear O6 HO5 c15 f15 lt5
  go_wp2
  go_ret
  refine ⟨rfl, N, Tw.close (v := .slice ao' (T.all.length + 1) cap') (m := m) (es := es') (ck := ck') (R := B') (vs := vs ++ [u]) (Omw.drop1 (HO6.out.perm (X' := ⟨w.heap.size, 29, #[.int .u8 (by8 h 0), .int .u8 (by8 h 1), .int .u8 (by8 h 2), .int .u8 (by8 h 3), .int .u8 (by8 h 4), .int .u8 (by8 h 5), .int .u8 (by8 h 6), .int .u8 (by8 h 7), .int .i64 n, .slice ao l.length cap]⟩ :: (⟨p, 122, #[.int .i64 T.room, .slice ao' (T.all.length + 1) cap', .map (some m)]⟩ :: (B' ++ (C ++ (N ++ X))))) (perm_cnt fun x => by simp only [cnt_append, cnt_cons, cnt_nil] <;> omega))) ⟨by simpa using HR5.out, by simp [HD.out.len], ?_, HD3.out⟩⟩
  have := (HD.out.box.mono (L' := N ++ X) (by intro x hx; simp [hx])).snoc (HM.out.mono (L' := N ++ X) (by intro x hx; simp [hx]))
  simpa using this

/-- Take, whatever comes. -/
theorem take_to (p : Nat) (T : TWS) (hT : TOk T) (h : BitVec 64) (n : Int) (v : Value) (l : List UInt8) (w w0 : World) (C X : List Blk) (K : List (Nat × Obj)) (H : Tw w w0 C X K p T) (hv : BSl w v l) (E : Nat) (hE : takeE T ⟨h, n, l⟩ = E) (T' : TWS) (hT' : takeT T ⟨h, n, l⟩ = T') :
    Calls Try.prog 21 #[tptr p, .agg #[.int .u8 (by8 h 0), .int .u8 (by8 h 1), .int .u8 (by8 h 2), .int .u8 (by8 h 3), .int .u8 (by8 h 4), .int .u8 (by8 h 5), .int .u8 (by8 h 6), .int .u8 (by8 h 7), .int .i64 n, v]] w fun e w' => e = .returned (.int .i64 E) ∧ ∃ N, Tw w' w0 C (N ++ X) K p T' := by
  have stay : ∀ E' : Nat, takeE T ⟨h, n, l⟩ = E' → E' ≠ 0 → Calls Try.prog 21 #[tptr p, .agg #[.int .u8 (by8 h 0), .int .u8 (by8 h 1), .int .u8 (by8 h 2), .int .u8 (by8 h 3), .int .u8 (by8 h 4), .int .u8 (by8 h 5), .int .u8 (by8 h 6), .int .u8 (by8 h 7), .int .i64 n, v]] w (fun e w' => e = .returned (.int .i64 E') ∧ Below w.heap.size w w') → Calls Try.prog 21 #[tptr p, .agg #[.int .u8 (by8 h 0), .int .u8 (by8 h 1), .int .u8 (by8 h 2), .int .u8 (by8 h 3), .int .u8 (by8 h 4), .int .u8 (by8 h 5), .int .u8 (by8 h 6), .int .u8 (by8 h 7), .int .i64 n, v]] w fun e w' => e = .returned (.int .i64 E) ∧ ∃ N, Tw w' w0 C (N ++ X) K p T' := by
    intro E' h1 h2 h3
    refine h3.mono ?_
    rintro e w' ⟨rfl, hb⟩
    have e1 : T' = T := by rw [← hT']; unfold takeT; rw [if_neg (by omega)]
    refine ⟨by rw [← hE, h1], [], ?_⟩
    rw [e1]
    exact H.of_below hb
  obtain ⟨ao, cap, rfl, -⟩ := hv.open_
  cases hn : isNum n with
  | false => exact stay 2 (by unfold takeE; rw [if_pos hn]) (by omega) (take_range p h n _ hn w)
  | true =>
    by_cases h8 : l.length < 8
    · exact stay 3 (by unfold takeE; rw [if_neg (by simp [hn]), if_pos h8]) (by omega) (take_form p h n ao l.length cap h8 hn w)
    by_cases hm : 32776 < l.length
    · exact stay 5 (by unfold takeE; rw [if_neg (by simp [hn]), if_neg h8, if_pos hm]) (by omega) (take_long p h n ao l.length cap hm hn w)
    cases hi : idx T.all h with
    | some i =>
      by_cases ho : n ≤ (T.all.getD i default).n
      · exact stay 18 (by unfold takeE; rw [if_neg (by simp [hn]), if_neg h8, if_neg hm]; simp only [hi]; rw [if_pos ho]) (by omega) (take_old p T h n _ l w w0 C X K H hv hn (by omega) (by omega) hT.room hT.len i hi ho)
      · have e0 : takeE T ⟨h, n, l⟩ = 0 := by unfold takeE; rw [if_neg (by simp [hn]), if_neg h8, if_neg hm]; simp only [hi]; rw [if_neg ho]
        refine (take_put p T h n _ l w w0 C X K H hv hn (by omega) (by omega) hT.room hT.len i hi ho).mono ?_
        rintro e w' ⟨rfl, N, h2⟩
        refine ⟨by rw [← hE, e0]; rfl, N, ?_⟩
        have e1 : T' = { T with all := T.all.set i ⟨h, n, l⟩ } := by rw [← hT']; unfold takeT; rw [if_pos e0]; simp only [hi]
        rw [e1]
        exact h2
    | none =>
      by_cases ho : T.room ≤ T.all.length
      · exact stay 8 (by unfold takeE; rw [if_neg (by simp [hn]), if_neg h8, if_neg hm]; simp only [hi]; rw [if_pos ho]) (by omega) (take_full p T h n _ l w w0 C X K H hv hn (by omega) (by omega) hi ho)
      · have e0 : takeE T ⟨h, n, l⟩ = 0 := by unfold takeE; rw [if_neg (by simp [hn]), if_neg h8, if_neg hm]; simp only [hi]; rw [if_neg ho]
        refine (take_add p T h n _ l w w0 C X K H hv hn (by omega) (by omega) hi hT.room ho).mono ?_
        rintro e w' ⟨rfl, N, h2⟩
        refine ⟨by rw [← hE, e0]; rfl, N, ?_⟩
        have e1 : T' = { T with all := T.all ++ [⟨h, n, l⟩] } := by rw [← hT']; unfold takeT; rw [if_pos e0]; simp only [hi]
        rw [e1]
        exact h2

/-- A pair whose first is known by a property. -/
def TupP (Φ : Pred) (c : Value) : Pred := fun v W => ∃ u, v = .tuple #[u, c] ∧ Φ u W
theorem stays_tup {Φ : Pred} (h : Stays Φ) (c : Value) : Stays (TupP Φ c) := fun v w w' hx ⟨u, h1, h2⟩ => ⟨u, h1, h u w w' hx h2⟩
section
variable {P : Program} {ops : Array Oper} {w0 : World} {Q : Slots → Prop} {a : Act} {R : List (Tmp × Pred)} {o : Oper} {rest : List Oper}
theorem B_ext0 {Φ : Pred} (hΦ : Stays Φ) {c : Value} {d s : Tmp} (ho : o.op = .extract (.tmp s) 0) (hd : o.dst = some d) (hs : relAt R s = some (TupP Φ c))
    (hB : (sideC ops R a o && noSel o && (o.looksAt ops).all (fun t => t == s || (relAt R t).isNone) && (o.looksAt ops).contains s && decide (s < a.tmps.size)) = true)
    (hr : wpS P ops w0 Q rest (mix a ((d, Φ) :: R))) : wpS P ops w0 Q (o :: rest) (mix a R) := by
  have hsz : s < a.tmps.size := by
    simp only [Bool.and_eq_true, decide_eq_true_eq] at hB; exact hB.2
  refine B_makeR Φ hΦ hd hs hB (fun x u hu => ?_) hr
  obtain ⟨v, rfl, hv⟩ := hu
  exact ⟨v, _, by simp [execOp, ho, Act.eval, Act.put, hsz, Instr.extract, Result.andThen], Ext.refl _, hv⟩
theorem B_ext1 {Φ : Pred} {c : Value} {d s : Tmp} (ho : o.op = .extract (.tmp s) 1) (hd : o.dst = some d) (hs : relAt R s = some (TupP Φ c))
    (hB : (sideC ops R a o && noSel o && (o.looksAt ops).all (fun t => t == s || (relAt R t).isNone) && (o.looksAt ops).contains s && decide (s < a.tmps.size)) = true)
    (hdn : ((relAt R d).isNone && decide (d < a.tmps.size)) = true)
    (hr : wpS P ops w0 Q rest (mix (a.put o.dst c) R)) : wpS P ops w0 Q (o :: rest) (mix a R) := by
  have hsz : s < a.tmps.size := by
    simp only [Bool.and_eq_true, decide_eq_true_eq] at hB; exact hB.2
  refine B_exactR c hd hs hB hdn (fun u W hu => ?_) hr
  obtain ⟨v, rfl, hv⟩ := hu
  simp [execOp, ho, Act.eval, Act.put, hsz, Instr.extract, Result.andThen]
end

theorem see_nil (x : BitVec 64) (base : Int) (w : World) : Calls Try.prog 22 #[.pointer none, .agg #[.int .u8 (by8 x 0), .int .u8 (by8 x 1), .int .u8 (by8 x 2), .int .u8 (by8 x 3), .int .u8 (by8 x 4), .int .u8 (by8 x 5), .int .u8 (by8 x 6), .int .u8 (by8 x 7)], .int .i64 base] w fun e w' => e = .returned (.tuple #[.slice none 0 0, .bool false]) ∧ Below w.heap.size w w' := by
  go_enter Try.func22, Try.ntmps22
  go_wp2
  refine bodyPost_ret (v := .tuple #[.slice none 0 0, .bool false]) (by simp [results, Try.results22, go_sem]) rfl ⟨rfl, by (repeat' (first | (with_reducible exact Below.refl _ _) | (with_reducible refine bplus ?_ _ _) | (with_reducible refine balloc ?_ _) | (with_reducible refine Below.drew ?_) | (with_reducible refine bdrewN ?_ _) | (with_reducible refine Below.setCell ?_ (by go_size) _)))⟩
set_option maxRecDepth 100000 in
set_option maxHeartbeats 2000000 in
theorem see_none (p : Nat) (T : TWS) (x h : BitVec 64) (hx : thintF x = h) (base : Int) (w w0 : World) (C X : List Blk) (K : List (Nat × Obj)) (H : Tw w w0 C X K p T) (hi : idx T.all h = none) :
    Calls Try.prog 22 #[tptr p, .agg #[.int .u8 (by8 x 0), .int .u8 (by8 x 1), .int .u8 (by8 x 2), .int .u8 (by8 x 3), .int .u8 (by8 x 4), .int .u8 (by8 x 5), .int .u8 (by8 x 6), .int .u8 (by8 x 7)], .int .i64 base] w fun e w' => e = .returned (.tuple #[.slice none 0 0, .bool false]) ∧ Below w.heap.size w w' := by
  obtain ⟨tv, m, es, ck, R, vs, O, D⟩ := H.open_
  have HB := O.blk (List.mem_cons_self ..)
  have lt := HB.lt
  have c1 : w.cell? ⟨p, 1, none⟩ = some tv := HB.cell 1
  have c2 : w.cell? ⟨p, 2, none⟩ = some (.map (some m)) := HB.cell 2
  have HO := Lib.hid (O.alloc (.cells #[.int .u8 (by8 x 0), .int .u8 (by8 x 1), .int .u8 (by8 x 2), .int .u8 (by8 x 3), .int .u8 (by8 x 4), .int .u8 (by8 x 5), .int .u8 (by8 x 6), .int .u8 (by8 x 7)] 27))
  have HD := Lib.hid D
  have HHH := Lib.hid hx
  clear HB H hx
  have HI : Hid (idxV T.all h = none) := by show _ = _; unfold idxV; rw [hi]; rfl
  obtain ⟨ak, kcap, rfl⟩ := D.row.slice
  clear O D
  go_enter Try.func22, Try.ntmps22
  go_wp2_with fail
  refine wp_region_rq (by kernel_rfl) (by kernel_rfl) (by kernel_rfl) ?_
  repeat (first
    | (refine B_skip ?_ ?_; (· rfl); (try simp only [Act.put, List.setIfInBounds_toArray, List.set_cons_zero, List.set_cons_succ]))
    | (refine B_move rfl ?_ ?_; (· rfl); (try simp only [Act.eval, Act.put, Array.getD_eq_getD_getElem?, List.getElem?_toArray, List.getElem?_cons_succ, List.getElem?_cons_zero, Option.getD_some, List.setIfInBounds_toArray, List.set_cons_zero, List.set_cons_succ]))
    | (refine B_plain ?_ ?_; (· rfl); intro K hK; go_big_quiet_op; with_reducible refine hK _ ?_; clear hK K)
    | (refine B_nilck rfl rfl ?_ ?_; (· rfl); (try simp only [Act.put, List.setIfInBounds_toArray, List.set_cons_zero, List.set_cons_succ]))
    | (refine B_callX (v := ?_) (f := 18) rfl (by kernel_rfl) ?_ (fun xq => ?_) ?_; rotate_left; (· rfl); (· ((simp only [List.map_toArray, List.map_cons, List.map_nil, Act.eval, Array.getD_eq_getD_getElem?, List.getElem?_toArray, List.getElem?_cons_succ, List.getElem?_cons_zero, Option.getD_some]); with_reducible apply retB; with_reducible exact (hint_to x h HHH.out _))); (try simp only [Act.put, List.setIfInBounds_toArray, List.set_cons_zero, List.set_cons_succ]))
    | (refine B_look2 HD.out.map mapI (HO.out.has _ (List.mem_cons_self ..)) (.tmp 18) (.tmp 20) rfl (by rfl) h (by rfl) vz_int (.tuple #[.int .i64 0, .bool false]) (by rw [HI.out]; rfl) rfl ?_ ?_ ?_; (· rfl); (· rfl); (try simp only [Act.put, List.setIfInBounds_toArray, List.set_cons_zero, List.set_cons_succ])))
  refine B_nil ?_ rfl ?_ ?_
  · kernel_rfl
  · rfl
  rintro _ ⟨⟨g1, d1⟩, rfl⟩
  simp only [fin, Act.put, List.setIfInBounds_toArray, List.set_cons_zero, List.set_cons_succ]
  go_wp2
  refine bodyPost_ret (v := .tuple #[.slice none 0 0, .bool false]) (by simp [results, Try.results22, go_sem]) rfl ⟨rfl, by (repeat' (first | (with_reducible exact Below.refl _ _) | (with_reducible refine bplus ?_ _ _) | (with_reducible refine balloc ?_ _) | (with_reducible refine Below.drew ?_) | (with_reducible refine bdrewN ?_ _) | (with_reducible refine Below.setCell ?_ (by go_size) _)))⟩
set_option maxRecDepth 100000 in
set_option maxHeartbeats 2000000 in
theorem see_old (p : Nat) (T : TWS) (x h : BitVec 64) (hx : thintF x = h) (base : Int) (w w0 : World) (C X : List Blk) (K : List (Nat × Obj)) (H : Tw w w0 C X K p T) (i : Nat) (hi : idx T.all h = some i) (ho : (T.all.getD i default).n ≤ base) :
    Calls Try.prog 22 #[tptr p, .agg #[.int .u8 (by8 x 0), .int .u8 (by8 x 1), .int .u8 (by8 x 2), .int .u8 (by8 x 3), .int .u8 (by8 x 4), .int .u8 (by8 x 5), .int .u8 (by8 x 6), .int .u8 (by8 x 7)], .int .i64 base] w fun e w' => e = .returned (.tuple #[.slice none 0 0, .bool false]) ∧ Below w.heap.size w w' := by
  obtain ⟨tv, m, es, ck, R, vs, O, D⟩ := H.open_
  have HB := O.blk (List.mem_cons_self ..)
  have lt := HB.lt
  have c1 : w.cell? ⟨p, 1, none⟩ = some tv := HB.cell 1
  have c2 : w.cell? ⟨p, 2, none⟩ = some (.map (some m)) := HB.cell 2
  have HO := Lib.hid (O.alloc (.cells #[.int .u8 (by8 x 0), .int .u8 (by8 x 1), .int .u8 (by8 x 2), .int .u8 (by8 x 3), .int .u8 (by8 x 4), .int .u8 (by8 x 5), .int .u8 (by8 x 6), .int .u8 (by8 x 7)] 27))
  have HD := Lib.hid D
  have HHH := Lib.hid hx
  clear HB H hx
  have HI : Hid (idxV T.all h = some (.int .i64 (i : Int))) := by show _ = _; unfold idxV; rw [hi]; rfl
  obtain ⟨hlt, -⟩ := idx_some hi
  obtain ⟨r, kcap, cur, rfl, hkc, -, rfl, -, -, HR, hcell⟩ := D.at_ (C := [_]) O hlt
  have rl := HR.lt
  have c8 : w.cell? ⟨r, i * 10 + 8, none⟩ = some (.int .i64 (T.all.getD i default).n) := by rw [HR.cell]; exact hcell 8 (by omega)
  have c9 : w.cell? ⟨r, i * 10 + 9, none⟩ = some (vs.getD i undef) := by rw [HR.cell]; exact hcell 9 (by omega)
  obtain ⟨nn, hnn⟩ : ∃ z, (T.all.getD i default).n = z := ⟨_, rfl⟩
  rw [hnn] at c8 ho
  have hd3 : decide (nn ≤ base) = true := decide_eq_true ho
  clear HR hcell O D hnn c9
  go_enter Try.func22, Try.ntmps22
  go_wp2_with fail
  refine wp_region_rq (by kernel_rfl) (by kernel_rfl) (by kernel_rfl) ?_
  repeat (first
    | (refine B_skip ?_ ?_; (· rfl); (try simp only [Act.put, List.setIfInBounds_toArray, List.set_cons_zero, List.set_cons_succ]))
    | (refine B_move rfl ?_ ?_; (· rfl); (try simp only [Act.eval, Act.put, Array.getD_eq_getD_getElem?, List.getElem?_toArray, List.getElem?_cons_succ, List.getElem?_cons_zero, Option.getD_some, List.setIfInBounds_toArray, List.set_cons_zero, List.set_cons_succ]))
    | (refine B_plain ?_ ?_; (· rfl); intro K hK; go_big_quiet_op; with_reducible refine hK _ ?_; clear hK K)
    | (refine B_nilck rfl rfl ?_ ?_; (· rfl); (try simp only [Act.put, List.setIfInBounds_toArray, List.set_cons_zero, List.set_cons_succ]))
    | (refine B_callX (v := ?_) (f := 18) rfl (by kernel_rfl) ?_ (fun xq => ?_) ?_; rotate_left; (· rfl); (· ((simp only [List.map_toArray, List.map_cons, List.map_nil, Act.eval, Array.getD_eq_getD_getElem?, List.getElem?_toArray, List.getElem?_cons_succ, List.getElem?_cons_zero, Option.getD_some]); with_reducible apply retB; with_reducible exact (hint_to x h HHH.out _))); (try simp only [Act.put, List.setIfInBounds_toArray, List.set_cons_zero, List.set_cons_succ]))
    | (refine B_look2 HD.out.map mapI (HO.out.has _ (List.mem_cons_self ..)) (.tmp 18) (.tmp 20) rfl (by rfl) h (by rfl) vz_int (.tuple #[.int .i64 (i : Int), .bool true]) (by rw [HI.out]; rfl) rfl ?_ ?_ ?_; (· rfl); (· rfl); (try simp only [Act.put, List.setIfInBounds_toArray, List.set_cons_zero, List.set_cons_succ])))
  refine B_nil ?_ rfl ?_ ?_
  · kernel_rfl
  · rfl
  rintro _ ⟨⟨g1, d1⟩, rfl⟩
  simp only [fin, Act.put, List.setIfInBounds_toArray, List.set_cons_zero, List.set_cons_succ]
  go_wp2
  refine bodyPost_ret (v := .tuple #[.slice none 0 0, .bool false]) (by simp [results, Try.results22, go_sem]) rfl ⟨rfl, by (repeat' (first | (with_reducible exact Below.refl _ _) | (with_reducible refine bplus ?_ _ _) | (with_reducible refine balloc ?_ _) | (with_reducible refine Below.drew ?_) | (with_reducible refine bdrewN ?_ _) | (with_reducible refine Below.setCell ?_ (by go_size) _)))⟩
set_option maxRecDepth 100000 in
set_option maxHeartbeats 4000000 in
theorem see_shut (p : Nat) (T : TWS) (x h : BitVec 64) (hx : thintF x = h) (base : Int) (w w0 : World) (C X : List Blk) (K : List (Nat × Obj)) (H : Tw w w0 C X K p T) (i : Nat) (hi : idx T.all h = some i) (ho : ¬ (T.all.getD i default).n ≤ base) (hlen : ∀ j, j < T.all.length → (T.all.getD j default).l.length ≤ 32776) (l : List UInt8) (er : Nat) (her : er ≠ 0) (hop : openF (tkeyF x) (T.all.getD i default).l = (l, er)) :
    Calls Try.prog 22 #[tptr p, .agg #[.int .u8 (by8 x 0), .int .u8 (by8 x 1), .int .u8 (by8 x 2), .int .u8 (by8 x 3), .int .u8 (by8 x 4), .int .u8 (by8 x 5), .int .u8 (by8 x 6), .int .u8 (by8 x 7)], .int .i64 base] w fun e w' => e = .returned (.tuple #[.slice none 0 0, .bool false]) ∧ Below w.heap.size w w' := by
  have hne : ((er : Int) == 0) = false := by rw [beq_eq_false_iff_ne]; omega
  obtain ⟨tv, m, es, ck, R, vs, O, D⟩ := H.open_
  have HB := O.blk (List.mem_cons_self ..)
  have lt := HB.lt
  have c1 : w.cell? ⟨p, 1, none⟩ = some tv := HB.cell 1
  have c2 : w.cell? ⟨p, 2, none⟩ = some (.map (some m)) := HB.cell 2
  have HO := Lib.hid (O.alloc (.cells #[.int .u8 (by8 x 0), .int .u8 (by8 x 1), .int .u8 (by8 x 2), .int .u8 (by8 x 3), .int .u8 (by8 x 4), .int .u8 (by8 x 5), .int .u8 (by8 x 6), .int .u8 (by8 x 7)] 27))
  have HD := Lib.hid D
  have HHH := Lib.hid hx
  clear HB H hx
  have HI : Hid (idxV T.all h = some (.int .i64 (i : Int))) := by show _ = _; unfold idxV; rw [hi]; rfl
  obtain ⟨hlt, -⟩ := idx_some hi
  obtain ⟨r, kcap, cur, rfl, hkc, -, rfl, -, -, HR, hcell⟩ := D.at_ (C := [_]) O hlt
  have rl := HR.lt
  have c8 : w.cell? ⟨r, i * 10 + 8, none⟩ = some (.int .i64 (T.all.getD i default).n) := by rw [HR.cell]; exact hcell 8 (by omega)
  have c9 : w.cell? ⟨r, i * 10 + 9, none⟩ = some (vs.getD i undef) := by rw [HR.cell]; exact hcell 9 (by omega)
  obtain ⟨nn, hnn⟩ : ∃ z, (T.all.getD i default).n = z := ⟨_, rfl⟩
  rw [hnn] at c8 ho
  obtain ⟨bv, hbv, hm⟩ := D.box.get i (by simpa using hlt)
  have hbx : (T.all.map (·.l)).getD i [] = (T.all.getD i default).l := by
    rw [List.getD_eq_getElem?_getD, List.getD_eq_getElem?_getD, List.getElem?_map, List.getElem?_eq_getElem hlt]; rfl
  rw [hbx] at hm
  have hbv2 : vs.getD i undef = bv := by rw [List.getD_eq_getElem?_getD, hbv]; rfl
  rw [hbv2] at c9
  obtain ⟨bl, hbl⟩ : ∃ z, (T.all.getD i default).l = z := ⟨_, rfl⟩
  rw [hbl] at hm hop
  have hml := hlen _ hlt
  rw [hbl] at hml
  obtain ⟨ab, cb, rfl⟩ := hm.slice
  have HBS := Lib.hid (hm.bsl O.ow (sub_cnt fun x => by simp only [cnt_append, cnt_cons, cnt_nil]; omega))
  obtain ⟨k, HK⟩ : ∃ k, Hid (tkeyF x = k) := ⟨_, rfl⟩
  have HOP : Hid (openF k bl = (l, er)) := by show _ = _; rw [← HK.out]; exact hop
  have hd3 : decide (nn ≤ base) = false := decide_eq_false ho
  clear HR hcell O D hnn hbv hm hbx hbv2 hbl hop
  go_enter Try.func22, Try.ntmps22
  go_wp2_with fail
  refine wp_region_rq (by kernel_rfl) (by kernel_rfl) (by kernel_rfl) ?_
  repeat (first
    | (refine B_skip ?_ ?_; (· rfl); (try simp only [Act.put, List.setIfInBounds_toArray, List.set_cons_zero, List.set_cons_succ]))
    | (refine B_move rfl ?_ ?_; (· rfl); (try simp only [Act.eval, Act.put, Array.getD_eq_getD_getElem?, List.getElem?_toArray, List.getElem?_cons_succ, List.getElem?_cons_zero, Option.getD_some, List.setIfInBounds_toArray, List.set_cons_zero, List.set_cons_succ]))
    | (refine B_plain ?_ ?_; (· rfl); intro K hK; go_big_quiet_op; with_reducible refine hK _ ?_; clear hK K)
    | (refine B_nilck rfl rfl ?_ ?_; (· rfl); (try simp only [Act.put, List.setIfInBounds_toArray, List.set_cons_zero, List.set_cons_succ]))
    | (refine B_callX (v := ?_) (f := 18) rfl (by kernel_rfl) ?_ (fun xq => ?_) ?_; rotate_left; (· rfl); (· ((simp only [List.map_toArray, List.map_cons, List.map_nil, Act.eval, Array.getD_eq_getD_getElem?, List.getElem?_toArray, List.getElem?_cons_succ, List.getElem?_cons_zero, Option.getD_some]); with_reducible apply retB; with_reducible exact (hint_to x h HHH.out _))); (try simp only [Act.put, List.setIfInBounds_toArray, List.set_cons_zero, List.set_cons_succ]))
    | (refine B_look2 HD.out.map mapI (HO.out.has _ (List.mem_cons_self ..)) (.tmp 18) (.tmp 20) rfl (by rfl) h (by rfl) vz_int (.tuple #[.int .i64 (i : Int), .bool true]) (by rw [HI.out]; rfl) rfl ?_ ?_ ?_; (· rfl); (· rfl); (try simp only [Act.put, List.setIfInBounds_toArray, List.set_cons_zero, List.set_cons_succ])))
  refine B_nil ?_ rfl ?_ ?_
  · kernel_rfl
  · rfl
  rintro _ ⟨⟨g1, d1⟩, rfl⟩
  simp only [fin, Act.put, List.setIfInBounds_toArray, List.set_cons_zero, List.set_cons_succ]
  have T3 : Hid (∀ g d, Calls Try.prog 64 #[.agg #[.int .u8 (by8 k 0), .int .u8 (by8 k 1), .int .u8 (by8 k 2), .int .u8 (by8 k 3), .int .u8 (by8 k 4), .int .u8 (by8 k 5), .int .u8 (by8 k 6), .int .u8 (by8 k 7)], .slice ab bl.length cb] (plus (plus (w.alloc (.cells #[.int .u8 (by8 x 0), .int .u8 (by8 x 1), .int .u8 (by8 x 2), .int .u8 (by8 x 3), .int .u8 (by8 x 4), .int .u8 (by8 x 5), .int .u8 (by8 x 6), .int .u8 (by8 x 7)] 27)) g1 d1) g d) fun e w' => ∃ u, e = .returned u ∧ Below (plus (plus (w.alloc (.cells #[.int .u8 (by8 x 0), .int .u8 (by8 x 1), .int .u8 (by8 x 2), .int .u8 (by8 x 3), .int .u8 (by8 x 4), .int .u8 (by8 x 5), .int .u8 (by8 x 6), .int .u8 (by8 x 7)] 27)) g1 d1) g d).heap.size (plus (plus (w.alloc (.cells #[.int .u8 (by8 x 0), .int .u8 (by8 x 1), .int .u8 (by8 x 2), .int .u8 (by8 x 3), .int .u8 (by8 x 4), .int .u8 (by8 x 5), .int .u8 (by8 x 6), .int .u8 (by8 x 7)] 27)) g1 d1) g d) w' ∧ TupP (Ans w.heap.size l) (.int .i64 er) u w') := fun g d => by
    refine (open_any k _ bl (by omega) l er HOP.out _ (((HBS.out.alloc _).plus g1 d1).plus g d)).mono ?_
    rintro e w' ⟨u, h1, h2, h3⟩
    exact ⟨_, h1, h2, u, rfl, h3.base (by simp; omega)⟩
  go_wp2_with fail
  refine wp_region_rq (by kernel_rfl) (by kernel_rfl) (by kernel_rfl) ?_
  repeat (first
    | (refine B_skip ?_ ?_; (· rfl); (try simp only [Act.put, List.setIfInBounds_toArray, List.set_cons_zero, List.set_cons_succ]))
    | (refine B_move rfl ?_ ?_; (· rfl); (try simp only [Act.eval, Act.put, Array.getD_eq_getD_getElem?, List.getElem?_toArray, List.getElem?_cons_succ, List.getElem?_cons_zero, Option.getD_some, List.setIfInBounds_toArray, List.set_cons_zero, List.set_cons_succ]))
    | (refine B_plain ?_ ?_; (· rfl); intro K hK; go_big_quiet_op; with_reducible refine hK _ ?_; clear hK K)
    | (refine B_nilck rfl rfl ?_ ?_; (· rfl); (try simp only [Act.put, List.setIfInBounds_toArray, List.set_cons_zero, List.set_cons_succ]))
    | (refine B_callX (v := ?_) (f := 58) rfl (by kernel_rfl) ?_ (fun xq => ?_) ?_; rotate_left; (· rfl); (· ((simp only [List.map_toArray, List.map_cons, List.map_nil, Act.eval, Array.getD_eq_getD_getElem?, List.getElem?_toArray, List.getElem?_cons_succ, List.getElem?_cons_zero, Option.getD_some]); with_reducible apply retB; with_reducible exact (tkey_to x k HK.out _))); (try simp only [Act.put, List.setIfInBounds_toArray, List.set_cons_zero, List.set_cons_succ]))
    | (refine B_callR (TupP (Ans w.heap.size l) (.int .i64 er)) (stays_tup (stays_ans _ _) _) (f := 64) rfl rfl (by kernel_rfl) ?_ (fun xq => ?_) ?_; (· rfl); (· ((simp only [List.map_toArray, List.map_cons, List.map_nil, Act.eval, Array.getD_eq_getD_getElem?, List.getElem?_toArray, List.getElem?_cons_succ, List.getElem?_cons_zero, Option.getD_some]); (with_reducible apply retR); with_reducible exact T3.out _ _)))
    | (refine B_moveR (TupP (Ans w.heap.size l) (.int .i64 er)) (stays_tup (stays_ans _ _) _) rfl (.inl rfl) rfl ?_ ?_; (· rfl))
    | (refine B_ext0 (stays_ans _ _) rfl rfl rfl ?_ ?_; (· rfl))
    | (refine B_ext1 rfl rfl rfl ?_ ?_ ?_; (· rfl); (· rfl); (try simp only [Act.put, List.setIfInBounds_toArray, List.set_cons_zero, List.set_cons_succ]))
    | (refine B_moveR (Ans w.heap.size l) (stays_ans _ _) rfl (.inr rfl) rfl ?_ ?_; (· rfl)))
  refine B_nil ?_ rfl ?_ ?_
  · kernel_rfl
  · rfl
  rintro _ ⟨⟨g2, d2⟩, rfl⟩
  simp only [fin, Act.put, List.setIfInBounds_toArray, List.set_cons_zero, List.set_cons_succ]
  intros
  go_wp2
  refine bodyPost_ret (v := .tuple #[.slice none 0 0, .bool false]) (by simp [results, Try.results22, go_sem]) rfl ⟨rfl, by (repeat' (first | (with_reducible exact Below.refl _ _) | (with_reducible refine bplus ?_ _ _) | (with_reducible refine balloc ?_ _) | (with_reducible refine Below.drew ?_) | (with_reducible refine bdrewN ?_ _) | (with_reducible refine Below.setCell ?_ (by go_size) _)))⟩
set_option maxRecDepth 100000 in
set_option maxHeartbeats 4000000 in
theorem see_yes (p : Nat) (T : TWS) (x h : BitVec 64) (hx : thintF x = h) (base : Int) (w w0 : World) (C X : List Blk) (K : List (Nat × Obj)) (H : Tw w w0 C X K p T) (i : Nat) (hi : idx T.all h = some i) (ho : ¬ (T.all.getD i default).n ≤ base) (hlen : ∀ j, j < T.all.length → (T.all.getD j default).l.length ≤ 32776) (l : List UInt8) (er : Nat) (her : er = 0) (hop : openF (tkeyF x) (T.all.getD i default).l = (l, er)) :
    Calls Try.prog 22 #[tptr p, .agg #[.int .u8 (by8 x 0), .int .u8 (by8 x 1), .int .u8 (by8 x 2), .int .u8 (by8 x 3), .int .u8 (by8 x 4), .int .u8 (by8 x 5), .int .u8 (by8 x 6), .int .u8 (by8 x 7)], .int .i64 base] w fun e w' => ∃ u, e = .returned (.tuple #[u, .bool true]) ∧ Below w.heap.size w w' ∧ Ans w.heap.size l u w' := by
  obtain ⟨tv, m, es, ck, R, vs, O, D⟩ := H.open_
  have HB := O.blk (List.mem_cons_self ..)
  have lt := HB.lt
  have c1 : w.cell? ⟨p, 1, none⟩ = some tv := HB.cell 1
  have c2 : w.cell? ⟨p, 2, none⟩ = some (.map (some m)) := HB.cell 2
  have HO := Lib.hid (O.alloc (.cells #[.int .u8 (by8 x 0), .int .u8 (by8 x 1), .int .u8 (by8 x 2), .int .u8 (by8 x 3), .int .u8 (by8 x 4), .int .u8 (by8 x 5), .int .u8 (by8 x 6), .int .u8 (by8 x 7)] 27))
  have HD := Lib.hid D
  have HHH := Lib.hid hx
  clear HB H hx
  have HI : Hid (idxV T.all h = some (.int .i64 (i : Int))) := by show _ = _; unfold idxV; rw [hi]; rfl
  obtain ⟨hlt, -⟩ := idx_some hi
  obtain ⟨r, kcap, cur, rfl, hkc, -, rfl, -, -, HR, hcell⟩ := D.at_ (C := [_]) O hlt
  have rl := HR.lt
  have c8 : w.cell? ⟨r, i * 10 + 8, none⟩ = some (.int .i64 (T.all.getD i default).n) := by rw [HR.cell]; exact hcell 8 (by omega)
  have c9 : w.cell? ⟨r, i * 10 + 9, none⟩ = some (vs.getD i undef) := by rw [HR.cell]; exact hcell 9 (by omega)
  obtain ⟨nn, hnn⟩ : ∃ z, (T.all.getD i default).n = z := ⟨_, rfl⟩
  rw [hnn] at c8 ho
  subst her
  obtain ⟨er, her⟩ : ∃ er : Nat, er = 0 := ⟨0, rfl⟩
  rw [← her] at hop
  obtain ⟨bv, hbv, hm⟩ := D.box.get i (by simpa using hlt)
  have hbx : (T.all.map (·.l)).getD i [] = (T.all.getD i default).l := by
    rw [List.getD_eq_getElem?_getD, List.getD_eq_getElem?_getD, List.getElem?_map, List.getElem?_eq_getElem hlt]; rfl
  rw [hbx] at hm
  have hbv2 : vs.getD i undef = bv := by rw [List.getD_eq_getElem?_getD, hbv]; rfl
  rw [hbv2] at c9
  obtain ⟨bl, hbl⟩ : ∃ z, (T.all.getD i default).l = z := ⟨_, rfl⟩
  rw [hbl] at hm hop
  have hml := hlen _ hlt
  rw [hbl] at hml
  obtain ⟨ab, cb, rfl⟩ := hm.slice
  have HBS := Lib.hid (hm.bsl O.ow (sub_cnt fun x => by simp only [cnt_append, cnt_cons, cnt_nil]; omega))
  obtain ⟨k, HK⟩ : ∃ k, Hid (tkeyF x = k) := ⟨_, rfl⟩
  have HOP : Hid (openF k bl = (l, er)) := by show _ = _; rw [← HK.out]; exact hop
  have hd3 : decide (nn ≤ base) = false := decide_eq_false ho
  clear HR hcell O D hnn hbv hm hbx hbv2 hbl hop
  go_enter Try.func22, Try.ntmps22
  go_wp2_with fail
  refine wp_region_rq (by kernel_rfl) (by kernel_rfl) (by kernel_rfl) ?_
  repeat (first
    | (refine B_skip ?_ ?_; (· rfl); (try simp only [Act.put, List.setIfInBounds_toArray, List.set_cons_zero, List.set_cons_succ]))
    | (refine B_move rfl ?_ ?_; (· rfl); (try simp only [Act.eval, Act.put, Array.getD_eq_getD_getElem?, List.getElem?_toArray, List.getElem?_cons_succ, List.getElem?_cons_zero, Option.getD_some, List.setIfInBounds_toArray, List.set_cons_zero, List.set_cons_succ]))
    | (refine B_plain ?_ ?_; (· rfl); intro K hK; go_big_quiet_op; with_reducible refine hK _ ?_; clear hK K)
    | (refine B_nilck rfl rfl ?_ ?_; (· rfl); (try simp only [Act.put, List.setIfInBounds_toArray, List.set_cons_zero, List.set_cons_succ]))
    | (refine B_callX (v := ?_) (f := 18) rfl (by kernel_rfl) ?_ (fun xq => ?_) ?_; rotate_left; (· rfl); (· ((simp only [List.map_toArray, List.map_cons, List.map_nil, Act.eval, Array.getD_eq_getD_getElem?, List.getElem?_toArray, List.getElem?_cons_succ, List.getElem?_cons_zero, Option.getD_some]); with_reducible apply retB; with_reducible exact (hint_to x h HHH.out _))); (try simp only [Act.put, List.setIfInBounds_toArray, List.set_cons_zero, List.set_cons_succ]))
    | (refine B_look2 HD.out.map mapI (HO.out.has _ (List.mem_cons_self ..)) (.tmp 18) (.tmp 20) rfl (by rfl) h (by rfl) vz_int (.tuple #[.int .i64 (i : Int), .bool true]) (by rw [HI.out]; rfl) rfl ?_ ?_ ?_; (· rfl); (· rfl); (try simp only [Act.put, List.setIfInBounds_toArray, List.set_cons_zero, List.set_cons_succ])))
  refine B_nil ?_ rfl ?_ ?_
  · kernel_rfl
  · rfl
  rintro _ ⟨⟨g1, d1⟩, rfl⟩
  simp only [fin, Act.put, List.setIfInBounds_toArray, List.set_cons_zero, List.set_cons_succ]
  have T3 : Hid (∀ g d, Calls Try.prog 64 #[.agg #[.int .u8 (by8 k 0), .int .u8 (by8 k 1), .int .u8 (by8 k 2), .int .u8 (by8 k 3), .int .u8 (by8 k 4), .int .u8 (by8 k 5), .int .u8 (by8 k 6), .int .u8 (by8 k 7)], .slice ab bl.length cb] (plus (plus (w.alloc (.cells #[.int .u8 (by8 x 0), .int .u8 (by8 x 1), .int .u8 (by8 x 2), .int .u8 (by8 x 3), .int .u8 (by8 x 4), .int .u8 (by8 x 5), .int .u8 (by8 x 6), .int .u8 (by8 x 7)] 27)) g1 d1) g d) fun e w' => ∃ u, e = .returned u ∧ Below (plus (plus (w.alloc (.cells #[.int .u8 (by8 x 0), .int .u8 (by8 x 1), .int .u8 (by8 x 2), .int .u8 (by8 x 3), .int .u8 (by8 x 4), .int .u8 (by8 x 5), .int .u8 (by8 x 6), .int .u8 (by8 x 7)] 27)) g1 d1) g d).heap.size (plus (plus (w.alloc (.cells #[.int .u8 (by8 x 0), .int .u8 (by8 x 1), .int .u8 (by8 x 2), .int .u8 (by8 x 3), .int .u8 (by8 x 4), .int .u8 (by8 x 5), .int .u8 (by8 x 6), .int .u8 (by8 x 7)] 27)) g1 d1) g d) w' ∧ TupP (Ans w.heap.size l) (.int .i64 er) u w') := fun g d => by
    refine (open_any k _ bl (by omega) l er HOP.out _ (((HBS.out.alloc _).plus g1 d1).plus g d)).mono ?_
    rintro e w' ⟨u, h1, h2, h3⟩
    exact ⟨_, h1, h2, u, rfl, h3.base (by simp; omega)⟩
  go_wp2_with fail
  refine wp_region_rq (by kernel_rfl) (by kernel_rfl) (by kernel_rfl) ?_
  repeat (first
    | (refine B_skip ?_ ?_; (· rfl); (try simp only [Act.put, List.setIfInBounds_toArray, List.set_cons_zero, List.set_cons_succ]))
    | (refine B_move rfl ?_ ?_; (· rfl); (try simp only [Act.eval, Act.put, Array.getD_eq_getD_getElem?, List.getElem?_toArray, List.getElem?_cons_succ, List.getElem?_cons_zero, Option.getD_some, List.setIfInBounds_toArray, List.set_cons_zero, List.set_cons_succ]))
    | (refine B_plain ?_ ?_; (· rfl); intro K hK; go_big_quiet_op; with_reducible refine hK _ ?_; clear hK K)
    | (refine B_nilck rfl rfl ?_ ?_; (· rfl); (try simp only [Act.put, List.setIfInBounds_toArray, List.set_cons_zero, List.set_cons_succ]))
    | (refine B_callX (v := ?_) (f := 58) rfl (by kernel_rfl) ?_ (fun xq => ?_) ?_; rotate_left; (· rfl); (· ((simp only [List.map_toArray, List.map_cons, List.map_nil, Act.eval, Array.getD_eq_getD_getElem?, List.getElem?_toArray, List.getElem?_cons_succ, List.getElem?_cons_zero, Option.getD_some]); with_reducible apply retB; with_reducible exact (tkey_to x k HK.out _))); (try simp only [Act.put, List.setIfInBounds_toArray, List.set_cons_zero, List.set_cons_succ]))
    | (refine B_callR (TupP (Ans w.heap.size l) (.int .i64 er)) (stays_tup (stays_ans _ _) _) (f := 64) rfl rfl (by kernel_rfl) ?_ (fun xq => ?_) ?_; (· rfl); (· ((simp only [List.map_toArray, List.map_cons, List.map_nil, Act.eval, Array.getD_eq_getD_getElem?, List.getElem?_toArray, List.getElem?_cons_succ, List.getElem?_cons_zero, Option.getD_some]); (with_reducible apply retR); with_reducible exact T3.out _ _)))
    | (refine B_moveR (TupP (Ans w.heap.size l) (.int .i64 er)) (stays_tup (stays_ans _ _) _) rfl (.inl rfl) rfl ?_ ?_; (· rfl))
    | (refine B_ext0 (stays_ans _ _) rfl rfl rfl ?_ ?_; (· rfl))
    | (refine B_ext1 rfl rfl rfl ?_ ?_ ?_; (· rfl); (· rfl); (try simp only [Act.put, List.setIfInBounds_toArray, List.set_cons_zero, List.set_cons_succ]))
    | (refine B_moveR (Ans w.heap.size l) (stays_ans _ _) rfl (.inr rfl) rfl ?_ ?_; (· rfl)))
  refine B_nil ?_ rfl ?_ ?_
  · kernel_rfl
  · rfl
  rintro _ ⟨⟨g2, d2⟩, rfl⟩
  simp only [fin, Act.put, List.setIfInBounds_toArray, List.set_cons_zero, List.set_cons_succ]
  subst her
  intro u10 hu10 _ _ _ _ _ _
  have HU := Lib.hid hu10
  clear hu10
  go_wp2
  refine bodyPost_ret (v := .tuple #[u10, .bool true]) (by simp [results, Try.results22, go_sem]) rfl ⟨_, rfl, by (repeat' (first | (with_reducible exact Below.refl _ _) | (with_reducible refine bplus ?_ _ _) | (with_reducible refine balloc ?_ _) | (with_reducible refine Below.drew ?_) | (with_reducible refine bdrewN ?_ _) | (with_reducible refine Below.setCell ?_ (by go_size) _))), by have h := HU.out; rw [plus_plus] at h; exact h⟩

/-- See, whatever is asked. -/
theorem see_to (p : Nat) (T : TWS) (hT : TOk T) (x : BitVec 64) (base : Int) (w w0 : World) (C X : List Blk) (K : List (Nat × Obj)) (H : Tw w w0 C X K p T) (l : List UInt8) (b : Bool) (hE : seeT T x base = (l, b)) :
    Calls Try.prog 22 #[tptr p, .agg #[.int .u8 (by8 x 0), .int .u8 (by8 x 1), .int .u8 (by8 x 2), .int .u8 (by8 x 3), .int .u8 (by8 x 4), .int .u8 (by8 x 5), .int .u8 (by8 x 6), .int .u8 (by8 x 7)], .int .i64 base] w fun e w' => ∃ u, e = .returned (.tuple #[u, .bool b]) ∧ Below w.heap.size w w' ∧ Ans w.heap.size l u w' := by
  have hlen : ∀ j, j < T.all.length → (T.all.getD j default).l.length ≤ 32776 := fun j hj => hT.box _ (by rw [List.getD_eq_getElem?_getD, List.getElem?_eq_getElem hj]; exact List.getElem_mem _)
  have no : seeT T x base = ([], false) → Calls Try.prog 22 #[tptr p, .agg #[.int .u8 (by8 x 0), .int .u8 (by8 x 1), .int .u8 (by8 x 2), .int .u8 (by8 x 3), .int .u8 (by8 x 4), .int .u8 (by8 x 5), .int .u8 (by8 x 6), .int .u8 (by8 x 7)], .int .i64 base] w (fun e w' => e = .returned (.tuple #[.slice none 0 0, .bool false]) ∧ Below w.heap.size w w') → Calls Try.prog 22 #[tptr p, .agg #[.int .u8 (by8 x 0), .int .u8 (by8 x 1), .int .u8 (by8 x 2), .int .u8 (by8 x 3), .int .u8 (by8 x 4), .int .u8 (by8 x 5), .int .u8 (by8 x 6), .int .u8 (by8 x 7)], .int .i64 base] w fun e w' => ∃ u, e = .returned (.tuple #[u, .bool b]) ∧ Below w.heap.size w w' ∧ Ans w.heap.size l u w' := by
    intro h1 h2
    rw [h1] at hE
    cases hE
    refine h2.mono ?_
    rintro e w' ⟨rfl, hb⟩
    exact ⟨_, rfl, hb, Ans.nil _ _⟩
  cases hi : idx T.all (thintF x) with
  | none => exact no (by unfold seeT; simp only [hi]) (see_none p T x _ rfl base w w0 C X K H hi)
  | some i =>
    by_cases ho : (T.all.getD i default).n ≤ base
    · exact no (by unfold seeT; simp only [hi]; rw [if_pos ho]) (see_old p T x _ rfl base w w0 C X K H i hi ho)
    · cases hq : openF (tkeyF x) (T.all.getD i default).l with
      | mk yl er =>
        by_cases her : er = 0
        · have h1 : seeT T x base = (yl, true) := by unfold seeT; simp only [hi]; rw [if_neg ho, hq]; simp only; rw [if_pos her]
          rw [h1] at hE
          cases hE
          exact see_yes p T x _ rfl base w w0 C X K H i hi ho hlen _ er her hq
        · exact no (by unfold seeT; simp only [hi]; rw [if_neg ho, hq]; simp only; rw [if_neg her]) (see_shut p T x _ rfl base w w0 C X K H i hi ho hlen yl er her hq)

/-! ### Has, Size -/
theorem thas_nil (w : World) : Calls Try.prog 37 #[.pointer none] w fun e w' => e = .returned (.slice none 0 0) ∧ w' = w := by
  go_enter Try.func37, Try.ntmps37
  go_wp2
  go_ret
  exact ⟨rfl, rfl⟩
def hintsT (T : TWS) : List (BitVec 64) := T.all.map (·.h)
theorem hintsT_take (T : TWS) (i : Nat) (hi : i < T.all.length) : (hintsT T).take (i + 1) = (hintsT T).take i ++ [(T.all.getD i default).h] := by
  unfold hintsT
  rw [List.take_succ_eq_append_getElem (by simpa using hi), List.getD_eq_getElem?_getD, List.getElem?_eq_getElem hi]
  simp
set_option maxRecDepth 100000 in
set_option maxHeartbeats 2000000 in
theorem thas_to (p : Nat) (T : TWS) (hT : TOk T) (w w0 : World) (C X : List Blk) (K : List (Nat × Obj)) (H : Tw w w0 C X K p T) :
    Calls Try.prog 37 #[tptr p] w fun e w' => ∃ u, e = .returned u ∧ Below w.heap.size w w' ∧ Own 27 8 w.heap.size T.all.length (dall (hintsT T)) u w' := by
  obtain ⟨tv, m, es, ck, R, vs, O, D⟩ := H.open_
  have HB := O.blk (List.mem_cons_self ..)
  have lt := HB.lt
  have c1 : w.cell? ⟨p, 1, none⟩ = some tv := HB.cell 1
  obtain ⟨ak, kcap, rfl⟩ := D.row.slice
  have hmaxl : T.all.length ≤ 4096 := Nat.le_trans hT.len hT.room
  have HD := Lib.hid D
  have HO := Lib.hid O
  clear HB H O D
  go_enter Try.func37, Try.ntmps37
  go_wp2_with fail
  go_loopw [3, 13] (fun v3 vi wr => ∃ (i : Nat) (B : List Blk), vi = .int .i64 i ∧ i ≤ T.all.length ∧ Row 27 8 v3 i (dall ((hintsT T).take i)) B ∧ Ow wr w (B ++ [])) (fun _ vi _ => T.all.length - (intOf vi).toNat)
  case atStart => exact ⟨0, [], rfl, by omega, .void, Ow.start w⟩
  case round =>
    obtain ⟨i, B, rfl, hi, R1, O1⟩ := hrel
    obtain ⟨as3, cs3, rfl⟩ := R1.slice
    have HR1 := Lib.hid R1
    have HO1 := Lib.hid O1
    have hsz : w.heap.size ≤ wr.heap.size := O1.mem.size
    have hold : ∀ r, r < w.heap.size → ∀ {j}, wr.cell? ⟨r, j, none⟩ = w.cell? ⟨r, j, none⟩ := fun r hr {j} => O1.old hr j
    clear R1 O1
    by_cases hlt : i < T.all.length
    ·
      obtain ⟨r, kcap', cur, hsl, hkc, -, -, -, -, HR, hcell⟩ := HD.out.at_ (C := [_]) HO.out hlt
      cases hsl
      have hcl := fun j => HR.cell j
      have rl : r < wr.heap.size := Nat.lt_of_lt_of_le HR.lt hsz
      obtain ⟨y, hy⟩ : ∃ y, T.all.getD i default = y := ⟨_, rfl⟩
      obtain ⟨bv, hbv⟩ : ∃ y, vs.getD i undef = y := ⟨_, rfl⟩
      rw [hy, hbv] at hcell
      have a0 : wr.cell? ⟨r, i * 10, none⟩ = some (.int .u8 (by8 y.h 0)) := by rw [hold r HR.lt, hcl]; exact hcell 0 (by omega)
      have a1 : wr.cell? ⟨r, i * 10 + 1, none⟩ = some (.int .u8 (by8 y.h 1)) := by rw [hold r HR.lt, hcl]; exact hcell 1 (by omega)
      have a2 : wr.cell? ⟨r, i * 10 + 2, none⟩ = some (.int .u8 (by8 y.h 2)) := by rw [hold r HR.lt, hcl]; exact hcell 2 (by omega)
      have a3 : wr.cell? ⟨r, i * 10 + 3, none⟩ = some (.int .u8 (by8 y.h 3)) := by rw [hold r HR.lt, hcl]; exact hcell 3 (by omega)
      have a4 : wr.cell? ⟨r, i * 10 + 4, none⟩ = some (.int .u8 (by8 y.h 4)) := by rw [hold r HR.lt, hcl]; exact hcell 4 (by omega)
      have a5 : wr.cell? ⟨r, i * 10 + 5, none⟩ = some (.int .u8 (by8 y.h 5)) := by rw [hold r HR.lt, hcl]; exact hcell 5 (by omega)
      have a6 : wr.cell? ⟨r, i * 10 + 6, none⟩ = some (.int .u8 (by8 y.h 6)) := by rw [hold r HR.lt, hcl]; exact hcell 6 (by omega)
      have a7 : wr.cell? ⟨r, i * 10 + 7, none⟩ = some (.int .u8 (by8 y.h 7)) := by rw [hold r HR.lt, hcl]; exact hcell 7 (by omega)
      have a8 : wr.cell? ⟨r, i * 10 + 8, none⟩ = some (.int .i64 y.n) := by rw [hold r HR.lt, hcl]; exact hcell 8 (by omega)
      have a9 : wr.cell? ⟨r, i * 10 + 9, none⟩ = some bv := by rw [hold r HR.lt, hcl]; exact hcell 9 (by omega)
      have hbm : Msg w0 X bv y.l := by
        obtain ⟨b2, h1, h2⟩ := HD.out.box.get i (by simpa using hlt)
        have h3 : (T.all.map (·.l)).getD i [] = y.l := by
          rw [← hy, List.getD_eq_getElem?_getD, List.getD_eq_getElem?_getD, List.getElem?_map, List.getElem?_eq_getElem hlt]; rfl
        rw [h3] at h2
        rw [← hbv, List.getD_eq_getElem?_getD, h1]
        exact h2
      obtain ⟨ab, cb, rfl⟩ := hbm.slice
      have HY := Lib.hid hy
      clear HR hcell hcl hy hbv hbm hold hsz
      have HST : Hid ((hintsT T).take (i + 1) = (hintsT T).take i ++ [y.h]) := by show _ = _; rw [hintsT_take T i hlt, HY.out]
      go_wp2_with (at_builtin; refine (HO1.out.alloc _).appendNew rfl (.tmp 17) (.tmp 20) 78 rfl elt_dig (by rfl) HR1.out #[.int .u8 (by8 y.h 0), .int .u8 (by8 y.h 1), .int .u8 (by8 y.h 2), .int .u8 (by8 y.h 3), .int .u8 (by8 y.h 4), .int .u8 (by8 y.h 5), .int .u8 (by8 y.h 6), .int .u8 (by8 y.h 7)] _ _ 1 1 (by rfl) (by simp) (by rfl) (by simp [Value.oneCell']) (by unfold maxLen; omega) (by omega) (i + 1) rfl (dall ((hintsT T).take (i + 1))) (by rw [HST.out, dall_app, dall_one]; rfl) (fun ao' cap' B' w7 R7 O7 => ?_); (have HR7 := Lib.hid R7); (have HO7 := Lib.hid O7); clear R7 O7)
      exact ⟨⟨i + 1, B', by simp, by omega, HR7.out, HO7.out⟩, by simp [intOf]; omega⟩
    · obtain rfl : i = T.all.length := by omega
      go_wp2
      go_ret
      refine ⟨_, rfl, HO1.out.below, ?_⟩
      have hR := HR1.out
      rw [List.take_of_length_le (by simp [hintsT])] at hR
      exact Own.mk hR (by simpa using HO1.out)
theorem tsize_nil (w : World) : Calls Try.prog 36 #[.pointer none] w fun e w' => e = .returned (.int .i64 0) ∧ w' = w := by
  go_enter Try.func36, Try.ntmps36
  go_wp2
  go_ret
  exact ⟨rfl, rfl⟩
def sizeK (l : List AP) (i : Nat) : Nat := ((l.take i).map fun a => a.l.length).sum
theorem sizeK_succ (l : List AP) (i : Nat) (hi : i < l.length) : sizeK l (i + 1) = sizeK l i + (l.getD i default).l.length := by
  unfold sizeK
  rw [List.take_succ_eq_append_getElem hi, List.map_append, List.sum_append, List.getD_eq_getElem?_getD, List.getElem?_eq_getElem hi]
  simp
theorem sizeK_all (T : TWS) : sizeK T.all T.all.length = sizeT T := by
  unfold sizeK sizeT
  rw [List.take_length]
theorem sizeK_le (l : List AP) (h : ∀ a ∈ l, a.l.length ≤ 32776) (i : Nat) (hi : i ≤ l.length) : sizeK l i ≤ 32776 * i := by
  induction i with
  | zero => simp [sizeK]
  | succ i ih =>
    rw [sizeK_succ l i (by omega)]
    have h1 := ih (by omega)
    have h2 := h (l.getD i default) (by rw [List.getD_eq_getElem?_getD, List.getElem?_eq_getElem (by omega)]; exact List.getElem_mem _)
    omega
set_option maxRecDepth 100000 in
set_option maxHeartbeats 2000000 in
theorem tsize_to (p : Nat) (T : TWS) (hT : TOk T) (w w0 : World) (C X : List Blk) (K : List (Nat × Obj)) (H : Tw w w0 C X K p T) (s : Nat) (hs : sizeT T = s) :
    Calls Try.prog 36 #[tptr p] w fun e w' => e = .returned (.int .i64 s) ∧ Below w.heap.size w w' := by
  obtain ⟨tv, m, es, ck, R, vs, O, D⟩ := H.open_
  have HB := O.blk (List.mem_cons_self ..)
  have lt := HB.lt
  have c1 : w.cell? ⟨p, 1, none⟩ = some tv := HB.cell 1
  obtain ⟨ak, kcap, rfl⟩ := D.row.slice
  have hmaxl : T.all.length ≤ 4096 := Nat.le_trans hT.len hT.room
  have HD := Lib.hid D
  have HO := Lib.hid O
  clear HB H O D
  have hsb := sizeK_le T.all hT.box
  have HSB := Lib.hid hsb
  have HS := Lib.hid hs
  clear hsb hs
  go_enter Try.func36, Try.ntmps36
  go_wp2_with fail
  go_loopw [3, 13] (fun v3 vi wr => ∃ (i q : Nat), vi = .int .i64 i ∧ i ≤ T.all.length ∧ v3 = .int .i64 q ∧ sizeK T.all i = q ∧ q ≤ 32776 * i ∧ Below w.heap.size w wr) (fun _ vi _ => T.all.length - (intOf vi).toNat)
  case atStart => exact ⟨0, 0, rfl, by omega, rfl, rfl, by omega, Below.refl _ _⟩
  case round =>
    obtain ⟨i, q, rfl, hi, rfl, hq, hqb, hB⟩ := hrel
    have HQ := Lib.hid hq
    have HBel := Lib.hid hB
    have hsz : w.heap.size ≤ wr.heap.size := hB.size
    have hold : ∀ r, r < w.heap.size → ∀ {j}, wr.cell? ⟨r, j, none⟩ = w.cell? ⟨r, j, none⟩ := fun r hr {j} => World.cell?_of_block (a := ⟨r, j, none⟩) (hB.block _ hr)
    clear hB hq
    by_cases hlt : i < T.all.length
    ·
      obtain ⟨r, kcap', cur, hsl, hkc, -, -, -, -, HR, hcell⟩ := HD.out.at_ (C := [_]) HO.out hlt
      cases hsl
      have hcl := fun j => HR.cell j
      have rl : r < wr.heap.size := Nat.lt_of_lt_of_le HR.lt hsz
      obtain ⟨y, hy⟩ : ∃ y, T.all.getD i default = y := ⟨_, rfl⟩
      obtain ⟨bv, hbv⟩ : ∃ y, vs.getD i undef = y := ⟨_, rfl⟩
      rw [hy, hbv] at hcell
      have a0 : wr.cell? ⟨r, i * 10, none⟩ = some (.int .u8 (by8 y.h 0)) := by rw [hold r HR.lt, hcl]; exact hcell 0 (by omega)
      have a1 : wr.cell? ⟨r, i * 10 + 1, none⟩ = some (.int .u8 (by8 y.h 1)) := by rw [hold r HR.lt, hcl]; exact hcell 1 (by omega)
      have a2 : wr.cell? ⟨r, i * 10 + 2, none⟩ = some (.int .u8 (by8 y.h 2)) := by rw [hold r HR.lt, hcl]; exact hcell 2 (by omega)
      have a3 : wr.cell? ⟨r, i * 10 + 3, none⟩ = some (.int .u8 (by8 y.h 3)) := by rw [hold r HR.lt, hcl]; exact hcell 3 (by omega)
      have a4 : wr.cell? ⟨r, i * 10 + 4, none⟩ = some (.int .u8 (by8 y.h 4)) := by rw [hold r HR.lt, hcl]; exact hcell 4 (by omega)
      have a5 : wr.cell? ⟨r, i * 10 + 5, none⟩ = some (.int .u8 (by8 y.h 5)) := by rw [hold r HR.lt, hcl]; exact hcell 5 (by omega)
      have a6 : wr.cell? ⟨r, i * 10 + 6, none⟩ = some (.int .u8 (by8 y.h 6)) := by rw [hold r HR.lt, hcl]; exact hcell 6 (by omega)
      have a7 : wr.cell? ⟨r, i * 10 + 7, none⟩ = some (.int .u8 (by8 y.h 7)) := by rw [hold r HR.lt, hcl]; exact hcell 7 (by omega)
      have a8 : wr.cell? ⟨r, i * 10 + 8, none⟩ = some (.int .i64 y.n) := by rw [hold r HR.lt, hcl]; exact hcell 8 (by omega)
      have a9 : wr.cell? ⟨r, i * 10 + 9, none⟩ = some bv := by rw [hold r HR.lt, hcl]; exact hcell 9 (by omega)
      have hbm : Msg w0 X bv y.l := by
        obtain ⟨b2, h1, h2⟩ := HD.out.box.get i (by simpa using hlt)
        have h3 : (T.all.map (·.l)).getD i [] = y.l := by
          rw [← hy, List.getD_eq_getElem?_getD, List.getD_eq_getElem?_getD, List.getElem?_map, List.getElem?_eq_getElem hlt]; rfl
        rw [h3] at h2
        rw [← hbv, List.getD_eq_getElem?_getD, h1]
        exact h2
      obtain ⟨ab, cb, rfl⟩ := hbm.slice
      have HY := Lib.hid hy
      clear HR hcell hcl hy hbv hbm hold hsz
      have hst := sizeK_succ T.all i hlt
      rw [HY.out, HQ.out] at hst
      have h2 := HSB.out (i + 1) (by omega)
      rw [hst] at h2
      obtain ⟨q2, hq2⟩ : ∃ q2 : Nat, (q : Int) + (y.l.length : Int) = (q2 : Int) := ⟨q + y.l.length, by omega⟩
      have hq3 : q + y.l.length = q2 := by omega
      have HST : Hid (sizeK T.all (i + 1) = q2) := by show _ = _; rw [hst, hq3]
      clear hst
      rw [hq3] at h2
      have hq20 : q2 ≤ 200000000 := by omega
      clear hq3
      go_wp2
      exact ⟨⟨i + 1, q2, by simp, by omega, rfl, HST.out, h2, balloc HBel.out _⟩, by simp [intOf]; omega⟩
    · obtain rfl : i = T.all.length := by omega
      go_wp2
      go_ret
      obtain rfl : q = s := by rw [← HS.out, ← sizeK_all, HQ.out]
      exact ⟨rfl, HBel.out⟩

end Go.Proofs.Ytghaiplhakeahaa
