/- talk: two Talkers beside blocks of the law's own; packets under way; contracts for the law's play. -/
import Derived.Test.YtgjodjkmefdilaaTpp
import Derived.Test.YtgjodjkmefdilaaTop
import Derived.Test.YtgjodjkmefdilaaTalkActs
namespace Go.Proofs.Ytgjodjkmefdilaa
set_option linter.unusedSimpArgs false
set_option linter.unusedVariables false
open Go.ChangeShapes Go.WideShapes Go.ChangeAt Go.RowKit

def S2C (w w0 : World) (C X : List Blk) (p : Nat) (T : TS) (q : Nat) (U : TS) : Prop := ∃ A D, Ow w w0 (A ++ (D ++ (C ++ X))) ∧ TkB w0 X p T A ∧ TkB w0 X q U D
section
variable {w w0 : World} {C C' X : List Blk} {p q : Nat} {T U : TS}
theorem S2C.swap (h : S2C w w0 C X p T q U) : S2C w w0 C X q U p T := by
  obtain ⟨A, D, O, t, u⟩ := h
  exact ⟨D, A, O.perm (perm_cnt fun x => by simp only [cnt_append, cnt_cons, cnt_nil] <;> omega), u, t⟩
theorem S2C.one (h : S2C w w0 C X p T q U) : ∃ D, S1 w w0 (D ++ C) X p T ∧ TkB w0 X q U D := by
  obtain ⟨A, D, O, t, u⟩ := h
  exact ⟨D, ⟨A, O.perm (perm_cnt fun x => by simp only [cnt_append, cnt_cons, cnt_nil] <;> omega), t⟩, u⟩
theorem S2C.mk' {D X' : List Blk} (h : S1 w w0 (D ++ C) X' p T) (u : TkB w0 X q U D) (hs : Sub X X') : S2C w w0 C X' p T q U := by
  obtain ⟨A, O, t⟩ := h
  exact ⟨A, D, O.perm (perm_cnt fun x => by simp only [cnt_append, cnt_cons, cnt_nil] <;> omega), t, u.mono hs⟩
theorem S2C.of_below {w' : World} (h : S2C w w0 C X p T q U) (hb : Below w.heap.size w w') : S2C w' w0 C X p T q U := by
  obtain ⟨A, D, O, t, u⟩ := h
  exact ⟨A, D, O.of_below hb, t, u⟩
theorem S2C.alloc (h : S2C w w0 C X p T q U) (o : Obj) : S2C (w.alloc o) w0 C X p T q U := h.of_below (balloc (Below.refl _ _) o)
theorem S2C.drew (h : S2C w w0 C X p T q U) : S2C w.drew w0 C X p T q U := h.of_below (Below.refl _ _).drew
theorem S2C.below (h : S2C w w0 C X p T q U) : Below w0.heap.size w0 w := by
  obtain ⟨A, D, O, t, u⟩ := h
  exact O.below
theorem S2C.ow (h : S2C w w0 C X p T q U) : ∃ Y, Ow w w0 Y ∧ Sub X Y ∧ Sub C Y := by
  obtain ⟨A, D, O, t, u⟩ := h
  exact ⟨_, O, fun x hx => by simp [hx], fun x hx => by simp [hx]⟩
theorem S2C.has (h : S2C w w0 C X p T q U) {b : Nat} {t : TypeId} {cs : Array Value} (hx : (⟨b, t, cs⟩ : Blk) ∈ C) : HasBlk w b t cs := by
  obtain ⟨Y, O, -, hC⟩ := h.ow
  exact O.has (hC _ hx)
theorem S2C.here (h : S2C w w0 C X p T q U) {v : Value} {ms : List (List UInt8)} (hm : MsgL w0 X v ms) : MsgL w [] v ms := by
  obtain ⟨Y, O, hX, -⟩ := h.ow
  exact hm.here O hX
theorem S2C.permC (h : S2C w w0 C X p T q U) (hp : C.Perm C') : S2C w w0 C' X p T q U := by
  obtain ⟨A, D, O, t, u⟩ := h
  exact ⟨A, D, O.perm ((List.Perm.refl A).append ((List.Perm.refl D).append (hp.append_right X))), t, u⟩
theorem S2C.park (h : S2C w w0 C X p T q U) {cs : Array Value} {b : Nat} {t : TypeId} (hb : b = w.heap.size) : S2C (w.alloc (.cells cs t)) w0 (⟨b, t, cs⟩ :: C) X p T q U := by
  obtain ⟨A, D, O, t1, u⟩ := h
  exact ⟨A, D, (O.key cs t b hb).perm (perm_cnt fun x => by simp only [cnt_append, cnt_cons, cnt_nil] <;> omega), t1, u⟩
theorem S2C.set {cs : Array Value} {b : Nat} {t : TypeId} (h : S2C w w0 (⟨b, t, cs⟩ :: C) X p T q U) (i : Nat) (v : Value) : S2C (w.setCell ⟨b, i, none⟩ v) w0 (⟨b, t, cs.setIfInBounds i v⟩ :: C) X p T q U := by
  obtain ⟨A, D, O, t1, u⟩ := h
  have O1 : Ow w w0 (⟨b, t, cs⟩ :: (A ++ (D ++ (C ++ X)))) := O.perm (perm_cnt fun x => by simp only [cnt_append, cnt_cons, cnt_nil] <;> omega)
  exact ⟨A, D, (O1.set i v).perm (perm_cnt fun x => by simp only [cnt_append, cnt_cons, cnt_nil] <;> omega), t1, u⟩
theorem S2C.drop {x : Blk} (h : S2C w w0 (x :: C) X p T q U) : S2C w w0 C X p T q U := by
  obtain ⟨A, D, O, t1, u⟩ := h
  exact ⟨A, D, (O.perm (L' := x :: (A ++ (D ++ (C ++ X)))) (perm_cnt fun x => by simp only [cnt_append, cnt_cons, cnt_nil] <;> omega)).drop1, t1, u⟩
theorem S2C.dropAll {B : List Blk} (h : S2C w w0 (B ++ C) X p T q U) : S2C w w0 C X p T q U := by
  obtain ⟨A, D, O, t1, u⟩ := h
  exact ⟨A, D, (O.perm (L' := B ++ (A ++ (D ++ (C ++ X)))) (perm_cnt fun x => by simp only [cnt_append, cnt_cons, cnt_nil] <;> omega)).drop, t1, u⟩

theorem S2C.say (h : S2C w w0 C X p T q U) (v : Value) (m : List UInt8) (hv : BSl w v m) (hW : TW 1000000 T) (E : Nat) (hE : sayE T m = E) (T' : TS) (hT' : sayT T m = T') :
    Calls Try.prog 22 #[ptr p, v] w fun e w' => e = .returned (.int .i64 E) ∧ ∃ X', Sub X X' ∧ S2C w' w0 C X' p T' q U := by
  obtain ⟨D, s, u⟩ := h.one
  refine (s.say v m hv hW E hE T' hT').mono ?_
  rintro e w' ⟨rfl, X', hs, s'⟩
  exact ⟨rfl, X', hs, S2C.mk' s' u hs⟩
theorem S2C.tickNo (h : S2C w w0 C X p T q U) (now : Nat) (hn : now ≤ 4611686018427387904) (hW : TW 1000000 T) (hd : dueT T now = false) :
    Calls Try.prog 19 #[ptr p, .int .i64 now] w fun e w' => e = .returned (.tuple #[.agg #[.int .i64 0, .slice none 0 0, .int .i64 0], .bool false]) ∧ S2C w' w0 C X p T q U := by
  obtain ⟨D, s, u⟩ := h.one
  refine (s.tickNo now hn hW hd).mono ?_
  rintro e w' ⟨rfl, s'⟩
  exact ⟨rfl, S2C.mk' s' u (Sub.refl X)⟩
theorem S2C.tickYes (h : S2C w w0 C X p T q U) (now : Nat) (hn : now ≤ 4611686018427387904) (hW : TW 1000000 T) (hd : dueT T now = true) (fi hd' : Nat) (hfi : T.said - T.waits.length = fi) (hhd : T.heard = hd') (ms : List (List UInt8)) (hms : T.waits = ms) (T' : TS) (hT' : tickT T now = T') :
    Calls Try.prog 19 #[ptr p, .int .i64 now] w fun e w' => ∃ u X', e = .returned (.tuple #[.agg #[.int .i64 fi, u, .int .i64 hd'], .bool true]) ∧ Sub X X' ∧ S2C w' w0 C X' p T' q U ∧ MsgL w0 X' u ms := by
  obtain ⟨D, s, u⟩ := h.one
  refine (s.tickYes now hn hW hd fi hd' hfi hhd ms hms T' hT').mono ?_
  rintro e w' ⟨v, X', rfl, hs, s', m'⟩
  exact ⟨v, X', rfl, hs, S2C.mk' s' u hs, m'⟩
theorem S2C.hear (h : S2C w w0 C X p T q U) (fi he : Nat) (v : Value) (ms : List (List UInt8)) (hv : MsgL w0 X v ms) (hfi : fi ≤ 9223372036854775807) (hW : TW 1000000 T) (hb : rightT T fi ms he = true) (T' : TS) (hT' : hearT T fi ms he = T') :
    Calls Try.prog 20 #[ptr p, .agg #[.int .i64 fi, v, .int .i64 he]] w fun e w' => ∃ c X', e = .returned (.int .i64 c) ∧ Sub X X' ∧ S2C w' w0 C X' p T' q U := by
  obtain ⟨D, s, u⟩ := h.one
  refine (s.hearYes fi he v ms hv hfi hW hb T' hT' _ rfl).mono ?_
  rintro e w' ⟨rfl, X', hs, s'⟩
  exact ⟨_, X', rfl, hs, S2C.mk' s' u hs⟩
theorem S2C.got (h : S2C w w0 C X p T q U) (ms : List (List UInt8)) (hms : T.got = ms) :
    Calls Try.prog 21 #[ptr p] w fun e w' => ∃ v X', e = .returned v ∧ Sub X X' ∧ S2C w' w0 C X' p (gotT T) q U ∧ MsgL w0 X' v ms := by
  obtain ⟨D, s, u⟩ := h.one
  refine (s.got _ rfl ms hms).mono ?_
  rintro e w' ⟨v, X', rfl, hs, s', m'⟩
  exact ⟨v, X', rfl, hs, S2C.mk' s' u hs, m'⟩
theorem S2C.idle (h : S2C w w0 C X p T q U) (b : Bool) (hb : (T.waits.length == 0) = b) :
    Calls Try.prog 15 #[ptr p] w fun e w' => e = .returned (.bool b) ∧ w' = w := by
  obtain ⟨D, s, u⟩ := h.one
  exact s.idle b hb
end

/-- A row with something in it. -/
theorem Row.openP {e : TypeId} {sz n : Nat} {v : Value} {xs : List Value} {B L : List Blk} {w w0 : World} (h : Row e sz v n xs B) (M : Mem w w0 (B ++ L)) (hn : 0 < n) : ∃ r cap, v = .slice (some ⟨r, 0, none⟩) n cap ∧ n ≤ cap ∧ r < w.heap.size ∧ ∀ j u, xs[j]? = some u → w.cell? ⟨r, j, none⟩ = some u := by
  have hc := h.cells M
  cases h with
  | void => omega
  | one r n cap cur h1 h2 h3 =>
    refine ⟨r, cap, rfl, h1, M.lt (x := ⟨r, e, cur⟩) (by simp), fun j u hj => ?_⟩
    have := hc _ _ rfl _ rfl j u hj
    rw [add_plain'] at this
    simpa using this

/-- A packet under way. -/
structure PkV where
  fi : Nat
  ms : List (List UInt8)
  he : Nat
  v : Value
  other : Bool
def PkV.cells (k : PkV) : List Value := [.int .i64 k.fi, k.v, .int .i64 k.he, .bool k.other]
def wayc : List PkV → List Value
  | [] => []
  | k :: l => k.cells ++ wayc l
theorem wayc_len : ∀ l : List PkV, (wayc l).length = l.length * 4
  | [] => rfl
  | k :: l => by simp only [wayc, List.length_append, wayc_len l, List.length_cons, PkV.cells, List.length_nil]; omega
theorem wayc_app : ∀ l r : List PkV, wayc (l ++ r) = wayc l ++ wayc r
  | [], r => rfl
  | k :: l, r => by simp only [List.cons_append, wayc, wayc_app l r, List.append_assoc]
theorem wayc_take : ∀ (l : List PkV) (n : Nat), (wayc l).take (n * 4) = wayc (l.take n)
  | [], n => by simp [wayc]
  | k :: l, 0 => by simp [wayc]
  | k :: l, n + 1 => by
    simp only [wayc, List.take_succ_cons]
    have h4 : k.cells.length = 4 := rfl
    rw [List.take_append, h4, List.take_of_length_le (by rw [h4]; omega), show (n + 1) * 4 - 4 = n * 4 by omega, wayc_take l n]
theorem wayc_drop : ∀ (l : List PkV) (n : Nat), (wayc l).drop (n * 4) = wayc (l.drop n)
  | [], n => by simp [wayc]
  | k :: l, 0 => by simp [wayc]
  | k :: l, n + 1 => by
    simp only [wayc, List.drop_succ_cons]
    have h4 : k.cells.length = 4 := rfl
    rw [List.drop_append, h4, List.drop_eq_nil_of_le (by rw [h4]; omega), show (n + 1) * 4 - 4 = n * 4 by omega, List.nil_append, wayc_drop l n]
theorem wayc_get (l : List PkV) (n i : Nat) (k : PkV) (hk : l[n]? = some k) (u : Value) (hu : k.cells[i]? = some u) : (wayc l)[n * 4 + i]? = some u := by
  have h1 : ((wayc l).drop (n * 4))[i]? = some u := by
    rw [wayc_drop]
    have : l.drop n = k :: l.drop (n + 1) := by
      have hlt := (List.getElem?_eq_some_iff.1 hk).1
      rw [List.drop_eq_getElem_cons hlt]
      congr 1
      exact (List.getElem?_eq_some_iff.1 hk).2
    rw [this]
    simp only [wayc]
    rw [List.getElem?_append_left (List.getElem?_eq_some_iff.1 hu).1]
    exact hu
  rwa [List.getElem?_drop] at h1
theorem wayc_one : ∀ {l : List PkV}, (∀ k ∈ l, k.v.oneCell' = true) → ∀ u ∈ wayc l, u.oneCell' = true
  | [], _, u, hu => by simp [wayc] at hu
  | k :: l, h, u, hu => by
    simp only [wayc, PkV.cells, List.mem_append, List.mem_cons, List.not_mem_nil, or_false] at hu
    rcases hu with (rfl | rfl | rfl | rfl) | hu
    · rfl
    · exact h k (List.mem_cons_self ..)
    · rfl
    · rfl
    · exact wayc_one (fun j hj => h j (List.mem_cons_of_mem _ hj)) u hu
theorem MsgL.oneCell {w0 : World} {X : List Blk} {v : Value} {ms : List (List UInt8)} (h : MsgL w0 X v ms) : v.oneCell' = true := by
  obtain ⟨a, c, rfl⟩ := h.slice; rfl
theorem wp_buildSlice0 {P : Program} {o : Oper} {a : Act} {w : World} {K : Act → World → Prop} {Q : Exit → Act → World → Prop} {t e : TypeId} {sz bytes : Nat} (E : Elt P t e sz bytes) (ho : o.op = .buildSlice t 0 #[])
    (h : K (a.put o.dst (.slice (some ⟨w.heap.size, 0, none⟩) 0 0)) (w.alloc (.cells #[] e))) : o.wp P a w K Q := by
  unfold Oper.wp
  rw [run_buildSlice_zero E ho w]
  exact h
theorem elt_sent : Elt Try.prog 85 89 4 48 := by
  have h : (Try.prog.info? 89).map (fun i => (i.zero, i.size, i.bytes)) = some (some (.agg #[.int .i64 0, .slice none 0 0, .int .i64 0, .bool false]), 4, 48) := by kernel_rfl
  exact elt_mk _ Try.underlying85 h rfl (by decide)
section
variable {w w0 : World} {C X : List Blk} {p q : Nat} {T U : TS} {P : Program} {ops : Array Oper} {rest : List Oper} {o : Oper} {a : Act} {Q : Exit → Act → World → Prop}
/-- append of one struct that stands in the text. -/
theorem S2C.appendNew {e : TypeId} {sz bytes n : Nat} {v : Value} {xs : List Value} {B : List Blk} (h : S2C w w0 (B ++ C) X p T q U) (hgd : o.guard = none) (s x : Operand) (t : TypeId) (ho : o.op = .call { callee := .builtin .append, args := #[s, x], argTypes := #[t, t] })
    (E : Elt P t e sz bytes) (hs : a.eval s = v) (hR : Row e sz v n xs B) (cs : Array Value) (e' : TypeId)
    (k m c : Nat) (hx : a.eval x = .slice (some ⟨k, 0, none⟩) m c) (hk : k = w.heap.size) (hl : cs.size = m * sz) (h1 : ∀ u ∈ cs.toList, u.oneCell' = true)
    (h63 : n + m ≤ maxLen) (hbytes : (n + m) * bytes ≤ 140737488355328)
    (N : Nat) (hN : n + m = N) (ys : List Value) (hys : xs ++ cs.toList = ys)
    (h' : ∀ ao' cap' B' w', Row e sz (.slice ao' N cap') N ys B' → S2C w' w0 (B' ++ C) X p T q U → wpList P ops Q rest (a.put o.dst (.slice ao' N cap')) w') :
    wpList P ops Q (o :: rest) a (w.alloc (.cells cs e')) := by
  obtain ⟨A, D, O, t1, u⟩ := h
  have O1 : Ow w w0 (B ++ (A ++ (D ++ (C ++ X)))) := O.perm (perm_cnt fun x => by simp only [cnt_append, cnt_cons, cnt_nil] <;> omega)
  refine wpList_append_new hgd s x t ho E O1.mem (fun y hy => O1.new y (by simp [hy])) v n xs hs hR cs e' k m c hx hk hl h1 h63 hbytes N hN ys hys fun ao' cap' B' w' R' M' hB' => h' ao' cap' B' w' R' ⟨A, D, ?_, t1, u⟩
  exact (Ow.mk M' (New.app hB' fun y hy => O1.new y (List.mem_append_right _ hy))).perm (perm_cnt fun x => by simp only [cnt_append, cnt_cons, cnt_nil] <;> omega)
/-- A store of a whole block of the law's own. -/
theorem S2C.storeK {K : Act → World → Prop} {b : Nat} {t : TypeId} {cs : Array Value} (h : S2C w w0 (⟨b, t, cs⟩ :: C) X p T q U) (ty : TypeId) (x y : Operand) (ho : o.op = .store ty x y)
    (hx : a.eval x = .pointer (some ⟨b, 0, none⟩)) (us : Array Value) (hy : a.eval y = .agg us) (hi : (P.info? ty).map (·.size) = some cs.size) (hs : us.size = cs.size) (h1 : ∀ v ∈ us.toList, v.oneCell' = true)
    (k : ∀ w', S2C w' w0 (⟨b, t, us⟩ :: C) X p T q U → K (a.put o.dst undef) w') : o.wp P a w K Q := by
  obtain ⟨A, D, O, t1, u⟩ := h
  have O1 : Ow w w0 ([] ++ ⟨b, t, cs⟩ :: (A ++ (D ++ (C ++ X)))) := O.perm (perm_cnt fun x => by simp only [cnt_append, cnt_cons, cnt_nil] <;> omega)
  exact wp_store_owB ty x y ho O1 hx us hy hi hs h1 fun w' O' => k w' ⟨A, D, Ow.perm O' (perm_cnt fun x => by simp only [cnt_append, cnt_cons, cnt_nil] <;> omega), t1, u⟩
/-- append of what is there, in a step. -/
theorem S2C.appendK {K : Act → World → Prop} {e : TypeId} {sz bytes n : Nat} {v : Value} {xs : List Value} {B : List Blk} (h : S2C w w0 (B ++ C) X p T q U) (s x : Operand) (t : TypeId) (ho : o.op = .call { callee := .builtin .append, args := #[s, x], argTypes := #[t, t] })
    (E : Elt P t e sz bytes) (hs : a.eval s = v) (hR : Row e sz v n xs B)
    (ao : Option Addr) (m c : Nat) (news : List Value) (hx : a.eval x = .slice ao m c) (hl : news.length = m * sz) (hnone : ao = none → m = 0 ∧ c = 0)
    (hc : ∀ ad, ao = some ad → ∀ j u, news[j]? = some u → w.cell? (ad.add j) = some u) (h1 : ∀ u ∈ news, u.oneCell' = true)
    (h63 : n + m ≤ maxLen) (hbytes : (n + m) * bytes ≤ 140737488355328)
    (N : Nat) (hN : n + m = N) (ys : List Value) (hys : xs ++ news = ys)
    (h' : ∀ ao' cap' B' w', Row e sz (.slice ao' N cap') N ys B' → S2C w' w0 (B' ++ C) X p T q U → K (a.put o.dst (.slice ao' N cap')) w') :
    o.wp P a w K Q := by
  obtain ⟨A, D, O, t1, u⟩ := h
  have O1 : Ow w w0 (B ++ (A ++ (D ++ (C ++ X)))) := O.perm (perm_cnt fun x => by simp only [cnt_append, cnt_cons, cnt_nil] <;> omega)
  refine wp_append_row s x t ho E O1.mem (fun y hy => O1.new y (by simp [hy])) v n xs hs hR ao m c news hx hl hnone hc h1 h63 hbytes N hN ys hys fun ao' cap' B' w' R' M' hB' => h' ao' cap' B' w' R' ⟨A, D, ?_, t1, u⟩
  exact (Ow.mk M' (New.app hB' fun y hy => O1.new y (List.mem_append_right _ hy))).perm (perm_cnt fun x => by simp only [cnt_append, cnt_cons, cnt_nil] <;> omega)
end

end Go.Proofs.Ytgjodjkmefdilaa
