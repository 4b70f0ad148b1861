/- guard: contract of Due. -/
import Derived.Test.YtghaiplhakeahaaGs
import Derived.Test.YtghaiplhakeahaaOwa
namespace Go.Proofs.Ytghaiplhakeahaa
set_option linter.unusedSimpArgs false
set_option linter.unusedVariables false
open Go.RowKit

/-- The towers that are due, of the first k. -/
def duK (G : GS) (k : Nat) : List Int := ((List.range k).filter fun i => decide (G.said i ≠ G.num)).map fun i : Nat => (i : Int)
def dueL (G : GS) : List Int := if G.noted = true then duK G G.towers else []
theorem duK_len (G : GS) (k : Nat) : (duK G k).length ≤ k := by
  unfold duK
  rw [List.length_map]
  exact Nat.le_trans (List.length_filter_le _ _) (by simp)
theorem dueL_len (G : GS) : (dueL G).length ≤ G.towers := by
  unfold dueL
  split
  · exact duK_len _ _
  · simp
theorem duK_yes (G : GS) (k : Nat) (h : G.said k ≠ G.num) : duK G (k + 1) = duK G k ++ [(k : Int)] := by
  unfold duK
  simp [List.range_succ, List.filter_append, h]
theorem duK_no (G : GS) (k : Nat) (h : G.said k = G.num) : duK G (k + 1) = duK G k := by
  unfold duK
  simp [List.range_succ, List.filter_append, h]
theorem elt_int : Elt Try.prog 47 3 1 8 := by
  have h : (Try.prog.info? 3).map (fun i => (i.zero, i.size, i.bytes)) = some (some (.int .i64 0), 1, 8) := by kernel_rfl
  exact elt_mk _ Try.underlying47 h rfl (by decide)

section
variable {P : Program} {ops : Array Oper} {rest : List Oper} {o : Oper} {a : Act} {Q : Exit → Act → World → Prop}
theorem Gu.appendNew {w w0 : World} {B C X : List Blk} {p : Nat} {G : GS} {e : TypeId} {sz bytes n : Nat} {v : Value} {xs : List Value} (h : Gu w w0 (B ++ C) X p G) (hgd : o.guard = none) (s x : Operand) (t : TypeId) (ho : o.op = .call { callee := .builtin .append, args := #[s, x], argTypes := #[t, t] })
    (E : Elt P t e sz bytes) (hs : a.eval s = v) (hR : Row e sz v n xs B) (cs : Array Value) (e' : TypeId)
    (k m c : Nat) (hx : a.eval x = .slice (some ⟨k, 0, none⟩) m c) (hk : k = w.heap.size) (hl : cs.size = m * sz) (h1 : ∀ u ∈ cs.toList, u.oneCell' = true)
    (h63 : n + m ≤ maxLen) (hbytes : (n + m) * bytes ≤ 140737488355328)
    (N : Nat) (hN : n + m = N) (ys : List Value) (hys : xs ++ cs.toList = ys)
    (h' : ∀ ao' cap' B' w', Row e sz (.slice ao' N cap') N ys B' → Gu w' w0 (B' ++ C) X p G → wpList P ops Q rest (a.put o.dst (.slice ao' N cap')) w') :
    wpList P ops Q (o :: rest) a (w.alloc (.cells cs e')) := by
  obtain ⟨bv, O, m'⟩ := h
  have O1 : Ow w w0 (B ++ (⟨p, 132, gcs G bv⟩ :: (C ++ X))) := O.perm (perm_cnt fun x => by simp only [cnt_append, cnt_cons, cnt_nil] <;> omega)
  exact O1.appendNew hgd s x t ho E hs hR cs e' k m c hx hk hl h1 h63 hbytes N hN ys hys fun ao' cap' B' w' R' O' => h' ao' cap' B' w' R' ⟨bv, O'.perm (perm_cnt fun x => by simp only [cnt_append, cnt_cons, cnt_nil] <;> omega), m'⟩
end

set_option maxRecDepth 100000 in
set_option maxHeartbeats 2000000 in
theorem due_to (p : Nat) (G : GS) (w w0 : World) (C X : List Blk) (h : Gu w w0 C X p G) (ht : G.towers ≤ 16) (l : List Int) (hl : dueL G = l) :
    Calls Try.prog 32 #[ptr p] w fun e w' => ∃ u, e = .returned u ∧ Below w.heap.size w w' ∧ Own 3 1 w.heap.size l.length (ics l) u w' := by
  obtain ⟨bv, O, m⟩ := h
  have HB := O.has (List.mem_cons_self ..)
  have lt := HB.lt
  have c8 : w.cell? ⟨p, 8, none⟩ = some (.int .i64 G.towers) := HB.cell 8
  have c10 : w.cell? ⟨p, 10, none⟩ = some (.bool G.noted) := HB.cell 10
  have c19 : w.cell? ⟨p, 19, none⟩ = some (.int .i64 G.num) := HB.cell 19
  have HH := Lib.hid HB
  clear O m HB
  subst hl
  unfold dueL
  cases hn : G.noted with
  | false =>
    rw [hn] at c10
    go_enter Try.func32, Try.ntmps32
    go_wp2
    go_ret
    exact ⟨_, rfl, by (repeat' (first | (with_reducible exact Below.refl _ _) | (with_reducible refine bplus ?_ _ _) | (with_reducible refine balloc ?_ _) | (with_reducible refine Below.drew ?_) | (with_reducible refine bdrewN ?_ _) | (with_reducible refine Below.setCell ?_ (by go_size) _))), Own.mk .void (Ow.start w)⟩
  | true =>
    rw [hn] at c10
    rw [if_pos rfl]
    have HS := Lib.hid (Ow.start w)
    have hz1 : (0 : Int) ≤ (G.towers : Int) := by omega
    have hz2 : (G.towers : Int) ≤ 16 := by omega
    go_enter Try.func32, Try.ntmps32
    go_wp2_with fail
    refine wp_region_rq (by kernel_rfl) (by kernel_rfl) (by kernel_rfl) ?_
    repeat (first
      | (refine B_skip ?_ ?_; (· rfl); (try simp only [Act.put, List.setIfInBounds_toArray, List.set_cons_zero, List.set_cons_succ]))
      | (refine B_move rfl ?_ ?_; (· rfl); (try simp only [Act.eval, Act.put, Array.getD_eq_getD_getElem?, List.getElem?_toArray, List.getElem?_cons_succ, List.getElem?_cons_zero, Option.getD_some, List.setIfInBounds_toArray, List.set_cons_zero, List.set_cons_succ]))
      | (refine B_plain ?_ ?_; (· rfl); intro K hK; go_big_quiet_op; with_reducible refine hK _ ?_; clear hK K)
      | (refine B_nilck rfl rfl ?_ ?_; (· rfl); (try simp only [Act.put, List.setIfInBounds_toArray, List.set_cons_zero, List.set_cons_succ])))
    refine B_nil ?_ rfl ?_ ?_
    · kernel_rfl
    · rfl
    rintro _ ⟨⟨g4, d4⟩, rfl⟩
    simp only [fin, Act.put, List.setIfInBounds_toArray, List.set_cons_zero, List.set_cons_succ]
    go_wp2_with fail
    go_loopw [3, 24] (fun c i wr => ∃ (k : Nat) (B : List Blk), i = .int .i64 k ∧ k ≤ G.towers ∧ Row 3 1 c (duK G k).length (ics (duK G k)) B ∧ Ow wr w B) (fun _ i _ => G.towers - (intOf i).toNat)
    case atStart => exact ⟨0, [], rfl, by omega, .void, HS.out.plus _ _⟩
    case round =>
      obtain ⟨k, B, rfl, hk, R, O⟩ := hrel
      obtain ⟨ac, cc, rfl⟩ := R.slice
      have HR := Lib.hid R
      have HO := Lib.hid O
      have d19 := (O.old lt 19).trans c19
      have ltr : p < wr.heap.size := Nat.lt_of_lt_of_le lt O.mem.size
      clear R O c8 c10 c19
      by_cases hlt : k < G.towers
      · have ds := (HO.out.old lt (21 + k)).trans (HH.out.cell (21 + k))
        rw [gcs_said _ _ _ (by omega)] at ds
        have hd : decide ((k : Int) < (G.towers : Int)) = true := decide_eq_true (by omega)
        have hlen := duK_len G k
        by_cases hs : G.said k = G.num
        · have hb : (G.said k == G.num) = true := by rw [beq_iff_eq]; exact hs
          rw [hs] at ds
          go_wp2
          exact ⟨⟨k + 1, B, by simp, by omega, by rw [duK_no G k hs]; exact HR.out, HO.out⟩, by simp [intOf]; omega⟩
        · have hb : (G.said k == G.num) = false := by rw [beq_eq_false_iff_ne]; exact hs
          have HO1 := Lib.hid (HO.out.as (List.append_nil _).symm)
          go_wp2_with (at_builtin; refine HO1.out.appendNew rfl (.tmp 36) (.tmp 38) 47 rfl elt_int (by rfl) HR.out #[.int .i64 k] _ _ 1 1 (by rfl) (by simp) (by rfl) (by simp [Value.oneCell']) (by unfold maxLen; omega) (by omega) ((duK G k).length + 1) rfl (ics (duK G (k + 1))) (by rw [duK_yes G k hs, ics_app]; rfl) (fun ao' cap' B' w7 R7 O7 => ?_); (have HR7 := Lib.hid R7); (have HO7 := Lib.hid O7); clear R7 O7)
          exact ⟨⟨k + 1, B', by simp, by omega, by rw [show (duK G (k + 1)).length = (duK G k).length + 1 by rw [duK_yes G k hs]; simp]; exact HR7.out, HO7.out.as (List.append_nil _)⟩, by simp [intOf]; omega⟩
      · obtain rfl : k = G.towers := by omega
        go_wp2
        go_ret
        exact ⟨_, rfl, HO.out.below, Own.mk HR.out HO.out⟩
theorem due_nil (w : World) : Calls Try.prog 32 #[.pointer none] w fun e w' => e = .returned (.slice none 0 0) ∧ w' = w := by
  go_enter Try.func32, Try.ntmps32
  go_wp2
  go_ret
  exact ⟨rfl, rfl⟩

end Go.Proofs.Ytghaiplhakeahaa
