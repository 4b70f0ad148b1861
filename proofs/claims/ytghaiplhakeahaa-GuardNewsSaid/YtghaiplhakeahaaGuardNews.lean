/- The law GuardNews: its walk. -/
import Derived.Test.YtghaiplhakeahaaGb
import Derived.Test.YtghaiplhakeahaaGr
import Derived.Test.YtghaiplhakeahaaGv
namespace Go.Proofs.Ytghaiplhakeahaa
set_option linter.unusedSimpArgs false
set_option linter.unusedVariables false
open Go.RowKit

theorem Below.of_below {w w' : World} {n : Nat} {w0 : World} (h : Below n w0 w) (hn : n ≤ w.heap.size) (hb : Below w.heap.size w w') : Below n w0 w' := h.trans (hb.mono hn)
set_option maxRecDepth 100000 in
set_option maxHeartbeats 4000000 in
theorem guardNews_yes (n k : Nat) (h1 : 1 ≤ n) (h2 : n ≤ 16) (h3 : 1 ≤ k) (h4 : k ≤ n) (w : World) :
    Calls Try.prog 10 #[.int .i64 n, .int .i64 k] w fun e w' => e = .returned (.bool true) ∧ Below w.heap.size w w' := by
  have HS := Lib.hid (Ow.start w)
  go_enter Try.func10, Try.ntmps10
  go_wp2_with fail
  refine (nonce_to _).mono ?_
  rintro e w1 ⟨rfl, hb1⟩
  have HO1 := Lib.hid (HS.out.of_below hb1)
  clear hb1
  go_wp2_with fail
  refine (gnew_yes nonceX n k _ w [] HO1.out h1 h2 h3 h4).mono ?_
  rintro e w2 ⟨p, rfl, O2⟩
  have H2 : Hid (Gu w2 w [] [] p (newG nonceX n k)) := ⟨.slice none 0 0, O2, (show Msg w [] (.slice none 0 0) (newG nonceX n k).box from Sl.nil w [])⟩
  clear O2 HO1 HS
  go_wp2_with fail
  refine (rnew_yes n k h1 h2 h3 h4 _).mono ?_
  rintro e w3 ⟨hv, rfl, hb3, hw3⟩
  obtain ⟨ah, ch, rfl⟩ := hw3.slice
  have H3 := Lib.hid ((H2.out.of_below hb3).alloc (.cells #[.int .i64 n, .int .i64 k, .int .i64 (-1), .string ByteArray.empty, .slice ah n ch, .bool false, .int .i64 0, .int .i64 0] 61))
  clear hb3 hw3 H2
  go_wp2_with fail
  refine (wake_nil _).mono ?_
  rintro e w4 ⟨rfl, rfl⟩
  go_wp2_with fail
  refine (newest_nil _).mono ?_
  rintro e w5 ⟨rfl, hb5⟩
  have H5 := Lib.hid ((H3.out.of_below hb5).alloc (.cells #[.int .u8 0, .int .u8 0, .int .u8 0, .int .u8 0, .int .u8 0, .int .u8 0, .int .u8 0, .int .u8 0, .int .i64 0, .slice none 0 0] 29))
  clear hb5 H3
  go_wp2_with fail
  refine (told_to _).mono ?_
  rintro e w6 ⟨rfl, hb6⟩
  have H6 := Lib.hid (H5.out.of_below hb6)
  clear hb6 H5
  go_wp2_with fail
  refine (note_nil 1 _ _).mono ?_
  rintro e w6 ⟨rfl, rfl⟩
  go_wp2_with fail
  refine (ack_nil 0 0 _).mono ?_
  rintro e w6 ⟨rfl, rfl⟩
  go_wp2_with fail
  refine (sleep_nil 0 0 0 _).mono ?_
  rintro e w7 ⟨rfl, hb7⟩
  have H7 := Lib.hid (H6.out.of_below hb7)
  clear hb7 H6
  go_wp2_with fail
  refine (has_nil 0 _).mono ?_
  rintro e w6 ⟨rfl, rfl⟩
  go_wp2_with fail
  refine (safe_nil _).mono ?_
  rintro e w6 ⟨rfl, rfl⟩
  go_wp2_with fail
  refine (asleep_nil 0 _).mono ?_
  rintro e w6 ⟨rfl, rfl⟩
  go_wp2_with fail
  refine (due_nil _).mono ?_
  rintro e w6 ⟨rfl, rfl⟩
  go_wp2_with fail
  refine (gclone_nil _).mono ?_
  rintro e w6 ⟨rfl, rfl⟩
  go_wp2_with fail
  refine (gsame_nn _).mono ?_
  rintro e w6 ⟨rfl, rfl⟩
  go_wp2_with fail
  refine (gsame_np p _).mono ?_
  rintro e w7 ⟨rfl, rfl⟩
  go_wp2_with fail
  refine (safe_to p (newG nonceX n k) _ w [] [] H7.out h2 true rfl).mono ?_
  rintro e w8 ⟨rfl, hb8⟩
  have H8 := Lib.hid (H7.out.of_below hb8)
  clear hb8 H7
  go_wp2_with fail
  refine (due_to p (newG nonceX n k) _ w [] [] H8.out h2 [] rfl).mono ?_
  rintro e w9 ⟨u, rfl, hb9, hu9⟩
  obtain ⟨au, cu, rfl⟩ := hu9.slice
  have H9 := Lib.hid (H8.out.of_below hb9)
  clear hb9 hu9 H8
  go_wp2
  go_ret
  exact ⟨rfl, H9.out.below⟩
set_option maxRecDepth 100000 in
set_option maxHeartbeats 4000000 in
theorem guardNews_no (n k : Int) (h : ¬(1 ≤ n ∧ n ≤ 16 ∧ 1 ≤ k ∧ k ≤ n)) (w : World) :
    Calls Try.prog 10 #[.int .i64 n, .int .i64 k] w fun e w' => e = .returned (.bool true) ∧ Below w.heap.size w w' := by
  have HS := Lib.hid (Ow.start w)
  have HH := Lib.hid h
  clear h
  go_enter Try.func10, Try.ntmps10
  go_wp2_with fail
  refine (nonce_to _).mono ?_
  rintro e w1 ⟨rfl, hb1⟩
  have H1 := Lib.hid (HS.out.of_below hb1)
  clear hb1
  go_wp2_with fail
  refine (gnew_no nonceX n k HH.out _).mono ?_
  rintro e w2 ⟨rfl, hb2⟩
  have H2 := Lib.hid (H1.out.of_below hb2)
  clear hb2 H1
  go_wp2_with fail
  refine (rnew_no n k HH.out _).mono ?_
  rintro e w3 ⟨rfl, hb3⟩
  have H3 := Lib.hid ((H2.out.of_below hb3).alloc (.cells #[.int .i64 0, .int .i64 0, .int .i64 0, .string ByteArray.empty, .slice none 0 0, .bool false, .int .i64 0, .int .i64 0] 61))
  clear hb3 H2
  go_wp2_with fail
  refine (wake_nil _).mono ?_
  rintro e w4 ⟨rfl, rfl⟩
  go_wp2_with fail
  refine (newest_nil _).mono ?_
  rintro e w5 ⟨rfl, hb5⟩
  have H5 := Lib.hid ((H3.out.of_below hb5).alloc (.cells #[.int .u8 0, .int .u8 0, .int .u8 0, .int .u8 0, .int .u8 0, .int .u8 0, .int .u8 0, .int .u8 0, .int .i64 0, .slice none 0 0] 29))
  clear hb5 H3
  go_wp2_with fail
  refine (told_to _).mono ?_
  rintro e w6 ⟨rfl, hb6⟩
  have H6 := Lib.hid (H5.out.of_below hb6)
  clear hb6 H5
  go_wp2_with fail
  refine (note_nil 1 _ _).mono ?_
  rintro e w6 ⟨rfl, rfl⟩
  go_wp2_with fail
  refine (ack_nil 0 0 _).mono ?_
  rintro e w6 ⟨rfl, rfl⟩
  go_wp2_with fail
  refine (sleep_nil 0 0 0 _).mono ?_
  rintro e w7 ⟨rfl, hb7⟩
  have H7 := Lib.hid (H6.out.of_below hb7)
  clear hb7 H6
  go_wp2_with fail
  refine (has_nil 0 _).mono ?_
  rintro e w6 ⟨rfl, rfl⟩
  go_wp2_with fail
  refine (safe_nil _).mono ?_
  rintro e w6 ⟨rfl, rfl⟩
  go_wp2_with fail
  refine (asleep_nil 0 _).mono ?_
  rintro e w6 ⟨rfl, rfl⟩
  go_wp2_with fail
  refine (due_nil _).mono ?_
  rintro e w6 ⟨rfl, rfl⟩
  go_wp2_with fail
  refine (gclone_nil _).mono ?_
  rintro e w6 ⟨rfl, rfl⟩
  go_wp2_with fail
  refine (gsame_nn _).mono ?_
  rintro e w6 ⟨rfl, rfl⟩
  go_wp2
  go_ret
  exact ⟨rfl, H7.out.below⟩

end Go.Proofs.Ytghaiplhakeahaa
