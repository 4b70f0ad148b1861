/- A region that draws its order, whose operations read and whose callees make memory but leave what there is: one walk. -/
import Derived.Test.YtghaiplhakeahaaL
import Derived.BigQuiet
import Derived.Deep.QuietTactic
namespace Go.Proofs.Ytghaiplhakeahaa
set_option linter.unusedSimpArgs false
set_option linter.unusedVariables false
open Go.RowKit

/-- What lies behind a world: new blocks, and draws. -/
structure Gd where
  g : Array Obj
  d : Nat
instance : Nonempty Gd := ⟨⟨#[], 0⟩⟩

/-- A region of calls that make memory, at the class of the worlds that have more behind them: walked once, in the text's order. -/
theorem wp_region_bq {P : Program} {id : Nat} {Q : Exit → Act → World → Prop} {a : Act} {w : World} {l : List Oper} (hm : P.follows .mixedOrders = true) (hB : Region.lexB .any l.toArray = true)
    (h : wpQuiet P l.toArray (fun w' => ∃ x : Gd, w' = plus w x.g x.d) (fun a' => ∀ w', (∃ x : Gd, w' = plus w x.g x.d) → Q .normal a' w') l a) : (Code.region id l.toArray true).wp P Q a w :=
  wp_region_quiet (C := fun w' => ∃ x : Gd, w' = plus w x.g x.d) hm hB ⟨⟨#[], w.drawn + 1⟩, by simp [plus]⟩ (by simpa using h)

/-- A callee's contract, met in that class. -/
theorem quiet_below {P : Program} {f : FuncId} {args : Array Value} {w : World} {x : Gd} {v : Value}
    (h : Calls P f args (plus w x.g x.d) fun e w' => e = .returned v ∧ Below (plus w x.g x.d).heap.size (plus w x.g x.d) w') :
    Calls P f args (plus w x.g x.d) fun e w'' => e = .returned v ∧ ∃ y : Gd, w'' = plus w y.g y.d :=
  h.mono fun _ _ ⟨he, hb⟩ => by
    obtain ⟨g, d, rfl⟩ := plus_of_below hb
    exact ⟨he, ⟨x.g ++ g, d⟩, by rw [plus_plus]⟩

theorem quiet_same {P : Program} {f : FuncId} {args : Array Value} {w : World} {x : Gd} {v : Value}
    (h : Calls P f args (plus w x.g x.d) fun e w' => e = .returned v ∧ w' = plus w x.g x.d) :
    Calls P f args (plus w x.g x.d) fun e w'' => e = .returned v ∧ ∃ y : Gd, w'' = plus w y.g y.d :=
  h.mono fun _ _ ⟨he, hb⟩ => ⟨he, x, hb⟩

end Go.Proofs.Ytghaiplhakeahaa
