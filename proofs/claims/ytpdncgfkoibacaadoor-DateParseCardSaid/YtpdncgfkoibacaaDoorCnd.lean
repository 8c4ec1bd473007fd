/- The second half of a statement of a function's body, so that a long walk may be parted there. Of no program. -/
import Derived.Test.YtpdncgfkoibacaaDoorRest
namespace Go.Flow

/-- The second half of a function's n-th statement. -/
def cndO : Option Code → Option Code
  | some (.seq (.seq _ c) _) => some c
  | _ => none
def cnd (n : Nat) (f : Func) : Code := (cndO (restO n f.body)).getD .skip
theorem wp_cnd {n : Nat} {f : Func} {c : Code} {P : Program} {Q : Exit → Act → World → Prop} {a : Act} {w : World} (h : cndO (restO n f.body) = some c) (H : c.wp P Q a w) : (cnd n f).wp P Q a w := by
  unfold cnd; rw [h]; exact H
theorem wp_of_cnd {n : Nat} {f : Func} {c : Code} {P : Program} {Q : Exit → Act → World → Prop} {a : Act} {w : World} (h : cndO (restO n f.body) = some c) (H : (cnd n f).wp P Q a w) : c.wp P Q a w := by
  unfold cnd at H; rw [h] at H; exact H
end Go.Flow
