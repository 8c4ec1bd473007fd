/- The rest of a function's body behind its first statements, so that a long walk may be parted into theorems. Of no program. -/
import Derived.WalkKit
namespace Go.Flow

def restO : Nat → Option Code → Option Code
  | 0, c => c
  | n + 1, some (.seq _ b) => restO n (some b)
  | _ + 1, _ => none
/-- A function's body without its first n statements. -/
def rest (n : Nat) (f : Func) : Code := (restO n f.body).getD .skip
theorem wp_rest {n : Nat} {f : Func} {c : Code} {P : Program} {Q : Exit → Act → World → Prop} {a : Act} {w : World} (h : restO n f.body = some c) (H : c.wp P Q a w) : (rest n f).wp P Q a w := by
  unfold rest; rw [h]; exact H
theorem wp_of_rest {n : Nat} {f : Func} {c : Code} {P : Program} {Q : Exit → Act → World → Prop} {a : Act} {w : World} (h : restO n f.body = some c) (H : (rest n f).wp P Q a w) : c.wp P Q a w := by
  unfold rest at H; rw [h] at H; exact H
end Go.Flow
