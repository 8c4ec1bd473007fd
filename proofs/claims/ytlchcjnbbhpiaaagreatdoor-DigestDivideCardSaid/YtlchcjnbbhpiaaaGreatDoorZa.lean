/- A range over a function whose iterator keeps its state in a cell of its own, and whose body is never left early: the law of the statement. Of no program.
   The calendar from 2000 to 2199 in plain integers: days before a year and a month, the date of a day, and its uniqueness. No program in sight.
   The texts of dates in plain lists of bytes: decimal digits, the names of days and months, the text of a minute in a zone. No program in sight.
   What the parser of dates computes, in plain lists of bytes: the scanner's steps, the parts of a date, the zone, the result. No program in sight.
   A text of the parts of a date, with one or two digits for a day, other blanks, seconds or none, capital or small letters, has the minute of its parts. No program in sight.
   The text of a minute in a zone, and its variants, have that minute; only the text of zone 0 is canonical. No program in sight.
   Digests as plain data: errors, lines, text, and what Burst reads of a text. Of no program.
   Digests as plain data: lines, decimal numbers, first lines. Of no program.
   Digests as plain data: what is read of a text is its text. Of no program.
   Digests as plain data: the text of a digest is read. Of no program.
   Digests as plain data: protected texts; the lines of contents, one by one. Of no program.
   Digests as plain data: dividing. Of no program.
   Digests as plain data: joining; builders. Of no program.
   Digests as plain data: the pieces of a text, one by one. Of no program.
   The example by which the laws ask whether the package answers: it is accepted, and Burst gives it back. Of no program.
   What the laws' walks ask of the plain laws of digests: an error of Burst is one, bodies are no longer than the text. Of no program.
   Texts of zeros: what Protect and Burst answer. Of no program. -/
import Derived.RangeFuncSeq
import Derived.RangeFuncIn
import Derived.RangeFuncLeaves
import Derived.Lib.ItoaNum
import Derived.Lib.Join
import Derived.Lib.IndexMore
import Derived.Lib.LastIndexLaws
import Derived.Lib.AtoiTie
namespace Go.Rg
open Go Go.RowKit
variable {F : Fence} {n : Nat} {P : Program}
/-- What an iterator is asked for: all of xs come, one by one. St: what a step of the iterator's own does; Kp: what a round keeps. -/
def SeqAll {α : Type} (F : Fence) (n : Nat) (P : Program) (g : Nat) (lb : Array Value) (enc : α → Value) (Kp St : World → World → Prop) (xs : List α) (w : World) : Prop :=
 ∀ (l : Nat) (J : List α → World → Prop) (W : World), Kp w W → (∀ pre A B, J pre A → St A B → J pre B) →
  (∀ pre x W1, J pre W1 → (∃ r, xs = pre ++ x :: r) → YieldAt F (n - 1) P l #[enc x] W1 fun e W' => e = .returned (.bool true) ∧ J (pre ++ [x]) W' ∧ Kp W1 W') →
  J [] W →
  CallsIn F n P g (#[.func (.yield l) #[] #[]] ++ lb) W fun e W' => (∃ v, e = .returned v) ∧ J xs W'
/-- How a round's body ends. -/
def endsIn (B : Nat) (R : World → Prop) (W : World) : Exit → Act → World → Prop
 | .normal, _, W' => (W'.heap[B]? = W.heap[B]? ∧ W'.heap[B + 1]? = W.heap[B + 1]?) ∧ R W'
 | _, _, _ => False
theorem rangeAll {α : Type} {g : Operand} {ps : Array Tmp} {assign body : Code} {Q : Exit → Act → World → Prop} {a : Act} {w : World}
  (hro : F.round = none) (h1 : 1 ≤ n) {gf : Nat} {lb : Array Value} (hg : a.eval g = .func (.func gf) #[] lb) (hFg : F.fn gf) (eg : ∀ args w, (callFunc gf args).run P w = .ok (.enter gf args) w)
  {enc : α → Value} {Kp St : World → World → Prop} {xs : List α} {w0 : World} (hseq : SeqAll F (n - 1) P gf lb enc Kp St xs w0) (h0w : Kp w0 w) (hps : ps.size = 1)
  (hKt : ∀ {A B C : World}, Kp A B → Kp B C → Kp A C) (hKa : ∀ (A : World) (o : Obj), w.heap.size ≤ A.heap.size → Kp A (A.alloc o))
  (hKb : ∀ (A : World) (l : Nat) (r : Loop) (o' : Obj), w.heap.size ≤ l → A.heap[l]? = some (.loop r) → Kp A (A.putObj l o'))
  (hSb : ∀ (A B : World) (k : Nat), w.heap.size ≤ k → k < A.heap.size → St A B → B.heap[k]? = A.heap[k]?)
  (I : List α → World → Prop) (hIa : ∀ pre A o, w.heap.size ≤ A.heap.size → I pre A → I pre (A.alloc o))
  (hIb : ∀ pre (A : World) (l : Nat) (r : Loop) (o' : Obj), w.heap.size ≤ l → A.heap[l]? = some (.loop r) → I pre A → I pre (A.putObj l o'))
  (hIs : ∀ pre A B, I pre A → St A B → I pre B) (h0 : I [] w) (a₁ : α → Act)
  (hassign : ∀ (l : Nat) (x : α) (W : World) (K : Act → World → Prop), K (a₁ x) W →
   assign.wpIn (F.inRound l) (n - 1 - 1) P (Exit.then K (fun _ _ _ => False)) { tmps := (ps.zip #[enc x]).foldl (fun t (p, v) => t.setIfInBounds p v) a.tmps, defers := [] } W)
  (hbody : ∀ (l : Nat) (pre : List α) (x : α) (W : World), I pre W → w.heap.size + 1 < W.heap.size → W.heap[w.heap.size]? = some (.deferred (some [])) → (∃ r, W.heap[w.heap.size + 1]? = some (.loop r)) → (∃ r, xs = pre ++ x :: r) → body.wpIn (F.inRound l) (n - 1 - 1) P (endsIn w.heap.size (fun W' => Kp W W' ∧ I (pre ++ [x]) W') W) (a₁ x) W)
  (hdone : ∀ (W : World), I xs W → W.heap[w.heap.size]? = some (.deferred (some [])) → Q .normal { a with defers := { target := .collected w.heap.size, args := #[] } :: a.defers } W) :
  (Code.rangeFunc g ps assign body).wpIn F n P Q a w := by
 refine wpIn_rangeFunc fun fn hfn => ?_
 rw [hro]
 let rec' : LoopState → Loop := fun st => { state := st, pending := none, fn := fn, tmps := a.tmps, params := ps, assign := assign, body := body, defers := w.heap.size }
 have hrec : ∀ st, rec' st = { state := st, pending := none, fn := fn, tmps := a.tmps, params := ps, assign := assign, body := body, defers := w.heap.size } := fun _ => rfl
 generalize rec' = rc at hrec
 have hW1 : ((w.alloc (.deferred (some []))).alloc (.loop (rc .ready))).heap.size = w.heap.size + 2 := by simp
 have hL1 : ((w.alloc (.deferred (some []))).alloc (.loop (rc .ready))).heap[w.heap.size + 1]? = some (.loop (rc .ready)) := by
  have := World.alloc_heap_new (w.alloc (.deferred (some []))) (.loop (rc .ready)); rwa [World.size_alloc] at this
 have hD1 : ((w.alloc (.deferred (some []))).alloc (.loop (rc .ready))).heap[w.heap.size]? = some (.deferred (some [])) :=
  (Below.heap_alloc _ _ _ (by simp)).trans (World.alloc_heap_new w _)
 have hK1 : Kp w0 ((w.alloc (.deferred (some []))).alloc (.loop (rc .ready))) := hKt h0w (hKt (hKa w _ (Nat.le_refl _)) (hKa _ _ (by simp)))
 have hI1 : I [] ((w.alloc (.deferred (some []))).alloc (.loop (rc .ready))) := hIa _ _ _ (by simp) (hIa _ _ _ (Nat.le_refl _) h0)
 have hent : (Instr.enterLoop fn a.tmps ps assign body none).run P w = .ok (w.heap.size + 1, [{ target := .collected w.heap.size, args := #[] }]) ((w.alloc (.deferred (some []))).alloc (.loop (rc .ready))) := by
  rw [hrec]; exact run_enterLoop_outer fn a.tmps ps assign body
 generalize (w.alloc (.deferred (some []))).alloc (.loop (rc .ready)) = W1 at *
 refine ⟨w.heap.size + 1, [{ target := .collected w.heap.size, args := #[] }], W1, { target := .fn (.func gf) lb, args := #[.func (.yield (w.heap.size + 1)) #[] #[]] }, W1, gf, #[.func (.yield (w.heap.size + 1)) #[] #[]] ++ lb, W1, hent, ?_, ?_, ?_, fun _ => h1, ?_⟩
 ·simp only [resolve, hg]
  simp [go_sem]
 ·intro f' hf'; simp [Target.leads] at hf'; subst hf'; exact hFg
 ·simp [invoke, go_sem, eg]
 refine (hseq (w.heap.size + 1) (fun pre W => I pre W ∧ W.heap[w.heap.size + 1]? = some (.loop (rc .ready)) ∧ W.heap[w.heap.size]? = some (.deferred (some []))) W1 hK1 ?_ ?_ ⟨hI1, hL1, hD1⟩).mono ?_
 ·rintro pre A B ⟨hi, hl, hd⟩ hs
  exact ⟨hIs pre A B hi hs, (hSb A B _ (by omega) (Array.getElem?_eq_some_iff.1 hl).1 hs).trans hl, (hSb A B _ (Nat.le_refl _) (Array.getElem?_eq_some_iff.1 hd).1 hs).trans hd⟩
 ·rintro pre x W ⟨hi, hl, hd⟩ hx
  have hlt : w.heap.size + 1 < W.heap.size := (Array.getElem?_eq_some_iff.1 hl).1
  have hy := run_yield (P := P) (args := #[enc x]) hl (by rw [hrec]; simp [hps])
  rw [hrec] at hy
  refine ⟨fn, _, assign, body, hy, roundIn_of_wpIn hfn (hassign _ x W _ ?_)⟩
  refine ⟨_, run_beginRound hl (by rw [hrec]), ?_⟩
  have hl2 : (W.putObj (w.heap.size + 1) (.loop { rc .ready with state := .busy })).heap[w.heap.size + 1]? = some (.loop { rc .ready with state := .busy }) := World.putObj_heap_same hlt
  have hd2 : (W.putObj (w.heap.size + 1) (.loop { rc .ready with state := .busy })).heap[w.heap.size]? = some (.deferred (some [])) := (World.putObj_heap_other (by omega)).trans hd
  have hk2 : Kp W (W.putObj (w.heap.size + 1) (.loop { rc .ready with state := .busy })) := hKb _ _ _ _ (by omega) hl
  have hi2 := hIb pre W (w.heap.size + 1) _ (.loop { rc .ready with state := .busy }) (by omega) hl hi
  refine wpIn_mono (hbody _ pre x _ hi2 (Array.getElem?_eq_some_iff.1 hl2).1 hd2 ⟨_, hl2⟩ hx) ?_
  intro e a3 W3 hp
  cases e with
  | normal =>
   obtain ⟨⟨e1, e2⟩, hkp, hi3⟩ := hp
   have hl3 := e2.trans hl2
   have hd3 := e1.trans hd2
   have hr := run_endRound (P := P) none hl3
   refine ⟨_, _, hr, rfl, ⟨hIb _ _ _ _ _ (by omega) hl3 hi3, ?_, (World.putObj_heap_other (by omega)).trans hd3⟩, hKt hk2 (hKt hkp (hKb _ _ _ _ (by omega) hl3))⟩
   rw [World.putObj_heap_same (Array.getElem?_eq_some_iff.1 hl3).1, hrec]
   rfl
  | ret => exact hp.elim
  | exit id => exact hp.elim
  | goto t => exact hp.elim
  | panic c => exact hp.elim
  | outgrown => exact hp.elim
 ·rintro e W2 ⟨⟨v, rfl⟩, hi, hl, hd⟩
  have hr := run_endLoop (P := P) hl (by rw [hrec]; simp)
  rw [hrec] at hr
  exact ⟨none, _, hr, hdone _ (hIb _ _ _ _ _ (by omega) hl hi) ((World.putObj_heap_other (by omega)).trans hd)⟩
end Go.Rg
namespace Go.Dt.Cal
def lp (y : Int) : Int := if (y % 4 = 0 ∧ ¬ y % 100 = 0) ∨ y % 400 = 0 then 1 else 0
def yd (y : Int) : Int := 365 + lp y
def md (y m : Int) : Int := if m = 2 then 28 + lp y else if m = 4 ∨ m = 6 ∨ m = 9 ∨ m = 11 then 30 else 31
def dby (y : Int) : Int := 365 * (y - 2000) + (y - 1997) / 4 - (y - 1901) / 100 + (y - 1601) / 400
def cum (y m : Int) : Int :=
 if m ≤ 1 then 0 else if m = 2 then 31 else
 (if m = 3 then 59 else if m = 4 then 90 else if m = 5 then 120 else if m = 6 then 151 else if m = 7 then 181 else if m = 8 then 212
  else if m = 9 then 243 else if m = 10 then 273 else if m = 11 then 304 else if m = 12 then 334 else 365) + lp y
theorem lp_01 (y : Int) : 0 ≤ lp y ∧ lp y ≤ 1 := by unfold lp; split <;> omega
theorem yd_bd (y : Int) : 365 ≤ yd y ∧ yd y ≤ 366 := by have := lp_01 y; unfold yd; omega
theorem md_bd (y m : Int) : 28 ≤ md y m ∧ md y m ≤ 31 := by have := lp_01 y; unfold md; split <;> (try split) <;> omega
theorem dby_succ (y : Int) : dby (y + 1) = dby y + yd y := by
 unfold dby yd lp; split <;> omega
theorem dby_mono {a b : Int} (h : a ≤ b) : dby a ≤ dby b := by unfold dby; omega
theorem dby_2000 : dby 2000 = 0 := by decide
theorem dby_2200 : dby 2200 = 73049 := by decide
theorem cum_one (y : Int) : cum y 1 = 0 := by simp [cum]
theorem cum_succ (y m : Int) (h1 : 1 ≤ m) (h2 : m ≤ 12) : cum y (m + 1) = cum y m + md y m := by
 have hm : m = 1 ∨ m = 2 ∨ m = 3 ∨ m = 4 ∨ m = 5 ∨ m = 6 ∨ m = 7 ∨ m = 8 ∨ m = 9 ∨ m = 10 ∨ m = 11 ∨ m = 12 := by omega
 rcases hm with rfl | rfl | rfl | rfl | rfl | rfl | rfl | rfl | rfl | rfl | rfl | rfl <;> simp [cum, md] <;> omega
theorem cum_13 (y : Int) : cum y 13 = yd y := by simp [cum, yd]
theorem cum_bd (y m : Int) (h2 : m ≤ 13) : 0 ≤ cum y m ∧ cum y m ≤ yd y := by
 have := lp_01 y
 by_cases h1 : m ≤ 1
 ·simp [cum, h1]; have := yd_bd y; omega
 ·have hm : m = 2 ∨ m = 3 ∨ m = 4 ∨ m = 5 ∨ m = 6 ∨ m = 7 ∨ m = 8 ∨ m = 9 ∨ m = 10 ∨ m = 11 ∨ m = 12 ∨ m = 13 := by omega
  rcases hm with rfl | rfl | rfl | rfl | rfl | rfl | rfl | rfl | rfl | rfl | rfl | rfl <;> simp [cum, yd] <;> omega
theorem cum_lt (y : Int) {a b : Int} (h1 : 1 ≤ a) (h : a < b) (hb : b ≤ 13) : cum y a + md y a ≤ cum y b := by
 have key : ∀ (k : Nat) (c : Int), c = a + 1 + k → c ≤ 13 → cum y a + md y a ≤ cum y c := by
  intro k
  induction k with
  | zero => intro c hc hl; have := cum_succ y a h1 (by omega); obtain rfl : c = a + 1 := by omega
            omega
  | succ k ih =>
   intro c hc hl
   have e := ih (c - 1) (by omega) (by omega)
   have s := cum_succ y (c - 1) (by omega) (by omega)
   have m := md_bd y (c - 1)
   have : c - 1 + 1 = c := by omega
   rw [this] at s; omega
 exact key (b - a - 1).toNat b (by omega) hb
/-- The year of a day: at most n years from y on are looked at. -/
def yr : Nat → Int → Int → Int
 | 0, _, y => y
 | n + 1, d, y => if d < dby (y + 1) then y else yr n d (y + 1)
def mo : Nat → Int → Int → Int → Int
 | 0, _, _, m => m
 | n + 1, y, r, m => if r < cum y (m + 1) then m else mo n y r (m + 1)
def civY (d : Int) : Int := yr 199 d 2000
def civM (d : Int) : Int := mo 11 (civY d) (d - dby (civY d)) 1
def civD (d : Int) : Int := d - dby (civY d) - cum (civY d) (civM d) + 1
theorem yr_spec : ∀ (n : Nat) (d y : Int), dby y ≤ d → d < dby (y + n + 1) →
  y ≤ yr n d y ∧ yr n d y ≤ y + n ∧ dby (yr n d y) ≤ d ∧ d < dby (yr n d y + 1) := by
 intro n
 induction n with
 | zero => intro d y h1 h2; simp [yr]; exact ⟨h1, by simpa using h2⟩
 | succ n ih =>
  intro d y h1 h2
  unfold yr
  split
  ·rename_i h; exact ⟨by omega, by omega, h1, h⟩
  ·rename_i h
   have := ih d (y + 1) (by omega) (by rw [show y + 1 + (n : Int) + 1 = y + ((n + 1 : Nat) : Int) + 1 by omega]; exact h2)
   refine ⟨by omega, by omega, this.2.2.1, this.2.2.2⟩
theorem mo_spec : ∀ (n : Nat) (y r m : Int), cum y m ≤ r → r < cum y (m + n + 1) →
  m ≤ mo n y r m ∧ mo n y r m ≤ m + n ∧ cum y (mo n y r m) ≤ r ∧ r < cum y (mo n y r m + 1) := by
 intro n
 induction n with
 | zero => intro y r m h1 h2; simp [mo]; exact ⟨h1, by simpa using h2⟩
 | succ n ih =>
  intro y r m h1 h2
  unfold mo
  split
  ·rename_i h; exact ⟨by omega, by omega, h1, h⟩
  ·rename_i h
   have := ih y r (m + 1) (by omega) (by rw [show m + 1 + (n : Int) + 1 = m + ((n + 1 : Nat) : Int) + 1 by omega]; exact h2)
   refine ⟨by omega, by omega, this.2.2.1, this.2.2.2⟩
theorem civY_spec (d : Int) (h0 : 0 ≤ d) (h1 : d ≤ 73048) : 2000 ≤ civY d ∧ civY d ≤ 2199 ∧ dby (civY d) ≤ d ∧ d < dby (civY d + 1) := by
 have := yr_spec 199 d 2000 (by rw [dby_2000]; exact h0) (by rw [show (2000 : Int) + (199 : Nat) + 1 = 2200 by omega, dby_2200]; omega)
 exact ⟨this.1, by have := this.2.1; simp at this; exact this, this.2.2.1, this.2.2.2⟩
theorem civM_spec (d : Int) (h0 : 0 ≤ d) (h1 : d ≤ 73048) : 1 ≤ civM d ∧ civM d ≤ 12 ∧ cum (civY d) (civM d) ≤ d - dby (civY d) ∧ d - dby (civY d) < cum (civY d) (civM d + 1) := by
 have hy := civY_spec d h0 h1
 have hs := dby_succ (civY d)
 have := mo_spec 11 (civY d) (d - dby (civY d)) 1 (by rw [cum_one]; omega) (by rw [show (1 : Int) + (11 : Nat) + 1 = 13 by omega, cum_13]; omega)
 exact ⟨this.1, by have := this.2.1; simp at this; exact this, this.2.2.1, this.2.2.2⟩
theorem civD_spec (d : Int) (h0 : 0 ≤ d) (h1 : d ≤ 73048) : 1 ≤ civD d ∧ civD d ≤ md (civY d) (civM d) ∧ dby (civY d) + cum (civY d) (civM d) + civD d - 1 = d := by
 have hm := civM_spec d h0 h1
 have hs := cum_succ (civY d) (civM d) hm.1 hm.2.1
 unfold civD; omega
/-- A year between whose bounds a day lies is the day's. -/
theorem civY_eq {d y : Int} (h0 : 0 ≤ d) (h1 : d ≤ 73048) (a : dby y ≤ d) (b : d < dby (y + 1)) : civY d = y := by
 have hy := civY_spec d h0 h1
 rcases Int.lt_trichotomy (civY d) y with h | h | h
 ·have := dby_mono (show civY d + 1 ≤ y by omega); omega
 ·exact h
 ·have := dby_mono (show y + 1 ≤ civY d by omega); omega
theorem civM_eq {d m : Int} (h0 : 0 ≤ d) (h1 : d ≤ 73048) (m1 : 1 ≤ m) (m2 : m ≤ 12) (a : cum (civY d) m ≤ d - dby (civY d)) (b : d - dby (civY d) < cum (civY d) (m + 1)) : civM d = m := by
 have hm := civM_spec d h0 h1
 have hs := cum_succ (civY d) (civM d) hm.1 hm.2.1
 have hs' := cum_succ (civY d) m m1 m2
 rcases Int.lt_trichotomy (civM d) m with h | h | h
 ·have := cum_lt (civY d) hm.1 h (by omega); omega
 ·exact h
 ·have := cum_lt (civY d) m1 h (by omega); omega
/-- The number of a date's day. -/
def dayNum (y m d : Int) : Int := dby y + cum y m + d - 1
theorem dayNum_bd {y m d : Int} (y1 : 2000 ≤ y) (y2 : y ≤ 2199) (m1 : 1 ≤ m) (m2 : m ≤ 12) (d1 : 1 ≤ d) (d2 : d ≤ md y m) : 0 ≤ dayNum y m d ∧ dayNum y m d ≤ 73048 ∧ dby y ≤ dayNum y m d ∧ dayNum y m d < dby (y + 1) := by
 have a := dby_mono y1; have b := dby_mono (show y + 1 ≤ 2200 by omega); have c := cum_succ y m m1 m2
 have e := cum_bd y m (by omega); have f := cum_bd y (m + 1) (by omega); have g := dby_succ y
 rw [dby_2000] at a; rw [dby_2200] at b
 unfold dayNum; omega
theorem dayNum_civ (n : Int) (h0 : 0 ≤ n) (h1 : n ≤ 73048) : dayNum (civY n) (civM n) (civD n) = n := (civD_spec n h0 h1).2.2
end Go.Dt.Cal
namespace Go.Dt
open Cal
/-- The byte of the last decimal digit of a number. -/
def dg (n : Int) : UInt8 := UInt8.ofNat (48 + (n % 10).toNat)
def dv : Nat → Int → Int
 | 0, n => n
 | k + 1, n => dv k n / 10
/-- The last k decimal digits of a number. -/
def digs : Nat → Int → List UInt8
 | 0, _ => []
 | k + 1, n => dg (dv k n) :: digs k n
theorem dv_nonneg (k : Nat) (n : Int) (h : 0 ≤ n) : 0 ≤ dv k n := by
 induction k with
 | zero => exact h
 | succ k ih => unfold dv; omega
theorem dv_le (k : Nat) (n : Int) (h : 0 ≤ n) : dv k n ≤ n := by
 induction k with
 | zero => exact Int.le_refl _
 | succ k ih => unfold dv; have := dv_nonneg k n h; omega
theorem digs_length (k : Nat) (n : Int) : (digs k n).length = k := by
 induction k with
 | zero => rfl
 | succ k ih => simp [digs, ih]
theorem digs2 (n : Int) : digs 2 n = [dg (n / 10), dg n] := rfl
theorem digs4 (n : Int) : digs 4 n = [dg (n / 10 / 10 / 10), dg (n / 10 / 10), dg (n / 10), dg n] := rfl
theorem dg_ofNat (n : Nat) : dg n = UInt8.ofNat (48 + n % 10) := by
 unfold dg; congr 2
theorem digs2_one {i : Nat} (h : i < 10) : digs 2 i = 48 :: Lib.decDigits i := by
 rw [Lib.decDigits_one h, digs2, dg_ofNat]
 have e : ((i : Int) / 10) = ((i / 10 : Nat) : Int) := by omega
 rw [e, dg_ofNat, show i / 10 % 10 = 0 by omega, show i % 10 = i by omega]; rfl
theorem digs2_two {i : Nat} (h1 : ¬ i < 10) (h2 : i < 100) : digs 2 i = Lib.decDigits i := by
 rw [Lib.decDigits_two h1 h2, digs2, dg_ofNat]
 have e : ((i : Int) / 10) = ((i / 10 : Nat) : Int) := by omega
 rw [e, dg_ofNat, show i / 10 % 10 = i / 10 by omega]
theorem digs4_four {i : Nat} (h1 : 1000 ≤ i) (h2 : i < 10000) : digs 4 i = Lib.decDigits i := by
 rw [Lib.decDigits, dif_neg (by omega), Lib.decDigits, dif_neg (by omega), Lib.decDigits_two (by omega) (by omega), digs4]
 have e1 : ((i : Int) / 10) = ((i / 10 : Nat) : Int) := by omega
 have e2 : (((i / 10 : Nat) : Int) / 10) = ((i / 10 / 10 : Nat) : Int) := by omega
 have e3 : (((i / 10 / 10 : Nat) : Int) / 10) = ((i / 10 / 10 / 10 : Nat) : Int) := by omega
 rw [e1, e2, e3, dg_ofNat, dg_ofNat, dg_ofNat, dg_ofNat, show i / 10 / 10 / 10 % 10 = i / 10 / 10 / 10 by omega]
 rfl
theorem digs4_split (a b : Int) (h2 : 0 ≤ b) (h3 : b < 100) : digs 4 (a * 100 + b) = digs 2 a ++ digs 2 b := by
 rw [digs4, digs2, digs2]
 have e1 : (a * 100 + b) / 10 = a * 10 + b / 10 := by omega
 have e2 : (a * 10 + b / 10) / 10 = a := by omega
 rw [e1, e2]
 have f1 : dg (a * 100 + b) = dg b := by unfold dg; congr 3; omega
 have f2 : dg (a * 10 + b / 10) = dg (b / 10) := by unfold dg; congr 3; omega
 rw [f1, f2]; rfl
def dayTab : List (List UInt8) := [[77, 111, 110], [84, 117, 101], [87, 101, 100], [84, 104, 117], [70, 114, 105], [83, 97, 116], [83, 117, 110]]
def monTab : List (List UInt8) := [[74, 97, 110], [70, 101, 98], [77, 97, 114], [65, 112, 114], [77, 97, 121], [74, 117, 110], [74, 117, 108], [65, 117, 103], [83, 101, 112], [79, 99, 116], [78, 111, 118], [68, 101, 99]]
def dayN (d : Int) : List UInt8 := dayTab.getD d.toNat []
def monN (m : Int) : List UInt8 := monTab.getD (m - 1).toNat []
def absI (n : Int) : Int := if n < 0 then -n else n
/-- The text of a minute in the zone of an offset, of which m is the sum. -/
def fmtText (m off : Int) : List UInt8 :=
 dayN ((m / 1440 + 5) % 7) ++ [44, 32] ++ digs 2 (civD (m / 1440)) ++ [32] ++ monN (civM (m / 1440)) ++ [32] ++ digs 4 (civY (m / 1440)) ++ [32] ++ digs 2 (m % 1440 / 60) ++ [58] ++ digs 2 (m % 60) ++ [32] ++
  [if off < 0 then 45 else 43] ++ digs 2 (absI off / 60) ++ digs 2 (absI off % 60)
def isDig (c : UInt8) : Bool := decide (48 ≤ c.toNat) && decide (c.toNat ≤ 57)
def isLet (c : UInt8) : Bool := (decide (65 ≤ c.toNat) && decide (c.toNat ≤ 90)) || (decide (97 ≤ c.toNat) && decide (c.toNat ≤ 122))
def isBl (c : UInt8) : Bool := c == 32 || c == 9
def isCh (x c : UInt8) : Bool := c == x
/-- A scanner's place and error. -/
structure St where
 p : Nat
 e : Nat
/-- The byte at a place, 0 behind the end. -/
def at0 (t : List UInt8) (p : Nat) : UInt8 := t.getD p 0
def sees (t : List UInt8) (q : UInt8 → Bool) (s : St) : Bool := s.e == 0 && decide (s.p < t.length) && q (at0 t s.p)
def failAt (s : St) (p e : Nat) : St := if s.e = 0 then ⟨p, e⟩ else s
def need (t : List UInt8) (q : UInt8 → Bool) (s : St) : St :=
 if sees t q s then ⟨s.p + 1, s.e⟩ else if s.p < t.length then failAt s s.p 3 else failAt s t.length 4
def needB (t : List UInt8) (q : UInt8 → Bool) (s : St) : UInt8 := if sees t q s then at0 t s.p else 0
def skip (t : List UInt8) (q : UInt8 → Bool) (s : St) : St := if s.e = 0 then ⟨s.p + ((t.drop s.p).takeWhile q).length, s.e⟩ else s
def blanks (t : List UInt8) (s : St) : St := skip t isBl (need t isBl s)
/-- k digits, and their number. -/
def digS (t : List UInt8) : Nat → St → St
 | 0, s => s
 | k + 1, s => need t isDig (digS t k s)
def digV (t : List UInt8) : Nat → St → Int
 | 0, _ => 0
 | k + 1, s => 10 * digV t k s + (needB t isDig (digS t k s)).toNat - 48
/-- A number of k digits, or of one more. -/
def numS (t : List UInt8) (k : Nat) (more : Bool) (s : St) : St := if more && sees t isDig (digS t k s) then digS t (k + 1) s else digS t k s
def numV (t : List UInt8) (k : Nat) (more : Bool) (s : St) : Int := if more && sees t isDig (digS t k s) then digV t (k + 1) s else digV t k s
def cap (c : UInt8) : UInt8 := if 97 ≤ c.toNat ∧ c.toNat ≤ 122 then c - 32 else c
def capL (l : List UInt8) : List UInt8 := l.map cap
def find3 (names : List (List UInt8)) (word : List UInt8) : Option Nat := names.findIdx? fun n => capL n == capL word
def word3 (t : List UInt8) (p : Nat) : List UInt8 := (t.drop p).take 3
def nameS (t : List UInt8) (names : List (List UInt8)) (s : St) : St :=
 if s.e = 0 then
  if t.length < s.p + 3 then ⟨t.length, 4⟩ else match find3 names (word3 t s.p) with
   | none => ⟨s.p, 3⟩
   | some _ => ⟨s.p + 3, 0⟩
 else s
def nameV (t : List UInt8) (names : List (List UInt8)) (s : St) : Nat :=
 if s.e = 0 then
  if t.length < s.p + 3 then 0 else (find3 names (word3 t s.p)).getD 0
 else 0
def zoneTab : List (List UInt8 × Int) :=
 [([67, 68, 84], -300), ([67, 83, 84], -360), ([69, 68, 84], -240), ([69, 83, 84], -300), ([71, 77, 84], 0), ([77, 68, 84], -360), ([77, 83, 84], -420), ([80, 68, 84], -420), ([80, 83, 84], -480), ([85, 84], 0), ([85, 84, 67], 0), ([90], 0)]
def zoneName (z : List UInt8) : Option Int := (zoneTab.find? fun r => r.1 == capL z).map (·.2)
def zh (z : List UInt8) : Int := digV z 2 ⟨1, 0⟩
def zs (z : List UInt8) : St := digS z 2 (digS z 2 ⟨1, 0⟩)
def zm (z : List UInt8) : Int := digV z 2 (digS z 2 ⟨1, 0⟩)
/-- The error and the offset of a zone. -/
def zoneE (z : List UInt8) : Nat :=
 match zoneName z with
 | some _ => 0
 | none => if z.length ≠ 5 ∨ (at0 z 0 ≠ 43 ∧ at0 z 0 ≠ 45) ∨ (zs z).e ≠ 0 ∨ 59 < zm z then 3 else if 840 < zh z * 60 + zm z then 2 else 0
def zoneV (z : List UInt8) : Int :=
 match zoneName z with
 | some o => o
 | none => if zoneE z ≠ 0 then 0 else if at0 z 0 = 45 then -(zh z * 60 + zm z) else zh z * 60 + zm z
def zoneSt (t : List UInt8) (s : St) : St :=
 if s.e = 0 then if s.p = t.length then ⟨s.p, 4⟩ else if zoneE (t.drop s.p) = 0 then s else ⟨s.p, zoneE (t.drop s.p)⟩ else s
def zoneOf (t : List UInt8) (s : St) : Int := if s.e = 0 then if s.p = t.length then 0 else zoneV (t.drop s.p) else 0
/-! The parts of a date, one behind the other. -/
def r0 : St := ⟨0, 0⟩
def hasW (t : List UInt8) : Bool := sees t isLet r0
def r1 (t : List UInt8) : St := if hasW t then skip t isBl (need t (isCh 44) (nameS t dayTab r0)) else r0
def pWd (t : List UInt8) : Int := if hasW t then nameV t dayTab r0 else -1
def r2 (t : List UInt8) : St := numS t 1 true (r1 t)
def pDay (t : List UInt8) : Int := numV t 1 true (r1 t)
def r3 (t : List UInt8) : St := blanks t (r2 t)
def r4 (t : List UInt8) : St := nameS t monTab (r3 t)
def pMon (t : List UInt8) : Int := nameV t monTab (r3 t) + 1
def r5 (t : List UInt8) : St := blanks t (r4 t)
def r6 (t : List UInt8) : St := numS t 4 false (r5 t)
def pYear (t : List UInt8) : Int := numV t 4 false (r5 t)
def r7 (t : List UInt8) : St := blanks t (r6 t)
def r8 (t : List UInt8) : St := numS t 2 false (r7 t)
def pHour (t : List UInt8) : Int := numV t 2 false (r7 t)
def r9 (t : List UInt8) : St := need t (isCh 58) (r8 t)
def r10 (t : List UInt8) : St := numS t 2 false (r9 t)
def pMin (t : List UInt8) : Int := numV t 2 false (r9 t)
def hasS (t : List UInt8) : Bool := sees t (isCh 58) (r10 t)
def r10a (t : List UInt8) : St := need t (isCh 58) (r10 t)
def r11 (t : List UInt8) : St := if hasS t then numS t 2 false (r10a t) else r10 t
def pSec (t : List UInt8) : Int := if hasS t then numV t 2 false (r10a t) else 0
def pSecAt (t : List UInt8) : Int := if hasS t then (r10a t).p else 0
def r12 (t : List UInt8) : St := blanks t (r11 t)
def r13 (t : List UInt8) : St := zoneSt t (r12 t)
def pOff (t : List UInt8) : Int := zoneOf t (r12 t)
def pLoc (t : List UInt8) : Int := dayNum (pYear t) (pMon t) (pDay t) * 1440 + pHour t * 60 + pMin t
/-- The minute, the place of the error, and the error of a text. -/
def parseF (t : List UInt8) : Int × Int × Int :=
 if 64 < t.length then (0, 64, 5)
 else if (r13 t).e ≠ 0 then (0, (r13 t).p, (r13 t).e)
 else if pYear t < 2000 ∨ 2199 < pYear t then (0, (r5 t).p, 2)
 else if pDay t < 1 ∨ md (pYear t) (pMon t) < pDay t then (0, (r1 t).p, 13)
 else if 23 < pHour t then (0, (r7 t).p, 13)
 else if 59 < pMin t then (0, (r9 t).p, 13)
 else if 60 < pSec t then (0, pSecAt t, 13)
 else if 0 ≤ pWd t ∧ pWd t ≠ (pLoc t / 1440 + 5) % 7 then (0, 0, 13)
 else if pLoc t - pOff t < 0 ∨ 105190559 < pLoc t - pOff t then (0, 0, 2)
 else (pLoc t - pOff t, 0, 0)
/-! Bounds. -/
theorem failAt_p {t : List UInt8} {s : St} {p e : Nat} (h : s.p ≤ t.length) (hp : p ≤ t.length) : (failAt s p e).p ≤ t.length := by
 unfold failAt; split
 ·exact hp
 ·exact h
theorem need_p {t : List UInt8} {q : UInt8 → Bool} {s : St} (h : s.p ≤ t.length) : (need t q s).p ≤ t.length := by
 unfold need; split
 ·rename_i hs; simp only [sees, Bool.and_eq_true, decide_eq_true_eq] at hs; exact hs.1.2
 ·split
  ·exact failAt_p h h
  ·exact failAt_p h (Nat.le_refl _)
theorem takeWhile_len (q : UInt8 → Bool) (l : List UInt8) : (l.takeWhile q).length ≤ l.length := (List.takeWhile_sublist q).length_le
theorem skip_p {t : List UInt8} {q : UInt8 → Bool} {s : St} (h : s.p ≤ t.length) : (skip t q s).p ≤ t.length := by
 unfold skip; split
 ·have := takeWhile_len q (t.drop s.p); simp at this; show s.p + _ ≤ _; omega
 ·exact h
theorem blanks_p {t : List UInt8} {s : St} (h : s.p ≤ t.length) : (blanks t s).p ≤ t.length := skip_p (need_p h)
theorem digS_p {t : List UInt8} {s : St} (h : s.p ≤ t.length) : ∀ k, (digS t k s).p ≤ t.length
 | 0 => h
 | k + 1 => need_p (digS_p h k)
theorem numS_p {t : List UInt8} {s : St} (h : s.p ≤ t.length) (k : Nat) (m : Bool) : (numS t k m s).p ≤ t.length := by
 unfold numS; split <;> exact digS_p h _
theorem nameS_p {t : List UInt8} {s : St} {n : List (List UInt8)} (h : s.p ≤ t.length) : (nameS t n s).p ≤ t.length := by
 unfold nameS; split
 ·split
  ·exact Nat.le_refl _
  ·split
   ·exact h
   ·show s.p + 3 ≤ _; omega
 ·exact h
theorem digV_bd (t : List UInt8) (s : St) : ∀ k, -(6 * (10 ^ k - 1 : Int)) ≤ digV t k s ∧ digV t k s ≤ 23 * (10 ^ k - 1)
 | 0 => by simp [digV]
 | k + 1 => by
  have ih := digV_bd t s k
  have hb := (needB t isDig (digS t k s)).toNat_lt
  have h1 : (0 : Int) < 10 ^ k := Int.pow_pos (by decide)
  have e : (10 : Int) ^ (k + 1) = 10 * 10 ^ k := by rw [Int.pow_succ, Int.mul_comm]
  rw [e]
  unfold digV
  generalize (10 : Int) ^ k = P at *
  omega
theorem digV_small (t : List UInt8) (s : St) (k : Nat) (hk : k ≤ 5) : -600000 ≤ digV t k s ∧ digV t k s ≤ 2300000 := by
 have h := digV_bd t s k
 have hk' : k = 0 ∨ k = 1 ∨ k = 2 ∨ k = 3 ∨ k = 4 ∨ k = 5 := by omega
 rcases hk' with rfl | rfl | rfl | rfl | rfl | rfl <;> simp at h <;> omega
theorem numV_small (t : List UInt8) (s : St) (k : Nat) (m : Bool) (hk : k ≤ 4) : -600000 ≤ numV t k m s ∧ numV t k m s ≤ 2300000 := by
 unfold numV; split
 ·exact digV_small t s (k + 1) (by omega)
 ·exact digV_small t s k (by omega)
theorem find3_lt {n : List (List UInt8)} {w : List UInt8} {i : Nat} (h : find3 n w = some i) : i < n.length := by
 unfold find3 at h
 exact (List.findIdx?_eq_some_iff_getElem.1 h).1
theorem nameV_lt {t : List UInt8} {n : List (List UInt8)} {s : St} (hn : 0 < n.length) : nameV t n s < n.length := by
 unfold nameV; split
 ·split
  ·exact hn
  ·cases h : find3 n (word3 t s.p) with
   | none => exact hn
   | some i => exact find3_lt h
 ·exact hn
/-! An error stays; without one, numbers are what their digits say. -/
theorem need_e {t : List UInt8} {q : UInt8 → Bool} {s : St} (h : (need t q s).e = 0) : sees t q s = true ∧ s.e = 0 := by
 unfold need at h
 by_cases hs : sees t q s = true
 ·refine ⟨hs, ?_⟩; simp only [sees, Bool.and_eq_true, beq_iff_eq] at hs; exact hs.1.1
 ·rw [if_neg hs] at h
  exfalso
  split at h <;> unfold failAt at h <;> split at h <;> simp_all
theorem skip_e {t : List UInt8} {q : UInt8 → Bool} {s : St} : (skip t q s).e = s.e := by unfold skip; split <;> rfl
theorem blanks_e {t : List UInt8} {s : St} (h : (blanks t s).e = 0) : s.e = 0 := by
 unfold blanks at h; rw [skip_e] at h; exact (need_e h).2
theorem digS_e {t : List UInt8} {s : St} : ∀ {k}, (digS t k s).e = 0 → s.e = 0
 | 0, h => h
 | _ + 1, h => digS_e (need_e h).2
theorem numS_e {t : List UInt8} {s : St} {k : Nat} {m : Bool} (h : (numS t k m s).e = 0) : s.e = 0 := by
 unfold numS at h; split at h <;> exact digS_e h
theorem nameS_e {t : List UInt8} {n : List (List UInt8)} {s : St} (h : (nameS t n s).e = 0) : s.e = 0 := by
 unfold nameS at h
 by_cases hs : s.e = 0
 ·exact hs
 ·rw [if_neg hs] at h; exact h
theorem zoneSt_e {t : List UInt8} {s : St} (h : (zoneSt t s).e = 0) : s.e = 0 := by
 unfold zoneSt at h
 by_cases hs : s.e = 0
 ·exact hs
 ·rw [if_neg hs] at h; exact h
theorem digV_ok {t : List UInt8} {s : St} : ∀ {k}, (digS t k s).e = 0 → 0 ≤ digV t k s ∧ digV t k s ≤ 10 ^ k - 1
 | 0, _ => by simp [digV]
 | k + 1, h => by
  obtain ⟨h1, h2⟩ := need_e h
  have ih := digV_ok h2
  have hb : 48 ≤ (needB t isDig (digS t k s)).toNat ∧ (needB t isDig (digS t k s)).toNat ≤ 57 := by
   unfold needB; rw [if_pos h1]
   simp only [sees, Bool.and_eq_true, isDig, decide_eq_true_eq] at h1
   exact h1.2
  have e : (10 : Int) ^ (k + 1) = 10 * 10 ^ k := by rw [Int.pow_succ, Int.mul_comm]
  rw [e]
  unfold digV
  generalize (10 : Int) ^ k = P at *
  omega
theorem numV_ok {t : List UInt8} {s : St} {k : Nat} {m : Bool} (hk : k ≤ 3 ∨ (k = 4 ∧ m = false)) (h : (numS t k m s).e = 0) : 0 ≤ numV t k m s ∧ numV t k m s ≤ 9999 := by
 unfold numS at h; unfold numV
 split at h
 ·rename_i hc
  rw [if_pos hc]
  have hk2 : k ≤ 3 := by
   rcases hk with h | ⟨_, h⟩
   ·exact h
   ·simp [h] at hc
  have := digV_ok h
  have hk' : k = 0 ∨ k = 1 ∨ k = 2 ∨ k = 3 := by omega
  rcases hk' with rfl | rfl | rfl | rfl <;> simp at this ⊢ <;> omega
 ·rename_i hc
  rw [if_neg hc]
  have := digV_ok h
  have hk' : k = 0 ∨ k = 1 ∨ k = 2 ∨ k = 3 ∨ k = 4 := by omega
  rcases hk' with rfl | rfl | rfl | rfl | rfl <;> simp at this ⊢ <;> omega
/-- A scanner without an error in front of a text. -/
structure At (t : List UInt8) (s : St) (l : List UInt8) : Prop where
 e : s.e = 0
 d : t.drop s.p = l
 p : s.p ≤ t.length
theorem At.cons {t : List UInt8} {s : St} {c : UInt8} {l : List UInt8} (h : At t s (c :: l)) : s.p < t.length ∧ at0 t s.p = c ∧ t.drop (s.p + 1) = l := by
 have hl : s.p < t.length := by
  rcases Nat.lt_or_ge s.p t.length with a | a
  ·exact a
  ·have := h.d; rw [List.drop_eq_nil_of_le a] at this; cases this
 have := h.d
 rw [List.drop_eq_getElem_cons hl] at this
 injection this with h1 h2
 exact ⟨hl, by simp [at0, List.getD, List.getElem?_eq_getElem hl, h1], h2⟩
theorem At.nil {t : List UInt8} {s : St} (h : At t s []) : s.p = t.length := by
 have := h.d; have hp := h.p
 have h2 := congrArg List.length this
 simp at h2; omega
theorem At.sees {t : List UInt8} {s : St} {c : UInt8} {l : List UInt8} (h : At t s (c :: l)) (q : UInt8 → Bool) : sees t q s = q c := by
 obtain ⟨h1, h2, _⟩ := h.cons
 simp [Go.Dt.sees, h.e, h1, h2]
theorem At.need {t : List UInt8} {s : St} {c : UInt8} {l : List UInt8} (h : At t s (c :: l)) {q : UInt8 → Bool} (hq : q c = true) : At t (need t q s) l ∧ needB t q s = c := by
 obtain ⟨h1, h2, h3⟩ := h.cons
 unfold Go.Dt.need needB
 rw [h.sees, hq, if_pos rfl, if_pos rfl]
 exact ⟨⟨h.e, h3, h1⟩, h2⟩
theorem takeWhile_app (q : UInt8 → Bool) (b r : List UInt8) (hb : b.all q = true) (hr : ∀ c l, r = c :: l → q c = false) : (b ++ r).takeWhile q = b := by
 induction b with
 | nil =>
  cases r with
  | nil => rfl
  | cons c l => simp [hr c l rfl]
 | cons c b ih =>
  simp only [List.all_cons, Bool.and_eq_true] at hb
  rw [List.cons_append, List.takeWhile_cons_of_pos hb.1, ih hb.2]
theorem At.skip {t : List UInt8} {s : St} {b r : List UInt8} (h : At t s (b ++ r)) {q : UInt8 → Bool} (hb : b.all q = true) (hr : ∀ c l, r = c :: l → q c = false) : At t (skip t q s) r := by
 unfold Go.Dt.skip
 rw [if_pos h.e, h.d, takeWhile_app q b r hb hr]
 have hl := congrArg List.length h.d
 simp at hl
 have hp := h.p
 refine ⟨h.e, ?_, ?_⟩
 ·show t.drop (s.p + b.length) = r
  rw [← List.drop_drop, h.d]; simp
 ·show s.p + b.length ≤ t.length
  omega
def noBl (r : List UInt8) : Prop := ∀ c l, r = c :: l → isBl c = false
theorem At.blanks {t : List UInt8} {s : St} {b r : List UInt8} (h : At t s (b ++ r)) (h0 : b ≠ []) (hb : b.all isBl = true) (hr : noBl r) : At t (blanks t s) r := by
 cases b with
 | nil => exact absurd rfl h0
 | cons c b =>
  simp only [List.all_cons, Bool.and_eq_true] at hb
  exact ((At.need h hb.1).1).skip hb.2 hr
/-- The number of a text of digits. -/
def val (l : List UInt8) : Int := l.foldl (fun a c => 10 * a + c.toNat - 48) 0
theorem At.digS {t : List UInt8} {s : St} : ∀ (n : Nat) {ds r : List UInt8}, ds.length = n → At t s (ds ++ r) → ds.all isDig = true → At t (digS t n s) r ∧ digV t n s = val ds
 | 0, ds, r, hn, h, _ => by
  obtain rfl := List.length_eq_zero_iff.1 hn
  exact ⟨h, rfl⟩
 | n + 1, ds, r, hn, h, hd => by
  have hne : ds ≠ [] := by intro e; simp [e] at hn
  have hs := List.dropLast_concat_getLast hne
  generalize ds.getLast hne = c at hs
  generalize ds.dropLast = l at hs
  subst hs
  simp only [List.length_append, List.length_cons, List.length_nil] at hn
  simp only [List.all_append, List.all_cons, List.all_nil, Bool.and_true, Bool.and_eq_true] at hd
  rw [List.append_assoc] at h
  obtain ⟨h1, h2⟩ := At.digS n (by omega) h hd.1
  obtain ⟨h3, h4⟩ := h1.need hd.2
  refine ⟨h3, ?_⟩
  unfold digV
  rw [h4, h2]
  simp [val]
theorem At.num {t : List UInt8} {s : St} {ds r : List UInt8} {n : Nat} (hn : ds.length = n) (h : At t s (ds ++ r)) (hd : ds.all isDig = true) : At t (numS t n false s) r ∧ numV t n false s = val ds := by
 have := At.digS n hn h hd
 unfold numS numV
 simpa using this
theorem At.num1 {t : List UInt8} {s : St} {c : UInt8} {r : List UInt8} (h : At t s (c :: r)) (hd : isDig c = true) (hr : ∀ c l, r = c :: l → isDig c = false) : At t (numS t 1 true s) r ∧ numV t 1 true s = val [c] := by
 have h1 := At.digS (ds := [c]) (r := r) 1 rfl h (by simp [hd])
 have hs : Go.Dt.sees t isDig (Go.Dt.digS t 1 s) = false := by
  cases r with
  | nil => have := h1.1.nil; simp [Go.Dt.sees, this]
  | cons d l => rw [h1.1.sees]; exact hr d l rfl
 unfold numS numV
 rw [hs]
 simpa using h1
theorem At.num2 {t : List UInt8} {s : St} {c d : UInt8} {r : List UInt8} (h : At t s (c :: d :: r)) (hc : isDig c = true) (hd : isDig d = true) : At t (numS t 1 true s) r ∧ numV t 1 true s = val [c, d] := by
 have h1 := At.digS (ds := [c]) (r := d :: r) 1 rfl h (by simp [hc])
 have h2 := At.digS (ds := [c, d]) (r := r) 2 rfl h (by simp [hc, hd])
 have hs : Go.Dt.sees t isDig (Go.Dt.digS t 1 s) = true := by
  rw [h1.1.sees]; exact hd
 unfold numS numV
 rw [hs]
 simpa using h2
theorem At.name {t : List UInt8} {s : St} {x r : List UInt8} {names : List (List UInt8)} {i : Nat} (hx : x.length = 3) (h : At t s (x ++ r)) (hf : find3 names x = some i) : At t (nameS t names s) r ∧ nameV t names s = i := by
 have hl := congrArg List.length h.d
 simp at hl
 have hp := h.p
 have hw : word3 t s.p = x := by
  unfold word3; rw [h.d, ← hx]; simp
 have hn : ¬ t.length < s.p + 3 := by omega
 unfold nameS nameV
 rw [if_pos h.e, if_neg hn, hw, hf, if_pos h.e, if_neg hn]
 refine ⟨⟨rfl, ?_, by show s.p + 3 ≤ _; omega⟩, rfl⟩
 show t.drop (s.p + 3) = r
 rw [← List.drop_drop, h.d, ← hx]; simp
theorem At.zone {t : List UInt8} {s : St} {z : List UInt8} {o : Int} (h : At t s z) (h0 : z ≠ []) (he : zoneE z = 0) (hv : zoneV z = o) : (zoneSt t s).e = 0 ∧ zoneOf t s = o := by
 have hp : ¬ s.p = t.length := by
  intro hp
  have := h.d
  rw [hp, List.drop_length] at this
  exact h0 this.symm
 unfold zoneSt zoneOf
 rw [if_pos h.e, if_neg hp, h.d, if_pos he, if_pos h.e, if_neg hp, hv]
 exact ⟨h.e, rfl⟩
/-! Digits. -/
theorem dg_toNat (n : Int) (_h : 0 ≤ n) : ((dg n).toNat : Int) = 48 + n % 10 := by
 unfold dg
 rw [UInt8.toNat_ofNat']
 have : (n % 10).toNat < 10 := by omega
 omega
theorem dg_dig (n : Int) (h : 0 ≤ n) : isDig (dg n) = true := by
 have := dg_toNat n h
 simp [isDig]; omega
theorem val1 {n : Int} (h : 0 ≤ n) (h1 : n < 10) : val [dg n] = n := by
 have := dg_toNat n h
 simp only [val, List.foldl]; omega
theorem val2 {n : Int} (h : 0 ≤ n) (h1 : n < 100) : val (digs 2 n) = n := by
 have a := dg_toNat n h
 have b := dg_toNat (n / 10) (by omega)
 rw [digs2]
 simp only [val, List.foldl]; omega
theorem val4 {n : Int} (h : 0 ≤ n) (h1 : n < 10000) : val (digs 4 n) = n := by
 have a := dg_toNat n h
 have b := dg_toNat (n / 10) (by omega)
 have c := dg_toNat (n / 10 / 10) (by omega)
 have d := dg_toNat (n / 10 / 10 / 10) (by omega)
 rw [digs4]
 simp only [val, List.foldl]; omega
theorem digs2_dig {n : Int} (h : 0 ≤ n) : (digs 2 n).all isDig = true := by
 rw [digs2]; simp [dg_dig n h, dg_dig (n / 10) (by omega)]
theorem digs4_dig {n : Int} (h : 0 ≤ n) : (digs 4 n).all isDig = true := by
 rw [digs4]; simp [dg_dig n h, dg_dig (n / 10) (by omega), dg_dig (n / 10 / 10) (by omega), dg_dig (n / 10 / 10 / 10) (by omega)]
theorem dig_bl {c : UInt8} (h : isDig c = true) : isBl c = false := by
 simp only [isDig, Bool.and_eq_true, decide_eq_true_eq] at h
 simp only [isBl, Bool.or_eq_false_iff, beq_eq_false_iff_ne, ne_eq]
 constructor <;> (intro e; rw [e] at h; simp at h)
theorem let_bl {c : UInt8} (h : isLet c = true) : isBl c = false := by
 simp only [isLet, Bool.or_eq_true, Bool.and_eq_true, decide_eq_true_eq] at h
 simp only [isBl, Bool.or_eq_false_iff, beq_eq_false_iff_ne, ne_eq]
 constructor <;> (intro e; rw [e] at h; simp at h)
theorem bl_dig {c : UInt8} (h : isBl c = true) : isDig c = false := by
 cases hd : isDig c with
 | false => rfl
 | true => rw [dig_bl hd] at h; cases h
theorem dig_let {c : UInt8} (h : isDig c = true) : isLet c = false := by
 simp only [isDig, Bool.and_eq_true, decide_eq_true_eq] at h
 simp [isLet]; omega
/-- The parts of a text of a date. -/
structure Parts where
 wd : Option (List UInt8 × List UInt8)
 day : List UInt8
 b1 : List UInt8
 mon : List UInt8
 b2 : List UInt8
 year : Int
 b3 : List UInt8
 hour : Int
 min : Int
 sec : Option Int
 b4 : List UInt8
 zone : List UInt8
def Parts.wdT (q : Parts) : List UInt8 := match q.wd with | none => [] | some (n, b) => n ++ 44 :: b
def Parts.secT (q : Parts) : List UInt8 := match q.sec with | none => [] | some s => 58 :: digs 2 s
def Parts.text (q : Parts) : List UInt8 :=
 q.wdT ++ (q.day ++ (q.b1 ++ (q.mon ++ (q.b2 ++ (digs 4 q.year ++ (q.b3 ++ (digs 2 q.hour ++ (58 :: (digs 2 q.min ++ (q.secT ++ (q.b4 ++ q.zone)))))))))))
def isBls (b : List UInt8) : Prop := b ≠ [] ∧ b.all isBl = true
/-- What the parts of a text of a minute are like. -/
structure Parts.Fit (q : Parts) (D M wd : Int) (off : Int) : Prop where
 wd : ∀ n b, q.wd = some (n, b) → n.length = 3 ∧ find3 dayTab n = some wd.toNat ∧ 0 ≤ wd ∧ (∀ c l, n = c :: l → isLet c = true) ∧ b.all isBl = true
 day : (q.day = digs 2 D ∨ (q.day = [dg D] ∧ D < 10)) ∧ 0 ≤ D ∧ D < 100
 b1 : isBls q.b1
 mon : q.mon.length = 3 ∧ find3 monTab q.mon = some (M - 1).toNat ∧ 1 ≤ M ∧ (∀ c l, q.mon = c :: l → isLet c = true)
 b2 : isBls q.b2
 year : 0 ≤ q.year ∧ q.year < 10000
 b3 : isBls q.b3
 hour : 0 ≤ q.hour ∧ q.hour < 100
 min : 0 ≤ q.min ∧ q.min < 100
 sec : ∀ s, q.sec = some s → 0 ≤ s ∧ s < 100
 b4 : isBls q.b4
 zone : q.zone ≠ [] ∧ noBl q.zone ∧ zoneE q.zone = 0 ∧ zoneV q.zone = off
theorem noBl_dig {n : Int} (h : 0 ≤ n) (r : List UInt8) : noBl (digs 4 n ++ r) ∧ noBl (digs 2 n ++ r) := by
 rw [digs4, digs2]
 exact ⟨fun c l e => by injection e with e _; rw [← e]; exact dig_bl (dg_dig _ (by omega)), fun c l e => by injection e with e _; rw [← e]; exact dig_bl (dg_dig _ (by omega))⟩
theorem noBl_app {x r : List UInt8} (h0 : x ≠ []) (h : ∀ c l, x = c :: l → isBl c = false) : noBl (x ++ r) := by
 intro c l e
 cases x with
 | nil => exact absurd rfl h0
 | cons d x => injection e with e _; rw [← e]; exact h d x rfl
theorem len3_ne {x : List UInt8} (h : x.length = 3) : x ≠ [] := by intro e; rw [e] at h; cases h
set_option maxHeartbeats 1000000 in
theorem parts_read {q : Parts} {D M wd off : Int} (h : q.Fit D M wd off) (t : List UInt8) (ht : t = q.text) :
  (r13 t).e = 0 ∧ pYear t = q.year ∧ pDay t = D ∧ pMon t = M ∧ pHour t = q.hour ∧ pMin t = q.min ∧ (pSec t = match q.sec with | none => 0 | some s => s) ∧ pOff t = off ∧ (pWd t = match q.wd with | none => -1 | some _ => wd) := by
 have hday : ∀ r, noBl (q.day ++ r) := by
  intro r
  rcases h.day.1 with e | ⟨e, _⟩ <;> rw [e]
  ·exact (noBl_dig h.day.2.1 r).2
  ·exact noBl_app (by simp) (fun c l e => by injection e with e _; rw [← e]; exact dig_bl (dg_dig _ h.day.2.1))
 have start : At t r0 q.text := ⟨rfl, by rw [ht]; rfl, Nat.zero_le _⟩
 -- the day of the week
 have s1 : At t (r1 t) (q.day ++ (q.b1 ++ (q.mon ++ (q.b2 ++ (digs 4 q.year ++ (q.b3 ++ (digs 2 q.hour ++ (58 :: (digs 2 q.min ++ (q.secT ++ (q.b4 ++ q.zone))))))))))) ∧ (pWd t = match q.wd with | none => -1 | some _ => wd) := by
  unfold Parts.text Parts.wdT at start
  unfold r1 pWd
  cases hw : q.wd with
  | none =>
   rw [hw] at start
   have hs : hasW t = false := by
    unfold hasW
    rcases h.day.1 with e | ⟨e, _⟩
    ·rw [e, digs2] at start
     exact (start.sees isLet).trans (dig_let (dg_dig _ (by have := h.day.2.1; omega)))
    ·rw [e] at start
     exact (start.sees isLet).trans (dig_let (dg_dig _ h.day.2.1))
   simp only [hs, Bool.false_eq_true, if_false]
   exact ⟨start, trivial⟩
  | some nb =>
   obtain ⟨n, b⟩ := nb
   rw [hw] at start
   obtain ⟨f1, f2, f3, f4, f5⟩ := h.wd n b hw
   have hs : hasW t = true := by
    unfold hasW
    cases n with
    | nil => cases f1
    | cons c n => exact (start.sees isLet).trans (f4 c n rfl)
   simp only [hs, if_true]
   simp only [List.append_assoc] at start
   obtain ⟨g1, g2⟩ := start.name f1 f2
   simp only [List.cons_append] at g1
   obtain ⟨g3, _⟩ := g1.need (q := isCh 44) rfl
   refine ⟨g3.skip f5 (hday _), ?_⟩
   rw [g2]
   omega
 obtain ⟨s1, e0⟩ := s1
 have s2 : At t (r2 t) (q.b1 ++ (q.mon ++ (q.b2 ++ (digs 4 q.year ++ (q.b3 ++ (digs 2 q.hour ++ (58 :: (digs 2 q.min ++ (q.secT ++ (q.b4 ++ q.zone)))))))))) ∧ pDay t = D := by
  unfold r2 pDay
  rcases h.day.1 with e | ⟨e, hd⟩
  ·rw [e, digs2] at s1
   have := s1.num2 (dg_dig _ (by have := h.day.2.1; omega)) (dg_dig _ h.day.2.1)
   exact ⟨this.1, this.2.trans (val2 h.day.2.1 h.day.2.2)⟩
  ·rw [e] at s1
   have := s1.num1 (dg_dig _ h.day.2.1) (fun c l e => by
    have hb := h.b1
    cases hq : q.b1 with
    | nil => exact absurd hq hb.1
    | cons d x =>
     rw [hq] at e
     injection e with e _
     have h2 := hb.2
     rw [hq, List.all_cons, Bool.and_eq_true] at h2
     rw [← e]; exact bl_dig h2.1)
   exact ⟨this.1, this.2.trans (val1 h.day.2.1 hd)⟩
 obtain ⟨s2, e1⟩ := s2
 have s3 : At t (r3 t) _ := s2.blanks h.b1.1 h.b1.2 (noBl_app (len3_ne h.mon.1) (fun c l e => let_bl (h.mon.2.2.2 c l e)))
 have s4 := s3.name h.mon.1 h.mon.2.1
 have e2 : pMon t = M := by unfold pMon; rw [s4.2]; have := h.mon.2.2.1; omega
 have s5 : At t (r5 t) _ := s4.1.blanks h.b2.1 h.b2.2 (noBl_dig h.year.1 _).1
 have s6 := s5.num (digs_length 4 _) (digs4_dig h.year.1)
 have e3 : pYear t = q.year := s6.2.trans (val4 h.year.1 h.year.2)
 have s7 : At t (r7 t) _ := At.blanks s6.1 h.b3.1 h.b3.2 (noBl_dig h.hour.1 _).2
 have s8 := s7.num (digs_length 2 _) (digs2_dig h.hour.1)
 have e4 : pHour t = q.hour := s8.2.trans (val2 h.hour.1 h.hour.2)
 have s9 : At t (r9 t) _ := (At.need s8.1 (q := isCh 58) rfl).1
 have s10 := s9.num (digs_length 2 _) (digs2_dig h.min.1)
 have e5 : pMin t = q.min := s10.2.trans (val2 h.min.1 h.min.2)
 have t10 : At t (r10 t) (q.secT ++ (q.b4 ++ q.zone)) := s10.1
 have s11 : At t (r11 t) (q.b4 ++ q.zone) ∧ (pSec t = match q.sec with | none => 0 | some s => s) := by
  unfold r11 pSec
  unfold Parts.secT at t10
  cases hs : q.sec with
  | none =>
   rw [hs] at t10
   have h58 : hasS t = false := by
    have hb := h.b4
    unfold hasS
    cases hq : q.b4 with
    | nil => exact absurd hq hb.1
    | cons d x =>
     rw [hq] at t10
     have h2 := hb.2
     rw [hq, List.all_cons, Bool.and_eq_true] at h2
     rw [t10.sees (isCh 58)]
     have h3 := h2.1
     simp only [isBl, Bool.or_eq_true, beq_iff_eq] at h3
     rcases h3 with rfl | rfl <;> rfl
   simp only [h58, Bool.false_eq_true, if_false]
   exact ⟨t10, trivial⟩
  | some s =>
   rw [hs] at t10
   simp only [List.cons_append] at t10
   have h58 : hasS t = true := by
    unfold hasS; rw [t10.sees (isCh 58)]; rfl
   simp only [h58, if_true]
   have a1 : At t (r10a t) _ := (t10.need (q := isCh 58) rfl).1
   have a2 := a1.num (digs_length 2 _) (digs2_dig (h.sec s hs).1)
   exact ⟨a2.1, a2.2.trans (val2 (h.sec s hs).1 (h.sec s hs).2)⟩
 have s12 : At t (r12 t) _ := s11.1.blanks h.b4.1 h.b4.2 h.zone.2.1
 have s13 := s12.zone h.zone.1 h.zone.2.2.1 h.zone.2.2.2
 exact ⟨s13.1, e3, e1, e2, e4, e5, s11.2, s13.2, e0⟩
def zText (off : Int) : List UInt8 := (if off < 0 then 45 else 43) :: (digs 2 (absI off / 60) ++ digs 2 (absI off % 60))
theorem zoneName_sign (c : UInt8) (l : List UInt8) (h : c = 43 ∨ c = 45) : zoneName (c :: l) = none := by
 rcases h with rfl | rfl <;> simp [zoneName, zoneTab, capL, cap]
theorem zText_len (off : Int) : (zText off).length = 5 := by simp [zText, digs_length]
theorem absI_bd {off : Int} (h0 : -840 ≤ off) (h1 : off ≤ 840) : 0 ≤ absI off ∧ absI off ≤ 840 := by unfold absI; split <;> omega
theorem zText_ok {off : Int} (h0 : -840 ≤ off) (h1 : off ≤ 840) : zoneE (zText off) = 0 ∧ zoneV (zText off) = off := by
 have hA := absI_bd h0 h1
 have hs : (if off < 0 then (45 : UInt8) else 43) = 43 ∨ (if off < 0 then (45 : UInt8) else 43) = 45 := by split <;> simp
 have hl := zText_len off
 have a0 : At (zText off) ⟨1, 0⟩ (digs 2 (absI off / 60) ++ (digs 2 (absI off % 60) ++ [])) := ⟨rfl, by simp [zText], by rw [hl]; decide⟩
 have a1 := At.digS 2 (digs_length 2 _) a0 (digs2_dig (by omega))
 have a2 := At.digS 2 (digs_length 2 _) a1.1 (digs2_dig (by omega))
 have e1 : zh (zText off) = absI off / 60 := a1.2.trans (val2 (by omega) (by omega))
 have e2 : zm (zText off) = absI off % 60 := a2.2.trans (val2 (by omega) (by omega))
 have e3 : (zs (zText off)).e = 0 := a2.1.e
 have e4 : at0 (zText off) 0 = if off < 0 then 45 else 43 := rfl
 have hn : zoneName (zText off) = none := zoneName_sign _ _ hs
 have hE : zoneE (zText off) = 0 := by
  unfold zoneE
  rw [hn]
  simp only
  rw [if_neg, if_neg]
  ·rw [e1, e2]; omega
  ·rw [e2, e3, e4, hl]
   rcases hs with h | h <;> rw [h] <;> simp <;> omega
 refine ⟨hE, ?_⟩
 unfold zoneV
 rw [hn]
 simp only
 rw [hE, if_neg (by simp), e1, e2, e4]
 unfold absI
 split
 ·rw [if_pos rfl]; omega
 ·rw [if_neg (by decide)]; omega
theorem zText_noBl (off : Int) : noBl (zText off) := by
 intro c l e
 injection e with e _
 rw [← e]; split <;> rfl
/-- parseF's answer, of its parts. -/
def parseG (len : Nat) (e p : Nat) (year day mon hour mn sec secAt wd loc off : Int) (p5 p1 p7 p9 : Nat) : Int × Int × Int :=
 if 64 < len then (0, 64, 5)
 else if e ≠ 0 then (0, p, e)
 else if year < 2000 ∨ 2199 < year then (0, p5, 2)
 else if day < 1 ∨ md year mon < day then (0, p1, 13)
 else if 23 < hour then (0, p7, 13)
 else if 59 < mn then (0, p9, 13)
 else if 60 < sec then (0, secAt, 13)
 else if 0 ≤ wd ∧ wd ≠ (loc / 1440 + 5) % 7 then (0, 0, 13)
 else if loc - off < 0 ∨ 105190559 < loc - off then (0, 0, 2)
 else (loc - off, 0, 0)
theorem parseF_eq (t : List UInt8) : parseF t = parseG t.length (r13 t).e (r13 t).p (pYear t) (pDay t) (pMon t) (pHour t) (pMin t) (pSec t) (pSecAt t) (pWd t) (pLoc t) (pOff t) (r5 t).p (r1 t).p (r7 t).p (r9 t).p := by
 unfold parseF parseG; rfl
theorem parseG_ok {len e p : Nat} {year day mon hour mn sec secAt wd loc off : Int} {p5 p1 p7 p9 : Nat} (h1 : len ≤ 64) (h2 : e = 0) (h3 : 2000 ≤ year ∧ year ≤ 2199) (h4 : 1 ≤ day ∧ day ≤ md year mon) (h5 : hour ≤ 23) (h6 : mn ≤ 59) (h7 : sec ≤ 60)
  (h8 : wd < 0 ∨ wd = (loc / 1440 + 5) % 7) (h9 : 0 ≤ loc - off ∧ loc - off ≤ 105190559) : parseG len e p year day mon hour mn sec secAt wd loc off p5 p1 p7 p9 = (loc - off, 0, 0) := by
 unfold parseG
 rw [if_neg (by omega), if_neg (by omega), if_neg (by omega), if_neg (by omega), if_neg (by omega), if_neg (by omega), if_neg (by omega), if_neg (by omega), if_neg (by omega)]
theorem parse_parts {q : Parts} {m off : Int} (h0 : 0 ≤ m) (h1 : m ≤ 105190559) (s0 : 0 ≤ m + off) (s1 : m + off ≤ 105190559)
  (h : q.Fit (civD ((m + off) / 1440)) (civM ((m + off) / 1440)) (((m + off) / 1440 + 5) % 7) off) (hy : q.year = civY ((m + off) / 1440)) (hh : q.hour = (m + off) % 1440 / 60) (hn : q.min = (m + off) % 60)
  (hs : ∀ s, q.sec = some s → s ≤ 60) (hl : q.text.length ≤ 64) : parseF q.text = (m, 0, 0) := by
 obtain ⟨e0, e1, e2, e3, e4, e5, e6, e7, e8⟩ := parts_read h q.text rfl
 have hY := civY_spec ((m + off) / 1440) (by omega) (by omega)
 have hM := civM_spec ((m + off) / 1440) (by omega) (by omega)
 have hD := civD_spec ((m + off) / 1440) (by omega) (by omega)
 have hloc : pLoc q.text = m + off := by
  unfold pLoc
  rw [e1, e2, e3, e4, e5, hy, hh, hn, dayNum_civ _ (by omega) (by omega)]
  omega
 have hsec : pSec q.text ≤ 60 := by
  rw [e6]
  cases hq : q.sec with
  | none => simp
  | some s => exact hs s hq
 have hwd : pWd q.text < 0 ∨ pWd q.text = (pLoc q.text / 1440 + 5) % 7 := by
  rw [e8, hloc]
  cases q.wd with
  | none => exact .inl (show (-1 : Int) < 0 by decide)
  | some _ => exact .inr rfl
 rw [hloc] at hwd
 rw [parseF_eq, hloc, e7, parseG_ok hl e0 (by rw [e1, hy]; omega) (by rw [e1, e2, e3, hy]; omega) (by rw [e4, hh]; omega) (by rw [e5, hn]; omega) hsec hwd (by omega)]
 rw [show m + off - off = m by omega]
/-! The text of a minute is a text of parts. -/
theorem dayN_find {d : Int} (h0 : 0 ≤ d) (h1 : d < 7) : (dayN d).length = 3 ∧ find3 dayTab (dayN d) = some d.toNat ∧ (∀ c l, dayN d = c :: l → isLet c = true) := by
 have hm : d = 0 ∨ d = 1 ∨ d = 2 ∨ d = 3 ∨ d = 4 ∨ d = 5 ∨ d = 6 := by omega
 rcases hm with rfl | rfl | rfl | rfl | rfl | rfl | rfl <;> exact ⟨rfl, by decide, fun c l e => by injection e with e _; rw [← e]; decide⟩
theorem monN_find {d : Int} (h0 : 1 ≤ d) (h1 : d ≤ 12) : (monN d).length = 3 ∧ find3 monTab (monN d) = some (d - 1).toNat ∧ (∀ c l, monN d = c :: l → isLet c = true) := by
 have hm : d = 1 ∨ d = 2 ∨ d = 3 ∨ d = 4 ∨ d = 5 ∨ d = 6 ∨ d = 7 ∨ d = 8 ∨ d = 9 ∨ d = 10 ∨ d = 11 ∨ d = 12 := by omega
 rcases hm with rfl | rfl | rfl | rfl | rfl | rfl | rfl | rfl | rfl | rfl | rfl | rfl <;> exact ⟨rfl, by decide, fun c l e => by injection e with e _; rw [← e]; decide⟩
def fmtParts (M off : Int) : Parts :=
 { wd := some (dayN ((M / 1440 + 5) % 7), [32]), day := digs 2 (civD (M / 1440)), b1 := [32], mon := monN (civM (M / 1440)), b2 := [32], year := civY (M / 1440), b3 := [32], hour := M % 1440 / 60, min := M % 60, sec := none, b4 := [32], zone := zText off }
theorem fmt_parts (M off : Int) : fmtText M off = (fmtParts M off).text := by
 simp [fmtText, fmtParts, Parts.text, Parts.wdT, Parts.secT, zText]
theorem fmtText_len {M off : Int} (h0 : 0 ≤ M) (h1 : M ≤ 105190559) : (fmtText M off).length = 28 := by
 have hM := civM_spec (M / 1440) (by omega) (by omega)
 have a := (dayN_find (d := (M / 1440 + 5) % 7) (by omega) (by omega)).1
 have b := (monN_find hM.1 hM.2.1).1
 simp [fmtText, digs_length, a, b]
theorem parse_fmt {m off : Int} (h0 : 0 ≤ m) (h1 : m ≤ 105190559) (o0 : -840 ≤ off) (o1 : off ≤ 840) (s0 : 0 ≤ m + off) (s1 : m + off ≤ 105190559) : parseF (fmtText (m + off) off) = (m, 0, 0) := by
 have hY := civY_spec ((m + off) / 1440) (by omega) (by omega)
 have hM := civM_spec ((m + off) / 1440) (by omega) (by omega)
 have hD := civD_spec ((m + off) / 1440) (by omega) (by omega)
 have hB := md_bd (civY ((m + off) / 1440)) (civM ((m + off) / 1440))
 have hd := dayN_find (d := ((m + off) / 1440 + 5) % 7) (by omega) (by omega)
 have hm := monN_find hM.1 hM.2.1
 have hz := zText_ok o0 o1
 have bl : isBls [32] := ⟨by simp, by decide⟩
 have hlen := fmtText_len (off := off) s0 s1
 rw [fmt_parts] at hlen ⊢
 refine parse_parts h0 h1 s0 s1 ?_ rfl rfl rfl (by intro s hs; simp [fmtParts] at hs) (by omega)
 exact { wd := by
          intro n b e
          simp only [fmtParts, Option.some.injEq, Prod.mk.injEq] at e
          obtain ⟨rfl, rfl⟩ := e
          exact ⟨hd.1, hd.2.1, by omega, hd.2.2, by decide⟩
         day := ⟨.inl rfl, by omega, by omega⟩
         b1 := bl
         mon := ⟨hm.1, hm.2.1, hM.1, hm.2.2⟩
         b2 := bl
         year := ⟨by show 0 ≤ civY _; omega, by show civY _ < _; omega⟩
         b3 := bl
         hour := ⟨by show 0 ≤ _ % 1440 / 60; omega, by show _ % 1440 / 60 < 100; omega⟩
         min := ⟨by show 0 ≤ _ % 60; omega, by show _ % 60 < 100; omega⟩
         sec := by intro s hs; simp [fmtParts] at hs
         b4 := bl
         zone := ⟨by simp [fmtParts, zText], zText_noBl off, hz.1, hz.2⟩ }
/-- The canonical texts. -/
def canonB (t : List UInt8) : Bool := (parseF t).2.2 == 0 && (fmtText (parseF t).1 0 == t)
theorem parseF_val (t : List UInt8) : (0 ≤ (parseF t).1 ∧ (parseF t).1 ≤ 105190559) ∧ ((parseF t).2.2 ≠ 0 → (parseF t).1 = 0) := by
 unfold parseF
 repeat (split; · exact ⟨by simp, fun _ => rfl⟩)
 refine ⟨by omega, fun h => absurd rfl h⟩
theorem canon_fmt {m off : Int} (h0 : 0 ≤ m) (h1 : m ≤ 105190559) (o0 : -840 ≤ off) (o1 : off ≤ 840) (s0 : 0 ≤ m + off) (s1 : m + off ≤ 105190559) : canonB (fmtText (m + off) off) = (off == 0) := by
 unfold canonB
 rw [parse_fmt h0 h1 o0 o1 s0 s1]
 by_cases hz : off = 0
 ·subst hz; rw [Int.add_zero]; simp
 ·have : fmtText m 0 ≠ fmtText (m + off) off := by
   intro e
   have hA := absI_bd o0 o1
   unfold fmtText at e
   obtain ⟨e1, e2⟩ := List.append_inj' e (by simp [digs_length])
   obtain ⟨_, e3⟩ := List.append_inj' e1 (by simp [digs_length])
   have g2 := congrArg val e2
   have g3 := congrArg val e3
   have z : absI 0 = 0 := rfl
   rw [val2 (by rw [z]; decide) (by rw [z]; decide), val2 (by omega) (by omega), z] at g2 g3
   simp at g2 g3
   have : absI off = 0 := by omega
   unfold absI at this
   split at this <;> omega
  have hne : (off == 0) = false := by simpa using hz
  rw [hne]
  simpa using this
end Go.Dt
namespace Go.Dg
open Go.Lib
structure It where
 fr : List UInt8
 dt : Int
 su : List UInt8
 ky : List UInt8
 bo : List UInt8
structure Dg where
 ti : List UInt8
 vo : Int
 ie : Int
 da : Int
 its : List It
/-! ### words -/
/-- ` Digest, Volume ` -/
def wDig : List UInt8 := [32, 68, 105, 103, 101, 115, 116, 44, 32, 86, 111, 108, 117, 109, 101, 32]
/-- `, Issue ` -/
def wIss : List UInt8 := [44, 32, 73, 115, 115, 117, 101, 32]
/-- `Date: ` -/
def wDate : List UInt8 := [68, 97, 116, 101, 58, 32]
/-- `Topics:` -/
def wTop : List UInt8 := [84, 111, 112, 105, 99, 115, 58]
/-- `From: ` -/
def wFrom : List UInt8 := [70, 114, 111, 109, 58, 32]
/-- `Subject: ` -/
def wSubj : List UInt8 := [83, 117, 98, 106, 101, 99, 116, 58, 32]
/-- `Message-ID: ` -/
def wMid : List UInt8 := [77, 101, 115, 115, 97, 103, 101, 45, 73, 68, 58, 32]
/-- `End of ` -/
def wEnd : List UInt8 := [69, 110, 100, 32, 111, 102, 32]
/-- `(no subject)` -/
def wNo : List UInt8 := [40, 110, 111, 32, 115, 117, 98, 106, 101, 99, 116, 41]
/-- `@hash>` -/
def wHash : List UInt8 := [64, 104, 97, 115, 104, 62]
/-- `  ` -/
def wSp : List UInt8 := [32, 32]
/-- `, ` -/
def wCm : List UInt8 := [44, 32]
/-- ` (` -/
def wPar : List UInt8 := [32, 40]
def sepT : List UInt8 := List.replicate 30 45
/-! ### lines of a text -/
def lns : List UInt8 → List (List UInt8) × List UInt8
 | [] => ([], [])
 | c :: s => if c = 10 then ([] :: (lns s).1, (lns s).2) else match (lns s).1 with
  | [] => ([], c :: (lns s).2)
  | l :: ls => ((c :: l) :: ls, (lns s).2)
def unl (ls : List (List UInt8)) : List UInt8 := ls.flatMap (· ++ [10])
/-- The pieces between the line feeds. -/
def pcs (s : List UInt8) : List (List UInt8) := (lns s).1 ++ [(lns s).2]
def noNl (l : List UInt8) : Prop := ∀ c ∈ l, c ≠ 10
/-! ### errors -/
def okC (c : UInt8) : Bool := decide (32 ≤ c.toNat) && decide (c.toNat ≤ 126)
def plainB (s : List UInt8) : Bool := s.all okC && (s.head? != some 32) && (s.getLast? != some 32)
def titleB (s : List UInt8) : Bool := plainB s && decide (1 ≤ s.length) && decide (s.length ≤ 100)
def fromB (s : List UInt8) : Bool := plainB s && decide (1 ≤ s.length) && decide (s.length ≤ 200)
def subjB (s : List UInt8) : Bool := plainB s && decide (s.length ≤ 200)
def ordB (n : Int) : Bool := decide (1 ≤ n) && decide (n ≤ 1000000)
def minB (n : Int) : Bool := decide (0 ≤ n) && decide (n ≤ 105190559)
def zId : List UInt8 := List.replicate 32 0
def has13 (s : List UInt8) : Bool := s.contains 13
def chkI (x : It) : Int :=
 if fromB x.fr = false then 12 else if minB x.dt = false then 13 else if subjB x.su = false then 3 else if x.ky = zId then 1 else if has13 x.bo = true then 6 else 0
/-- The first error of items; the keys of the items before them. -/
def chkL (seen : List (List UInt8)) : List It → Int
 | [] => 0
 | x :: l => if chkI x ≠ 0 then chkI x else if x.ky ∈ seen then 7 else chkL (seen ++ [x.ky]) l
/-! ### contents -/
def numsOf (su : List UInt8) : Nat → List It → List (List UInt8)
 | _, [] => []
 | k, x :: l => if x.su = su then decDigits (k + 1) :: numsOf su (k + 1) l else numsOf su (k + 1) l
def subjL (acc : List (List UInt8)) : List It → List (List UInt8)
 | [] => acc
 | x :: l => subjL (if x.su ∈ acc then acc else acc ++ [x.su]) l
def lineOf (l : List It) (s : List UInt8) : List UInt8 := (if s = [] then wNo else s) ++ (wPar ++ join (numsOf s 0 l) wCm ++ [41])
def linesD (l : List It) : List (List UInt8) := (subjL [] l).map (lineOf l)
/-! ### text -/
def fm (m : Int) : List UInt8 := Go.Dt.fmtText m 0
def hx (n : Nat) : UInt8 := if n < 10 then UInt8.ofNat (48 + n) else UInt8.ofNat (87 + n)
def hexT (k : List UInt8) : List UInt8 := k.flatMap fun b => [hx (b.toNat / 16), hx (b.toNat % 16)]
def prId (k : List UInt8) : List UInt8 := 60 :: hexT k ++ wHash
def headT (d : Dg) : List UInt8 := d.ti ++ wDig ++ decDigits d.vo.toNat ++ wIss ++ decDigits d.ie.toNat
def dash (p : List UInt8) : List UInt8 := if p.head? = some 45 then [45, 32] else []
/-- The protected lines of a text, and its protected form. -/
def protL (s : List UInt8) : List (List UInt8) := (pcs s).map fun p => dash p ++ p
def prot (s : List UInt8) : List UInt8 := unl (protL s)
def itLs (x : It) : List (List UInt8) := [wFrom ++ x.fr, wDate ++ fm x.dt, wSubj ++ x.su, wMid ++ prId x.ky, []] ++ protL x.bo ++ [sepT]
def tLs (d : Dg) : List (List UInt8) := [headT d, wDate ++ fm d.da, wTop] ++ (linesD d.its).map (wSp ++ ·) ++ [sepT] ++ d.its.flatMap itLs ++ [wEnd ++ headT d]
def textD (d : Dg) : List UInt8 := unl (tLs d)
def chkD (d : Dg) : Int :=
 if titleB d.ti = false then 12 else if ordB d.vo = false ∨ ordB d.ie = false then 2 else if minB d.da = false then 13 else if d.its = [] then 1 else if 200 < d.its.length then 9
 else if chkL [] d.its ≠ 0 then chkL [] d.its else if 1048576 < (textD d).length then 5 else 0
/-! ### reading -/
def unprot (l : List UInt8) : Option (List UInt8) := if l.head? = some 45 then (if [45, 32, 45].isPrefixOf l then some (l.drop 2) else none) else some l
structure Rd where
 ls : List (List UInt8)
 n : Int
 e : Int
def nextR (r : Rd) : List UInt8 × Rd := if r.e ≠ 0 then ([], r) else match r.ls with
 | [] => ([], ⟨[], r.n + 1, 4⟩)
 | l :: ls => (l, ⟨ls, r.n + 1, 0⟩)
def failR (r : Rd) (k : Int) : Rd := if r.e = 0 then ⟨r.ls, r.n, k⟩ else r
def valueR (r : Rd) (l w : List UInt8) (p : List UInt8 → Bool) : List UInt8 × Rd :=
 if r.e = 0 ∧ w.isPrefixOf l = true ∧ p (l.drop w.length) = true then (l.drop w.length, r) else ([], failR r 3)
def exactR (r : Rd) (l : List UInt8) : Rd := if (nextR r).1 = l then (nextR r).2 else failR (nextR r).2 3
def dateR (r : Rd) : Int × Rd :=
 let q := valueR (nextR r).2 (nextR r).1 wDate Go.Dt.canonB
 (if q.2.e ≠ 0 then 0 else (Go.Dt.parseF q.1).1, q.2)
def ordV (s : List UInt8) : Option Int := match atoiAll s with
 | .ok n => if ordB n = true ∧ itoa n = s then some n else none
 | _ => none
/-- The title, volume and issue of a first line. -/
def headV (l : List UInt8) : Option (List UInt8 × Int × Int) :=
 let p := lastIndex l wDig
 if p < 0 then none else
 let q := cut (l.drop (p.toNat + 16)) wIss
 match ordV q.1, ordV q.2.1 with
 | some v, some i => if titleB (l.take p.toNat) = true then some (l.take p.toNat, v, i) else none
 | _, _ => none
def headR (r : Rd) (l : List UInt8) : (List UInt8 × Int × Int) × Rd :=
 if r.e ≠ 0 then (([], 0, 0), r) else match headV l with
 | some v => (v, r)
 | none => (([], 0, 0), ⟨r.ls, r.n, 3⟩)
def consL : List (List UInt8) → Int → List (List UInt8) → List (List UInt8) × Rd
 | [], n, acc => (acc, ⟨[], n + 1, 4⟩)
 | l :: ls, n, acc => if l = sepT then (acc, ⟨ls, n + 1, 0⟩) else if wSp.isPrefixOf l = true then consL ls (n + 1) (acc ++ [l.drop 2]) else (acc ++ [[]], ⟨ls, n + 1, 3⟩)
def consR (r : Rd) : List (List UInt8) × Rd := if r.e ≠ 0 then ([], r) else consL r.ls r.n []
def bodyL : List (List UInt8) → Int → List (List UInt8) → List (List UInt8) × Rd
 | [], n, ps => (ps, ⟨[], n + 1, 4⟩)
 | l :: ls, n, ps => if l = sepT ∧ ps ≠ [] then (ps, ⟨ls, n + 1, 0⟩) else match unprot l with
  | some p => if has13 l = true then (ps ++ [p], ⟨ls, n + 1, 3⟩) else bodyL ls (n + 1) (ps ++ [p])
  | none => (ps ++ [[]], ⟨ls, n + 1, 3⟩)
def bodyR (r : Rd) : List UInt8 × Rd := if r.e ≠ 0 then ([], r) else (join (bodyL r.ls r.n []).1 [10], (bodyL r.ls r.n []).2)
/-- The identity of a message identifier. -/
def isHx (c : UInt8) : Bool := (decide (48 ≤ c.toNat) && decide (c.toNat ≤ 57)) || (decide (97 ≤ c.toNat) && decide (c.toNat ≤ 102))
def hxV (c : UInt8) : Nat := if c.toNat ≤ 57 then c.toNat - 48 else c.toNat - 87
def unhex : List UInt8 → List UInt8
 | a :: b :: l => UInt8.ofNat (16 * hxV a + hxV b) :: unhex l
 | _ => []
def idV (s : List UInt8) : Option (List UInt8) :=
 if s.length = 71 ∧ s.head? = some 60 ∧ ((s.drop 1).take 64).all isHx = true ∧ s.drop 65 = wHash then some (unhex ((s.drop 1).take 64)) else none
def idB (seen : List (List UInt8)) (s : List UInt8) : Bool := match idV s with
 | some k => decide (k ≠ zId) && !decide (k ∈ seen)
 | none => false
def itemR (r : Rd) (l : List UInt8) (seen : List (List UInt8)) : It × Rd :=
 let r0 := if 200 ≤ seen.length then failR r 3 else r
 let a := valueR r0 l wFrom fromB
 let b := dateR a.2
 let c := valueR (nextR b.2).2 (nextR b.2).1 wSubj subjB
 let d := valueR (nextR c.2).2 (nextR c.2).1 wMid (idB seen)
 let f := bodyR (exactR d.2 [])
 (⟨a.1, b.1, c.1, (idV d.1).getD zId, f.1⟩, f.2)
def more (r : Rd) (last : List UInt8) (its : List It) : Bool := decide (r.e = 0) && (its.isEmpty || !wEnd.isPrefixOf last)
/-- The items: state, last line, items. -/
def itemsF : Nat → Rd → List UInt8 → List It → Rd × List UInt8 × List It
 | 0, r, last, its => (r, last, its)
 | f + 1, r, last, its => if more r last its = true then
   let a := itemR r last (its.map (·.ky))
   itemsF f (nextR a.2).2 (nextR a.2).1 (its ++ [a.1])
  else (r, last, its)
def burstL (ls : List (List UInt8)) (tl : List UInt8) : Dg ⊕ (Int × Int) :=
 let a := nextR ⟨ls, 0, 0⟩
 let b := headR a.2 a.1
 let c := dateR b.2
 let f := consR (exactR c.2 wTop)
 let g := nextR f.2
 let h := itemsF (ls.length + 1) g.2 g.1 []
 let d : Dg := ⟨b.1.1, b.1.2.1, b.1.2.2, c.1, h.2.2⟩
 if h.1.e ≠ 0 then .inr (h.1.n, h.1.e) else if h.1.ls ≠ [] ∨ tl ≠ [] then .inr (h.1.n + 1, 5)
 else if h.2.1 ≠ wEnd ++ headT d then .inr (h.1.n, 3) else if f.1 ≠ linesD h.2.2 then .inr (4, 21) else .inl d
def burstD (s : List UInt8) : Dg ⊕ (Int × Int) := if 1048576 < s.length then .inr (0, 5) else burstL (lns s).1 (lns s).2
/-! ### restoring -/
def protF (s : List UInt8) : List UInt8 × Int := if 1048576 < s.length then ([], 5) else if has13 s = true then ([], 6) else (prot s, 0)
/-! ### lines -/
theorem lns_app : ∀ (l s : List UInt8), noNl l → lns (l ++ 10 :: s) = (l :: (lns s).1, (lns s).2)
 | [], s, _ => by simp [lns]
 | c :: l, s, h => by
  have hc : c ≠ 10 := h c (by simp)
  have ih := lns_app l s fun x hx => h x (by simp [hx])
  rw [List.cons_append, lns, if_neg hc, ih]
theorem lns_tail : ∀ (l : List UInt8), noNl l → lns l = ([], l)
 | [], _ => rfl
 | c :: l, h => by
  have hc : c ≠ 10 := h c (by simp)
  have ih := lns_tail l fun x hx => h x (by simp [hx])
  rw [lns, if_neg hc, ih]
theorem lns_unl : ∀ (ls : List (List UInt8)) (tl : List UInt8), (∀ l ∈ ls, noNl l) → noNl tl → lns (unl ls ++ tl) = (ls, tl)
 | [], tl, _, h => by simpa [unl] using lns_tail tl h
 | l :: ls, tl, hl, h => by
  have e : unl (l :: ls) ++ tl = l ++ 10 :: (unl ls ++ tl) := by simp [unl]
  rw [e, lns_app _ _ (hl l (by simp)), lns_unl ls tl (fun x hx => hl x (by simp [hx])) h]
theorem lns_eq : ∀ s : List UInt8, unl (lns s).1 ++ (lns s).2 = s
 | [] => rfl
 | c :: s => by
  have ih := lns_eq s
  unfold lns
  split
  ·next h => subst h; simpa [unl] using ih
  ·split
   ·next h => rw [h] at ih; simpa [unl] using ih
   ·next l ls h => rw [h] at ih; simpa [unl] using ih
theorem lns_free : ∀ s : List UInt8, (∀ l ∈ (lns s).1, noNl l) ∧ noNl (lns s).2
 | [] => ⟨by simp [lns], by simp [lns, noNl]⟩
 | c :: s => by
  obtain ⟨ih1, ih2⟩ := lns_free s
  unfold lns
  split
  ·next h =>
   refine ⟨fun l hl => ?_, ih2⟩
   rcases List.mem_cons.1 hl with rfl | hl
   ·simp [noNl]
   ·exact ih1 l hl
  ·next hc =>
   split
   ·next h =>
    refine ⟨by simp, fun x hx => ?_⟩
    rcases List.mem_cons.1 hx with rfl | hx
    ·exact hc
    ·exact ih2 x hx
   ·next l ls h =>
    rw [h] at ih1
    refine ⟨fun x hx => ?_, ih2⟩
    rcases List.mem_cons.1 hx with rfl | hx
    ·intro y hy
     rcases List.mem_cons.1 hy with rfl | hy
     ·exact hc
     ·exact ih1 l (by simp) y hy
    ·exact ih1 x (by simp [hx])
theorem unl_cons (l : List UInt8) (ls : List (List UInt8)) : unl (l :: ls) = l ++ 10 :: unl ls := by simp [unl]
theorem unl_append (a b : List (List UInt8)) : unl (a ++ b) = unl a ++ unl b := by simp [unl]
/-- Pieces, joined. -/
theorem pcs_join : ∀ (ps : List (List UInt8)), ps ≠ [] → (∀ p ∈ ps, noNl p) → pcs (join ps [10]) = ps
 | [], h, _ => absurd rfl h
 | [p], _, hp => by
  rw [join_one]
  unfold pcs
  rw [lns_tail p (hp p (by simp))]
  rfl
 | p :: q :: ps, _, hp => by
  have e : join (p :: q :: ps) [10] = p ++ 10 :: join (q :: ps) [10] := by
   rw [join_cons, join_cons]; simp [joinTail]
  have ih := pcs_join (q :: ps) (by simp) fun x hx => hp x (by simp [hx])
  unfold pcs at ih ⊢
  rw [e, lns_app _ _ (hp p (by simp))]
  simp only [List.cons_append]
  rw [ih]
theorem join_unl : ∀ (ls : List (List UInt8)) (tl : List UInt8), join (ls ++ [tl]) [10] = unl ls ++ tl
 | [], tl => by simp [join_one, unl]
 | l :: ls, tl => by
  have ih := join_unl ls tl
  cases hq : ls ++ [tl] with
  | nil => exact absurd hq (by simp)
  | cons q qs =>
   rw [hq] at ih
   rw [List.cons_append, hq, join_cons, unl_cons]
   rw [join_cons] at ih
   simp only [joinTail, List.map_cons, List.flatten_cons, List.append_assoc, List.cons_append, List.nil_append] at ih ⊢
   rw [← ih]
theorem join_pcs (s : List UInt8) : join (pcs s) [10] = s := by
 unfold pcs
 rw [join_unl, lns_eq]
theorem pcs_ne (s : List UInt8) : pcs s ≠ [] := by simp [pcs]
theorem pcs_free (s : List UInt8) : ∀ p ∈ pcs s, noNl p := fun p hp => by
 rcases List.mem_append.1 hp with h | h
 ·exact (lns_free s).1 p h
 ·obtain rfl := List.mem_singleton.1 h; exact (lns_free s).2
theorem mem_pcs {s p : List UInt8} (hp : p ∈ pcs s) {c : UInt8} (hc : c ∈ p) : c ∈ s := by
 rw [← lns_eq s]
 rcases List.mem_append.1 hp with h | h
 ·exact List.mem_append_left _ (List.mem_flatMap.2 ⟨p, h, by simp [hc]⟩)
 ·obtain rfl := List.mem_singleton.1 h; exact List.mem_append_right _ hc
/-! ### decimal numbers -/
theorem dd_digits (u : Nat) : ∀ c ∈ decDigits u, 48 ≤ c.toNat ∧ c.toNat ≤ 57 := by
 induction u using Nat.strongRecOn with
 | _ u ih =>
  intro c hc
  rw [decDigits] at hc
  split at hc
  ·next h => obtain rfl := List.mem_singleton.1 hc; simp; omega
  ·next h =>
   rcases List.mem_append.1 hc with hc | hc
   ·exact ih (u / 10) (by omega) c hc
   ·obtain rfl := List.mem_singleton.1 hc; simp; omega
theorem dd_ne (u : Nat) : decDigits u ≠ [] := by
 rw [decDigits]; split <;> simp
theorem decFrom_snoc : ∀ (l : List UInt8) (a n : Nat) (b : UInt8) (d : Nat), decFrom a l = some n → digitVal b = some d → decFrom a (l ++ [b]) = some (n * 10 + d)
 | [], a, n, b, d, h, hd => by
  simp only [decFrom, Option.some.injEq] at h
  subst h
  simp [decFrom, hd]
 | x :: l, a, n, b, d, h, hd => by
  simp only [List.cons_append, decFrom] at h ⊢
  cases hx : digitVal x with
  | none => rw [hx] at h; exact absurd h (by simp)
  | some v => rw [hx] at h; simp only at h ⊢; exact decFrom_snoc l _ n b d h hd
theorem decFrom_dd (u : Nat) : decFrom 0 (decDigits u) = some u := by
 induction u using Nat.strongRecOn with
 | _ u ih =>
  have dv : ∀ k : Nat, k < 10 → digitVal (UInt8.ofNat (48 + k)) = some k := fun k hk => by
   unfold digitVal
   have : (UInt8.ofNat (48 + k)).toNat = 48 + k := by simp; omega
   rw [this, if_pos (by omega)]; simp
  rw [decDigits]
  split
  ·next h => simp only [decFrom, dv u h, Nat.zero_mul, Nat.zero_add]
  ·next h =>
   rw [decFrom_snoc _ 0 (u / 10) _ (u % 10) (ih (u / 10) (by omega)) (dv _ (by omega))]
   congr 1; omega
theorem nDigits_le (u : Nat) (hu : u ≠ 0) : 10 ^ (nDigits u - 1) ≤ u := by
 induction u using Nat.strongRecOn with
 | _ u ih =>
  by_cases h : u < 10
  ·rw [nDigits_small h]; simp; omega
  ·rw [nDigits_big h]
   have := ih (u / 10) (by omega) (by omega)
   have hp := nDigits_pos (u / 10)
   have e : nDigits (u / 10) + 1 - 1 = (nDigits (u / 10) - 1) + 1 := by omega
   rw [e, Nat.pow_succ]; omega
theorem dd_length {u : Nat} (h : u ≤ 1000000) : 1 ≤ (decDigits u).length ∧ (decDigits u).length ≤ 7 := by
 have h1 := dd_ne u
 refine ⟨List.length_pos_iff.2 h1, ?_⟩
 rw [decDigits_length]
 by_cases hz : u = 0
 ·subst hz; rw [nDigits_small (by decide)]; decide
 ·have := nDigits_le u hz
  false_or_by_contra
  have h2 : 10 ^ 7 ≤ 10 ^ (nDigits u - 1) := Nat.pow_le_pow_right (by decide) (by omega)
  omega
theorem atoi_dd {u : Nat} (h : u ≤ 1000000) : atoiAll (decDigits u) = .ok u := by
 rw [atoiAll_short _ (by have := dd_length h; omega)]
 cases hd : decDigits u with
 | nil => exact absurd hd (dd_ne u)
 | cons b r =>
  have hb := dd_digits u b (by rw [hd]; simp)
  have e1 : (b == 45) = false := by rw [beq_eq_false_iff_ne]; intro e; subst e; simp at hb
  have e2 : (b == 43) = false := by rw [beq_eq_false_iff_ne]; intro e; subst e; simp at hb
  have hf := decFrom_dd u
  rw [hd] at hf
  simp [atoi, e1, e2, decNat, hf, NumEnd.ofOption]
theorem ordV_dd {n : Int} (h : ordB n = true) : ordV (decDigits n.toNat) = some n := by
 have h' := h
 simp only [ordB, Bool.and_eq_true, decide_eq_true_eq] at h'
 unfold ordV
 rw [atoi_dd (by omega)]
 have e : ((n.toNat : Nat) : Int) = n := by omega
 simp only [e]
 rw [if_pos ⟨h, by unfold itoa; rw [if_neg (by omega)]⟩]
theorem ordV_some {s : List UInt8} {n : Int} (h : ordV s = some n) : ordB n = true ∧ s = decDigits n.toNat := by
 unfold ordV at h
 split at h
 ·next v hv =>
  split at h
  ·next hc =>
   obtain rfl : v = n := by simpa using h
   refine ⟨hc.1, ?_⟩
   have h' := hc.1
   simp only [ordB, Bool.and_eq_true, decide_eq_true_eq] at h'
   rw [← hc.2]; unfold itoa; rw [if_neg (by omega)]
  ·exact absurd h (by simp)
 ·exact absurd h (by simp)
/-! ### first lines -/
theorem occ_iff (s sub : List UInt8) (i : Nat) : occAt s sub i = true ↔ ∃ t, s.drop i = sub ++ t := by
 unfold occAt
 rw [List.isPrefixOf_iff_prefix]
 exact ⟨fun ⟨t, h⟩ => ⟨t, h.symm⟩, fun ⟨t, h⟩ => ⟨t, h.symm⟩⟩
/-- The last occurrence. -/
theorem lastIndex_at {s sub : List UInt8} {i : Nat} (hs : sub ≠ []) (h : occAt s sub i = true) (hn : ∀ j, i < j → occAt s sub j = false) : lastIndex s sub = i := by
 have hr : i + sub.length ≤ s.length := (occAt_room h).resolve_right hs
 unfold lastIndex
 rw [if_pos (by omega)]
 rcases lastOcc_spec s sub (s.length - sub.length + 1) with ⟨_, h2⟩ | ⟨k, h1, h2, h3, h4⟩
 ·rw [h2 i (by omega)] at h; exact absurd h (by simp)
 ·rw [h2]
  rcases Nat.lt_trichotomy i k with hk | hk | hk
  ·rw [hn k hk] at h3; exact absurd h3 (by simp)
  ·rw [hk]
  ·rw [h4 i hk (by omega)] at h; exact absurd h (by simp)
theorem lastIndex_some {s sub : List UInt8} (h : ¬ lastIndex s sub < 0) : occAt s sub (lastIndex s sub).toNat = true := by
 unfold lastIndex at h ⊢
 split
 ·next hl =>
  rw [if_pos hl] at h
  rcases lastOcc_spec s sub (s.length - sub.length + 1) with ⟨h1, _⟩ | ⟨k, _, h2, h3, _⟩
  ·rw [h1] at h; omega
  ·rw [h2]; simpa using h3
 ·next hl => rw [if_neg hl] at h; omega
theorem cut_at {a b sep : List UInt8} (_hs : sep ≠ []) (h : ∀ j, j < a.length → occAt (a ++ sep ++ b) sep j = false) : cut (a ++ sep ++ b) sep = (a, b, true) := by
 have e : index (a ++ sep ++ b) sep = a.length := index_first (by simp) (by rw [occ_iff]; exact ⟨b, by simp⟩) h
 unfold cut
 rw [if_pos (by rw [e]; omega), e]
 have hd : (a ++ sep ++ b).drop (a.length + sep.length) = b := by
  rw [← List.length_append, List.drop_left]
 simp only [Int.toNat_natCast, hd]
 rw [List.append_assoc, List.take_left]
theorem cut_some {s sep : List UInt8} (h : (cut s sep).2.2 = true) : s = (cut s sep).1 ++ sep ++ (cut s sep).2.1 := by
 unfold cut at h ⊢
 split
 ·next hi =>
  rcases index_spec s sep with ⟨h1, _⟩ | ⟨i, h1, _, h3, _⟩
  ·rw [h1] at hi; omega
  ·rw [h1]
   obtain ⟨t, ht⟩ := (occ_iff s sep i).1 h3
   simp only [Int.toNat_natCast]
   have e2 : s.drop (i + sep.length) = t := by rw [← List.drop_drop, ht, List.drop_left]
   rw [e2, List.append_assoc, ← ht, List.take_append_drop]
 ·next hi => rw [if_neg hi] at h; exact absurd h (by simp)
theorem cut_none {s sep : List UInt8} (h : (cut s sep).2.2 = false) : (cut s sep).2.1 = [] := by
 unfold cut at h ⊢
 split
 ·next hi => rw [if_pos hi] at h; exact absurd h (by simp)
 ·rfl
theorem ordV_nil : ordV [] = none := by
 unfold ordV; rfl
theorem headV_go {ti : List UInt8} {v i : Int} (ht : titleB ti = true) (hv : ordB v = true) (hi : ordB i = true) :
  headV (ti ++ wDig ++ decDigits v.toNat ++ wIss ++ decDigits i.toNat) = some (ti, v, i) := by
 have hno : ∀ c ∈ decDigits v.toNat ++ wIss ++ decDigits i.toNat, c ≠ 68 := by
  intro c hc e
  subst e
  rcases List.mem_append.1 hc with hc | hc
  ·rcases List.mem_append.1 hc with hc | hc
   ·have := dd_digits _ _ hc; simp at this
   ·revert hc; decide
  ·have := dd_digits _ _ hc; simp at this
 have e0 : ti ++ wDig ++ decDigits v.toNat ++ wIss ++ decDigits i.toNat = ti ++ (wDig ++ (decDigits v.toNat ++ wIss ++ decDigits i.toNat)) := by simp
 have hl : lastIndex (ti ++ wDig ++ decDigits v.toNat ++ wIss ++ decDigits i.toNat) wDig = ti.length := by
  refine lastIndex_at (by decide) ?_ fun j hj => ?_
  ·rw [occ_iff, e0, List.drop_left]; exact ⟨_, rfl⟩
  ·cases ho : occAt (ti ++ wDig ++ decDigits v.toNat ++ wIss ++ decDigits i.toNat) wDig j with
   | false => rfl
   | true =>
    exfalso
    have h2 := occAt_second (c0 := 32) (c1 := 68) rfl ho
    rw [e0, List.getElem?_append_right (by omega)] at h2
    obtain ⟨k, hk⟩ : ∃ k, j + 1 - ti.length = k + 2 := ⟨j + 1 - ti.length - 2, by omega⟩
    rw [hk] at h2
    have hm : (68 : UInt8) ∈ (wDig ++ (decDigits v.toNat ++ wIss ++ decDigits i.toNat)).drop 2 := by
     rw [List.mem_iff_getElem?]
     exact ⟨k, by rw [List.getElem?_drop, Nat.add_comm]; exact h2⟩
    have e1 : (wDig ++ (decDigits v.toNat ++ wIss ++ decDigits i.toNat)).drop 2 = wDig.drop 2 ++ (decDigits v.toNat ++ wIss ++ decDigits i.toNat) := rfl
    rw [e1] at hm
    rcases List.mem_append.1 hm with hm | hm
    ·revert hm; decide
    ·exact hno _ hm rfl
 have hd : (ti ++ wDig ++ decDigits v.toNat ++ wIss ++ decDigits i.toNat).drop (ti.length + 16) = decDigits v.toNat ++ wIss ++ decDigits i.toNat := by
  rw [e0, ← List.drop_drop, List.drop_left]
  rfl
 have ht2 : (ti ++ wDig ++ decDigits v.toNat ++ wIss ++ decDigits i.toNat).take ti.length = ti := by rw [e0, List.take_left]
 have hc : cut (decDigits v.toNat ++ wIss ++ decDigits i.toNat) wIss = (decDigits v.toNat, decDigits i.toNat, true) := by
  refine cut_at (by decide) fun j hj => ?_
  cases ho : occAt (decDigits v.toNat ++ wIss ++ decDigits i.toNat) wIss j with
  | false => rfl
  | true =>
   exfalso
   have h2 := occAt_head (c := 44) rfl ho
   rw [List.append_assoc, List.getElem?_append_left hj] at h2
   have := dd_digits _ _ (List.mem_of_getElem? h2)
   simp at this
 unfold headV
 rw [hl]
 simp only [Int.toNat_natCast, hd, hc, ordV_dd hv, ordV_dd hi, ht2]
 rw [if_neg (by omega), if_pos ht]
theorem headV_some {l ti : List UInt8} {v i : Int} (h : headV l = some (ti, v, i)) :
  l = ti ++ wDig ++ decDigits v.toNat ++ wIss ++ decDigits i.toNat ∧ titleB ti = true ∧ ordB v = true ∧ ordB i = true := by
 unfold headV at h
 simp only at h
 split at h
 ·exact absurd h (by simp)
 ·next hp =>
  have ho := lastIndex_some hp
  generalize (lastIndex l wDig).toNat = p at *
  split at h
  ·next v' i' h1 h2 =>
   split at h
   ·next ht =>
    simp only [Option.some.injEq, Prod.mk.injEq] at h
    obtain ⟨rfl, rfl, rfl⟩ := h
    have hv := ordV_some h1
    have hi := ordV_some h2
    refine ⟨?_, ht, hv.1, hi.1⟩
    have hc : (cut (l.drop (p + 16)) wIss).2.2 = true := by
     cases hb : (cut (l.drop (p + 16)) wIss).2.2 with
     | true => rfl
     | false =>
      rw [cut_none hb, ordV_nil] at h2
      exact absurd h2 (by simp)
    have e1 := cut_some hc
    rw [hv.2, hi.2] at e1
    obtain ⟨t, ht⟩ := (occ_iff l wDig p).1 ho
    have e2 : l.drop (p + 16) = t := by rw [← List.drop_drop, ht]; rfl
    rw [e2] at e1
    have e3 := List.take_append_drop p l
    rw [ht, e1] at e3
    exact e3.symm.trans (by simp)
   ·exact absurd h (by simp)
  ·exact absurd h (by simp)
/-! ### steps of a reader that end without an error -/
theorem nextR_ok {r : Rd} (h : (nextR r).2.e = 0) : r.e = 0 ∧ r.ls = (nextR r).1 :: (nextR r).2.ls := by
 unfold nextR at h ⊢
 by_cases he : r.e ≠ 0
 ·rw [if_pos he] at h; exact absurd h he
 ·rw [if_neg he] at h ⊢
  refine ⟨Classical.not_not.1 he, ?_⟩
  cases hl : r.ls with
  | nil => rw [hl] at h; exact absurd h (by simp)
  | cons l ls => rfl
theorem failR_ok {r : Rd} {k : Int} (hk : k ≠ 0) : (failR r k).e ≠ 0 := by
 unfold failR
 split
 ·exact hk
 ·assumption
theorem prefix_eq {w l : List UInt8} (h : w.isPrefixOf l = true) : l = w ++ l.drop w.length := by
 rw [List.isPrefixOf_iff_prefix] at h
 exact (List.prefix_iff_eq_append.1 h).symm
theorem prefix_app (w v : List UInt8) : w.isPrefixOf (w ++ v) = true := by
 rw [List.isPrefixOf_iff_prefix]; exact List.prefix_append w v
theorem valueR_ok {r : Rd} {l w : List UInt8} {p : List UInt8 → Bool} (h : (valueR r l w p).2.e = 0) :
  r.e = 0 ∧ l = w ++ (valueR r l w p).1 ∧ p (valueR r l w p).1 = true ∧ (valueR r l w p).2 = r := by
 unfold valueR at h ⊢
 by_cases hc : r.e = 0 ∧ w.isPrefixOf l = true ∧ p (l.drop w.length) = true
 ·rw [if_pos hc]; exact ⟨hc.1, prefix_eq hc.2.1, hc.2.2, rfl⟩
 ·rw [if_neg hc] at h; exact absurd h (failR_ok (by decide))
theorem exactR_ok {r : Rd} {l : List UInt8} (h : (exactR r l).e = 0) : r.e = 0 ∧ r.ls = l :: (exactR r l).ls := by
 unfold exactR at h ⊢
 by_cases hc : (nextR r).1 = l
 ·rw [if_pos hc] at h ⊢; have := nextR_ok h; rw [hc] at this; exact this
 ·rw [if_neg hc] at h; exact absurd h (failR_ok (by decide))
theorem canon_val {t : List UInt8} (h : Go.Dt.canonB t = true) : t = fm (Go.Dt.parseF t).1 ∧ minB (Go.Dt.parseF t).1 = true ∧ (Go.Dt.parseF t).2.2 = 0 := by
 have hv := Go.Dt.parseF_val t
 unfold Go.Dt.canonB at h
 simp only [Bool.and_eq_true, beq_iff_eq] at h
 exact ⟨h.2.symm, by simp [minB]; omega, h.1⟩
theorem canon_fm {m : Int} (h : minB m = true) : Go.Dt.canonB (fm m) = true ∧ (Go.Dt.parseF (fm m)).1 = m := by
 simp only [minB, Bool.and_eq_true, decide_eq_true_eq] at h
 have h1 := Go.Dt.canon_fmt (m := m) (off := 0) (by omega) (by omega) (by decide) (by decide) (by omega) (by omega)
 have h2 := Go.Dt.parse_fmt (m := m) (off := 0) (by omega) (by omega) (by decide) (by decide) (by omega) (by omega)
 rw [Int.add_zero] at h1 h2
 exact ⟨by unfold fm; rw [h1]; rfl, by unfold fm; rw [h2]⟩
theorem dateR_ok {r : Rd} (h : (dateR r).2.e = 0) : r.e = 0 ∧ r.ls = (wDate ++ fm (dateR r).1) :: (dateR r).2.ls ∧ minB (dateR r).1 = true := by
 unfold dateR at h ⊢
 simp only at h ⊢
 obtain ⟨h1, h2, h3, h4⟩ := valueR_ok h
 have hn := nextR_ok h1
 have hc := canon_val h3
 rw [if_neg (by rw [h]; decide)]
 refine ⟨hn.1, ?_, hc.2.1⟩
 rw [← hc.1, ← h2, h4]
 exact hn.2
theorem unprot_some {l p : List UInt8} (h : unprot l = some p) : l = dash p ++ p := by
 unfold unprot at h
 split at h
 ·split at h
  ·next hp =>
   have e := prefix_eq hp
   obtain rfl : l.drop 2 = p := by simpa using h
   have e2 : l.drop 2 = 45 :: l.drop 3 := by
    conv => lhs; rw [e]
    rfl
   unfold dash
   rw [if_pos (by rw [e2]; rfl), e2]
   exact e
  ·exact absurd h (by simp)
 ·next hd =>
  obtain rfl : l = p := by simpa using h
  unfold dash; rw [if_neg hd]; rfl
theorem unprot_dash (p : List UInt8) : unprot (dash p ++ p) = some p := by
 unfold unprot dash
 split
 ·next h =>
  obtain ⟨q, rfl⟩ : ∃ q, p = 45 :: q := by
   cases p with
   | nil => exact absurd h (by simp)
   | cons c q => exact ⟨q, by simpa using h⟩
  rfl
 ·next h => rw [List.nil_append, if_neg h]
theorem dash_free {p : List UInt8} (h : noNl (dash p ++ p)) : noNl p := fun c hc => h c (List.mem_append_right _ hc)
theorem noNl_dash {p : List UInt8} (h : noNl p) : noNl (dash p ++ p) := fun c hc => by
 rcases List.mem_append.1 hc with hc | hc
 ·unfold dash at hc
  split at hc
  ·rcases List.mem_cons.1 hc with rfl | hc
   ·decide
   ·obtain rfl := List.mem_singleton.1 hc; decide
  ·exact absurd hc (by simp)
 ·exact h c hc
theorem has13_iff {s : List UInt8} : has13 s = true ↔ (13 : UInt8) ∈ s := by simp [has13]
theorem has13_dash (p : List UInt8) : has13 (dash p ++ p) = has13 p := by
 rw [Bool.eq_iff_iff, has13_iff, has13_iff, List.mem_append]
 refine ⟨fun h => h.resolve_left fun hd => ?_, .inr⟩
 unfold dash at hd
 split at hd
 ·revert hd; decide
 ·exact absurd hd (by simp)
theorem bodyL_ok : ∀ (ls : List (List UInt8)) (n : Int) (ps : List (List UInt8)), (∀ l ∈ ls, noNl l) → (bodyL ls n ps).2.e = 0 →
  ∃ qs, (bodyL ls n ps).1 = ps ++ qs ∧ ls = qs.map (fun p => dash p ++ p) ++ sepT :: (bodyL ls n ps).2.ls ∧ ps ++ qs ≠ [] ∧ (∀ q ∈ qs, noNl q ∧ has13 q = false)
 | [], n, ps, _, h => absurd h (by simp [bodyL])
 | l :: ls, n, ps, hf, h => by
  unfold bodyL at h ⊢
  by_cases hs : l = sepT ∧ ps ≠ []
  ·rw [if_pos hs]; exact ⟨[], by simp, by simp [hs.1], by simpa using hs.2, by simp⟩
  ·rw [if_neg hs] at h ⊢
   cases hu : unprot l with
   | none => rw [hu] at h; exact absurd h (by simp)
   | some p =>
    rw [hu] at h
    simp only at h ⊢
    by_cases h13 : has13 l = true
    ·rw [if_pos h13] at h; exact absurd h (by simp)
    ·rw [if_neg h13] at h ⊢
     obtain ⟨qs, h1, h2, h3, h4⟩ := bodyL_ok ls (n + 1) (ps ++ [p]) (fun x hx => hf x (by simp [hx])) h
     have e := unprot_some hu
     refine ⟨p :: qs, by rw [h1]; simp, ?_, by simp, fun q hq => ?_⟩
     ·rw [List.map_cons, ← e, List.cons_append, ← h2]
     ·rcases List.mem_cons.1 hq with rfl | hq
      ·have hl := hf l (by simp)
       rw [e] at hl h13
       rw [has13_dash] at h13
       exact ⟨dash_free hl, by simpa using h13⟩
      ·exact h4 q hq
theorem has13_join {ps : List (List UInt8)} (h : ∀ p ∈ ps, has13 p = false) : has13 (join ps [10]) = false := by
 cases hb : has13 (join ps [10]) with
 | false => rfl
 | true =>
  exfalso
  rw [has13_iff] at hb
  cases ps with
  | nil => rw [join_nil] at hb; exact absurd hb (by simp)
  | cons p ps =>
   rw [join_cons, List.mem_append] at hb
   have key : ∀ q ∈ p :: ps, (13 : UInt8) ∉ q := fun q hq hm => by
    have := h q hq; rw [has13_iff.2 hm] at this; exact absurd this (by simp)
   rcases hb with hb | hb
   ·exact key p (by simp) hb
   ·simp only [joinTail, List.mem_flatten, List.mem_map] at hb
    obtain ⟨x, ⟨q, hq, rfl⟩, hx⟩ := hb
    rcases List.mem_append.1 hx with hx | hx
    ·revert hx; decide
    ·exact key q (by simp [hq]) hx
theorem bodyR_ok {r : Rd} (hf : ∀ l ∈ r.ls, noNl l) (h : (bodyR r).2.e = 0) : r.e = 0 ∧ r.ls = protL (bodyR r).1 ++ sepT :: (bodyR r).2.ls ∧ has13 (bodyR r).1 = false := by
 unfold bodyR at h ⊢
 by_cases he : r.e ≠ 0
 ·rw [if_pos he] at h; exact absurd h he
 ·rw [if_neg he] at h ⊢
  obtain ⟨qs, h1, h2, h3, h4⟩ := bodyL_ok _ _ _ hf h
  rw [List.nil_append] at h1 h3
  refine ⟨Classical.not_not.1 he, ?_, ?_⟩
  ·simp only [h1]
   unfold protL
   rw [pcs_join qs h3 fun p hp => (h4 p hp).1]
   exact h2
  ·simp only [h1]; exact has13_join fun p hp => (h4 p hp).2
/-! ### identities -/
theorem hx_val : ∀ n : Fin 16, isHx (hx n.val) = true ∧ hxV (hx n.val) = n.val := by decide +kernel
theorem hx_back : ∀ c : Fin 256, isHx (UInt8.ofNat c.val) = true → hxV (UInt8.ofNat c.val) < 16 ∧ hx (hxV (UInt8.ofNat c.val)) = UInt8.ofNat c.val := by decide +kernel
theorem hx_back' {c : UInt8} (h : isHx c = true) : hxV c < 16 ∧ hx (hxV c) = c := by
 have hc : UInt8.ofNat c.toNat = c := by simp
 have := hx_back ⟨c.toNat, UInt8.toNat_lt c⟩
 simp only [hc] at this
 exact this h
theorem hexT_length (k : List UInt8) : (hexT k).length = 2 * k.length := by
 induction k with
 | nil => rfl
 | cons c k ih => simp only [hexT, List.flatMap_cons, List.length_append, List.length_cons, List.length_nil] at ih ⊢; omega
theorem hexT_hx (k : List UInt8) : (hexT k).all isHx = true := by
 rw [List.all_eq_true]
 intro c hc
 obtain ⟨b, _, hb⟩ := List.mem_flatMap.1 hc
 have hlt := UInt8.toNat_lt b
 rcases List.mem_cons.1 hb with rfl | hb
 ·exact (hx_val ⟨b.toNat / 16, by omega⟩).1
 ·obtain rfl := List.mem_singleton.1 hb
  exact (hx_val ⟨b.toNat % 16, by omega⟩).1
theorem unhex_hexT : ∀ k : List UInt8, unhex (hexT k) = k
 | [] => rfl
 | b :: k => by
  have ih := unhex_hexT k
  have hlt := UInt8.toNat_lt b
  have e : hexT (b :: k) = hx (b.toNat / 16) :: hx (b.toNat % 16) :: hexT k := by simp [hexT]
  rw [e, unhex, ih, (hx_val ⟨b.toNat / 16, by omega⟩).2, (hx_val ⟨b.toNat % 16, by omega⟩).2]
  congr 1
  have : 16 * (b.toNat / 16) + b.toNat % 16 = b.toNat := by omega
  rw [this]; simp
theorem hexT_unhex : ∀ (n : Nat) (s : List UInt8), s.length = 2 * n → s.all isHx = true → hexT (unhex s) = s ∧ (unhex s).length = n
 | 0, s, h, _ => by
  obtain rfl := List.length_eq_zero_iff.1 (by omega : s.length = 0)
  exact ⟨rfl, rfl⟩
 | n + 1, s, h, hs => by
  match s, h, hs with
  | a :: b :: s, h, hs =>
   simp only [List.length_cons] at h
   simp only [List.all_cons, Bool.and_eq_true] at hs
   have ih := hexT_unhex n s (by omega) hs.2.2
   have ha := hx_back' hs.1
   have hb := hx_back' hs.2.1
   have e : hexT (unhex (a :: b :: s)) = hx ((UInt8.ofNat (16 * hxV a + hxV b)).toNat / 16) :: hx ((UInt8.ofNat (16 * hxV a + hxV b)).toNat % 16) :: hexT (unhex s) := by simp [hexT, unhex]
   have e1 : (UInt8.ofNat (16 * hxV a + hxV b)).toNat = 16 * hxV a + hxV b := by simp; omega
   have e2 : (16 * hxV a + hxV b) / 16 = hxV a := by omega
   have e3 : (16 * hxV a + hxV b) % 16 = hxV b := by omega
   rw [e, e1, e2, e3, ih.1, ha.2, hb.2]
   exact ⟨rfl, by simp [unhex, ih.2]⟩
theorem idV_some {s k : List UInt8} (h : idV s = some k) : s = prId k ∧ k.length = 32 := by
 unfold idV at h
 split at h
 ·next hc =>
  obtain ⟨h1, h2, h3, h4⟩ := hc
  obtain rfl : unhex ((s.drop 1).take 64) = k := by simpa using h
  have hl : ((s.drop 1).take 64).length = 2 * 32 := by simp; omega
  have hh := hexT_unhex 32 _ hl h3
  refine ⟨?_, hh.2⟩
  unfold prId
  rw [hh.1]
  cases s with
  | nil => exact absurd h2 (by simp)
  | cons c t =>
   obtain rfl : c = 60 := by simpa using h2
   have e : (60 :: t).drop 65 = t.drop 64 := rfl
   rw [e] at h4
   simp only [List.drop_succ_cons, List.drop_zero]
   rw [← h4, List.cons_append, List.take_append_drop]
 ·exact absurd h (by simp)
theorem idV_pr {k : List UInt8} (h : k.length = 32) : idV (prId k) = some k := by
 have hl := hexT_length k
 unfold idV
 have e1 : ((prId k).drop 1).take 64 = hexT k := by
  unfold prId
  rw [List.cons_append, List.drop_succ_cons, List.drop_zero, List.take_left' (by omega)]
 have e2 : (prId k).drop 65 = wHash := by
  unfold prId
  rw [List.cons_append, List.drop_succ_cons, List.drop_left' (by omega)]
 have e3 : (prId k).length = 71 := by
  have : wHash.length = 6 := rfl
  unfold prId; simp; omega
 rw [if_pos ⟨e3, rfl, by rw [e1]; exact hexT_hx k, e2⟩, e1, unhex_hexT]
theorem idB_ok {seen : List (List UInt8)} {s : List UInt8} (h : idB seen s = true) : ∃ k, idV s = some k ∧ k ≠ zId ∧ k ∉ seen := by
 unfold idB at h
 cases hv : idV s with
 | none => rw [hv] at h; exact absurd h (by simp)
 | some k => rw [hv] at h; simp at h; exact ⟨k, rfl, h.1, h.2⟩
/-! ### items -/
theorem chkI_zero {x : It} : chkI x = 0 ↔ fromB x.fr = true ∧ minB x.dt = true ∧ subjB x.su = true ∧ x.ky ≠ zId ∧ has13 x.bo = false := by
 unfold chkI
 cases fromB x.fr <;> cases minB x.dt <;> cases subjB x.su <;> cases has13 x.bo <;> by_cases hk : x.ky = zId <;> simp [hk]
theorem itemR_ok {r : Rd} {l : List UInt8} {seen : List (List UInt8)} (hf : ∀ l ∈ r.ls, noNl l) (h : (itemR r l seen).2.e = 0) :
  r.e = 0 ∧ l :: r.ls = itLs (itemR r l seen).1 ++ (itemR r l seen).2.ls ∧ chkI (itemR r l seen).1 = 0 ∧ (itemR r l seen).1.ky ∉ seen ∧ seen.length < 200 ∧ (itemR r l seen).1.ky.length = 32 := by
 unfold itemR at h ⊢
 simp only at h ⊢
 generalize hr0 : (if 200 ≤ seen.length then failR r 3 else r) = r0 at h ⊢
 generalize ha : valueR r0 l wFrom fromB = a at h ⊢
 generalize hb : dateR a.2 = b at h ⊢
 generalize hc : valueR (nextR b.2).2 (nextR b.2).1 wSubj subjB = c at h ⊢
 generalize hd : valueR (nextR c.2).2 (nextR c.2).1 wMid (idB seen) = d at h ⊢
 generalize hx : exactR d.2 [] = x at h ⊢
 have hls0 : r0.ls = r.ls := by rw [← hr0]; split <;> (try rfl); unfold failR; split <;> rfl
 -- no error at the end: none before
 have hx0 : x.e = 0 := by
  unfold bodyR at h
  by_cases he : x.e ≠ 0
  ·rw [if_pos he] at h; exact absurd h he
  ·exact Classical.not_not.1 he
 have gx := exactR_ok (r := d.2) (l := []) (by rw [hx]; exact hx0)
 have gd := valueR_ok (r := (nextR c.2).2) (l := (nextR c.2).1) (w := wMid) (p := idB seen) (by rw [hd]; exact gx.1)
 rw [hd] at gd
 have gn := nextR_ok gd.1
 have gc := valueR_ok (r := (nextR b.2).2) (l := (nextR b.2).1) (w := wSubj) (p := subjB) (by rw [hc]; exact gn.1)
 rw [hc] at gc
 have gm := nextR_ok gc.1
 have gb := dateR_ok (r := a.2) (by rw [hb]; exact gm.1)
 rw [hb] at gb
 have ga := valueR_ok (r := r0) (l := l) (w := wFrom) (p := fromB) (by rw [ha]; exact gb.1)
 rw [ha] at ga
 have hlen : seen.length < 200 := by
  false_or_by_contra
  rw [if_pos (by omega)] at hr0
  rw [← hr0] at ga
  exact failR_ok (by decide) ga.1
 obtain ⟨k, hk1, hk2, hk3⟩ := idB_ok gd.2.2.1
 have gk := idV_some hk1
 have e0 : r.e = 0 := by
  rw [if_neg (by omega)] at hr0
  rw [hr0]; exact ga.1
 -- the lines
 have lx := gx.2
 rw [hx] at lx
 have e1 : r.ls = (wDate ++ fm b.1) :: (wSubj ++ c.1) :: (wMid ++ prId k) :: [] :: x.ls := by
  have q1 := gb.2.1
  rw [ga.2.2.2, hls0] at q1
  rw [q1, gm.2, gc.2.1, ← gc.2.2.2, gn.2, gd.2.1, ← gd.2.2.2, lx, gk.1]
 have hfx : ∀ l ∈ x.ls, noNl l := fun l hl => hf l (by rw [e1]; simp [hl])
 have gy := bodyR_ok hfx h
 rw [hk1]
 refine ⟨e0, ?_, chkI_zero.2 ⟨ga.2.2.1, gb.2.2, gc.2.2.1, hk2, gy.2.2⟩, hk3, hlen, gk.2⟩
 rw [ga.2.1, e1, gy.2.1]
 simp [itLs]
theorem more_true {r : Rd} {last : List UInt8} {its : List It} (h : more r last its = true) : r.e = 0 ∧ (its = [] ∨ wEnd.isPrefixOf last = false) := by
 unfold more at h
 simp only [Bool.and_eq_true, decide_eq_true_eq, Bool.or_eq_true, List.isEmpty_iff, Bool.not_eq_true'] at h
 exact h
/-! ### what Burst accepts -/
/-! ### no line feeds -/
theorem noNl_app {a b : List UInt8} (ha : noNl a) (hb : noNl b) : noNl (a ++ b) := fun c hc => (List.mem_append.1 hc).elim (ha c) (hb c)
theorem noNl_plain {s : List UInt8} (h : plainB s = true) : noNl s := fun c hc e => by
 simp only [plainB, Bool.and_eq_true, List.all_eq_true] at h
 have := h.1.1 c hc
 subst e
 exact absurd this (by decide)
theorem noNl_dd (u : Nat) : noNl (decDigits u) := fun c hc e => by
 have := dd_digits u c hc
 subst e
 simp at this
theorem noNl_digs : ∀ (k : Nat) (n : Int), noNl (Go.Dt.digs k n)
 | 0, _ => by simp [noNl, Go.Dt.digs]
 | k + 1, n => fun c hc => by
  unfold Go.Dt.digs at hc
  rcases List.mem_cons.1 hc with rfl | hc
  ·intro e
   have h := congrArg UInt8.toNat e
   have h2 : 0 ≤ (Go.Dt.dv k n) % 10 ∧ (Go.Dt.dv k n) % 10 < 10 := by omega
   unfold Go.Dt.dg at h
   have h3 : (UInt8.ofNat (48 + (Go.Dt.dv k n % 10).toNat)).toNat = 48 + (Go.Dt.dv k n % 10).toNat := by simp; omega
   rw [h3] at h
   have h4 : (10 : UInt8).toNat = 10 := rfl
   omega
  ·exact noNl_digs k n c hc
theorem noNl_fm (m : Int) : noNl (fm m) := by
 have tab : ∀ (t : List (List UInt8)) (i : Nat), (∀ x ∈ t, noNl x) → noNl (t.getD i []) := fun t i h => by
  rw [List.getD_eq_getElem?_getD]
  cases hx : t[i]? with
  | none => simp [noNl]
  | some x => exact h x (List.mem_of_getElem? hx)
 have d1 : ∀ x ∈ Go.Dt.dayTab, noNl x := by unfold noNl; decide
 have d2 : ∀ x ∈ Go.Dt.monTab, noNl x := by unfold noNl; decide
 have w1 : noNl [44, 32] := by unfold noNl; decide
 have w2 : noNl [32] := by unfold noNl; decide
 have w3 : noNl [58] := by unfold noNl; decide
 have w4 : noNl [if (0 : Int) < 0 then 45 else 43] := by unfold noNl; decide
 have A := @noNl_app
 have D := noNl_digs
 exact A (A (A (A (A (A (A (A (A (A (A (A (A (A (tab _ _ d1) w1) (D _ _)) w2) (tab _ _ d2)) w2) (D _ _)) w2) (D _ _)) w3) (D _ _)) w2) w4) (D _ _)) (D _ _)
theorem noNl_hex (k : List UInt8) : noNl (hexT k) := fun c hc e => by
 have := List.all_eq_true.1 (hexT_hx k) c hc
 subst e
 exact absurd this (by decide)
theorem noNl_pr (k : List UInt8) : noNl (prId k) := by
 unfold prId
 have h2 : noNl wHash := by unfold noNl; decide
 have h1 := noNl_app (noNl_hex k) h2
 intro c hc
 rcases List.mem_cons.1 hc with rfl | hc
 ·decide
 ·exact h1 c hc
theorem noNl_word {w : List UInt8} (h : w.all (· != 10) = true) : noNl w := fun c hc => by
 have := List.all_eq_true.1 h c hc
 simpa using this
theorem numsOf_free : ∀ (l : List It) (su : List UInt8) (k : Nat), ∀ n ∈ numsOf su k l, noNl n
 | [], _, _, n, h => absurd h (by simp [numsOf])
 | x :: l, su, k, n, h => by
  unfold numsOf at h
  split at h
  ·rcases List.mem_cons.1 h with rfl | h
   ·exact noNl_dd _
   ·exact numsOf_free l su _ n h
  ·exact numsOf_free l su _ n h
theorem join_free {ps : List (List UInt8)} {sep : List UInt8} (hs : noNl sep) (h : ∀ p ∈ ps, noNl p) : noNl (join ps sep) := by
 cases ps with
 | nil => rw [join_nil]; simp [noNl]
 | cons p ps =>
  rw [join_cons]
  refine noNl_app (h p (by simp)) fun c hc => ?_
  simp only [joinTail, List.mem_flatten, List.mem_map] at hc
  obtain ⟨x, ⟨q, hq, rfl⟩, hx⟩ := hc
  exact noNl_app hs (h q (by simp [hq])) c hx
theorem subjL_mem : ∀ (l : List It) (acc : List (List UInt8)), ∀ s ∈ subjL acc l, s ∈ acc ∨ ∃ x ∈ l, x.su = s
 | [], acc, s, h => .inl h
 | x :: l, acc, s, h => by
  unfold subjL at h
  rcases subjL_mem l _ s h with h | ⟨y, hy, e⟩
  ·split at h
   ·exact .inl h
   ·rcases List.mem_append.1 h with h | h
    ·exact .inl h
    ·exact .inr ⟨x, by simp, (List.mem_singleton.1 h).symm⟩
  ·exact .inr ⟨y, by simp [hy], e⟩
theorem linesD_free {l : List It} (h : ∀ x ∈ l, noNl x.su) : ∀ n ∈ linesD l, noNl n := fun n hn => by
 obtain ⟨s, hs, rfl⟩ := List.mem_map.1 hn
 have hsu : noNl s := by
  rcases subjL_mem l [] s hs with hs | ⟨x, hx, rfl⟩
  ·exact absurd hs (by simp)
  ·exact h x hx
 unfold lineOf
 refine noNl_app ?_ (noNl_app (noNl_app (noNl_word (by decide)) (join_free (noNl_word (by decide)) (numsOf_free _ _ _))) (noNl_word (by decide)))
 split
 ·exact noNl_word (by decide)
 ·exact hsu
theorem from_plain {s : List UInt8} (h : fromB s = true) : plainB s = true := by simp only [fromB, Bool.and_eq_true] at h; exact h.1.1
theorem title_plain {s : List UInt8} (h : titleB s = true) : plainB s = true := by simp only [titleB, Bool.and_eq_true] at h; exact h.1.1
theorem subj_plain {s : List UInt8} (h : subjB s = true) : plainB s = true := by simp only [subjB, Bool.and_eq_true] at h; exact h.1
theorem itLs_free {x : It} (h : chkI x = 0) : ∀ l ∈ itLs x, noNl l := by
 obtain ⟨h1, _, h3, _, _⟩ := chkI_zero.1 h
 intro l hl
 rcases List.mem_append.1 hl with hl | hl
 ·rcases List.mem_append.1 hl with hl | hl
  ·simp only [List.mem_cons, List.not_mem_nil, or_false] at hl
   rcases hl with rfl | rfl | rfl | rfl | rfl
   ·exact noNl_app (noNl_word (by decide)) (noNl_plain (from_plain h1))
   ·exact noNl_app (noNl_word (by decide)) (noNl_fm _)
   ·exact noNl_app (noNl_word (by decide)) (noNl_plain (subj_plain h3))
   ·exact noNl_app (noNl_word (by decide)) (noNl_pr _)
   ·simp [noNl]
  ·obtain ⟨p, hp, rfl⟩ := List.mem_map.1 hl
   exact noNl_dash (pcs_free _ p hp)
 ·obtain rfl := List.mem_singleton.1 hl; exact noNl_word (by decide)
theorem chkL_each : ∀ (l : List It) (seen : List (List UInt8)), chkL seen l = 0 → ∀ x ∈ l, chkI x = 0
 | [], _, _, x, hx => absurd hx (by simp)
 | y :: l, seen, h, x, hx => by
  unfold chkL at h
  by_cases h1 : chkI y = 0
  ·rw [if_neg (by simpa using h1)] at h
   by_cases h2 : y.ky ∈ seen
   ·rw [if_pos h2] at h; exact absurd h (by decide)
   ·rw [if_neg h2] at h
    rcases List.mem_cons.1 hx with rfl | hx
    ·exact h1
    ·exact chkL_each l _ h x hx
  ·rw [if_pos h1] at h; exact absurd h h1
theorem head_free {d : Dg} (h : titleB d.ti = true) : noNl (headT d) :=
 noNl_app (noNl_app (noNl_app (noNl_app (noNl_plain (title_plain h)) (noNl_word (by decide))) (noNl_dd _)) (noNl_word (by decide))) (noNl_dd _)
theorem tLs_free {d : Dg} (ht : titleB d.ti = true) (hc : chkL [] d.its = 0) : ∀ l ∈ tLs d, noNl l := by
 have hi := chkL_each _ _ hc
 intro l hl
 unfold tLs at hl
 simp only [List.mem_append, List.mem_cons, List.not_mem_nil, or_false, List.mem_map, List.mem_flatMap] at hl
 rcases hl with (((hl | ⟨n, hn, rfl⟩) | rfl) | ⟨x, hx, hl⟩) | rfl
 ·rcases hl with rfl | rfl | rfl
  ·exact head_free ht
  ·exact noNl_app (noNl_word (by decide)) (noNl_fm _)
  ·exact noNl_word (by decide)
 ·exact noNl_app (noNl_word (by decide)) (linesD_free (fun x hx => noNl_plain (subj_plain (chkI_zero.1 (hi x hx)).2.2.1)) n hn)
 ·exact noNl_word (by decide)
 ·exact itLs_free (hi x hx) l hl
 ·exact noNl_app (noNl_word (by decide)) (head_free ht)
/-! ### steps that meet what they want -/
theorem nextR_go (l : List UInt8) (ls : List (List UInt8)) (n : Int) : nextR ⟨l :: ls, n, 0⟩ = (l, ⟨ls, n + 1, 0⟩) := by simp [nextR]
theorem valueR_go {ls : List (List UInt8)} {n : Int} {w v : List UInt8} {p : List UInt8 → Bool} (h : p v = true) : valueR ⟨ls, n, 0⟩ (w ++ v) w p = (v, ⟨ls, n, 0⟩) := by
 unfold valueR
 rw [List.drop_left, if_pos ⟨rfl, prefix_app w v, h⟩]
theorem exactR_go (l : List UInt8) (ls : List (List UInt8)) (n : Int) : exactR ⟨l :: ls, n, 0⟩ l = ⟨ls, n + 1, 0⟩ := by
 unfold exactR
 rw [nextR_go, if_pos rfl]
theorem dateR_go {m : Int} (h : minB m = true) (ls : List (List UInt8)) (n : Int) : dateR ⟨(wDate ++ fm m) :: ls, n, 0⟩ = (m, ⟨ls, n + 1, 0⟩) := by
 have hc := canon_fm h
 unfold dateR
 rw [nextR_go]
 simp only
 rw [valueR_go hc.1]
 simp [hc.2]
theorem headR_go {d : Dg} (ht : titleB d.ti = true) (hv : ordB d.vo = true) (hi : ordB d.ie = true) (ls : List (List UInt8)) (n : Int) : headR ⟨ls, n, 0⟩ (headT d) = ((d.ti, d.vo, d.ie), ⟨ls, n, 0⟩) := by
 unfold headR headT
 rw [if_neg (by simp), headV_go ht hv hi]
theorem consL_go : ∀ (cs : List (List UInt8)) (n : Int) (acc rest : List (List UInt8)), ∃ n', consL (cs.map (wSp ++ ·) ++ sepT :: rest) n acc = (acc ++ cs, ⟨rest, n', 0⟩)
 | [], n, acc, rest => ⟨n + 1, by simp [consL]⟩
 | c :: cs, n, acc, rest => by
  obtain ⟨n', h⟩ := consL_go cs (n + 1) (acc ++ [c]) rest
  refine ⟨n', ?_⟩
  rw [List.map_cons, List.cons_append, consL, if_neg (fun e => by injection e with e _; exact absurd e (by decide)), if_pos (prefix_app wSp c)]
  have e : (wSp ++ c).drop 2 = c := rfl
  rw [e, h]; simp
theorem consR_go (cs : List (List UInt8)) (n : Int) (rest : List (List UInt8)) : ∃ n', consR ⟨cs.map (wSp ++ ·) ++ sepT :: rest, n, 0⟩ = (cs, ⟨rest, n', 0⟩) := by
 obtain ⟨n', h⟩ := consL_go cs n [] rest
 refine ⟨n', ?_⟩
 unfold consR
 rw [if_neg (by simp)]
 exact h
theorem dash_sep (p : List UInt8) : dash p ++ p = sepT → False := fun h => by
 unfold dash at h
 split at h
 ·injection h with _ h
  injection h with h _
  exact absurd h (by decide)
 ·next hn => rw [List.nil_append] at h; subst h; exact hn rfl
theorem bodyL_go : ∀ (qs : List (List UInt8)) (n : Int) (ps rest : List (List UInt8)), (∀ q ∈ qs, has13 q = false) → ps ++ qs ≠ [] → ∃ n', bodyL (qs.map (fun p => dash p ++ p) ++ sepT :: rest) n ps = (ps ++ qs, ⟨rest, n', 0⟩)
 | [], n, ps, rest, _, hne => ⟨n + 1, by
  rw [List.append_nil] at hne
  rw [List.map_nil, List.nil_append, bodyL, if_pos ⟨rfl, hne⟩, List.append_nil]⟩
 | q :: qs, n, ps, rest, h, _ => by
  obtain ⟨n', hg⟩ := bodyL_go qs (n + 1) (ps ++ [q]) rest (fun x hx => h x (by simp [hx])) (by simp)
  refine ⟨n', ?_⟩
  rw [List.map_cons, List.cons_append, bodyL, if_neg (fun e => dash_sep q e.1), unprot_dash]
  simp only
  rw [if_neg (by rw [has13_dash, h q (by simp)]; simp), hg]; simp
theorem bodyR_go {s : List UInt8} (h : has13 s = false) (rest : List (List UInt8)) (n : Int) : ∃ n', bodyR ⟨protL s ++ sepT :: rest, n, 0⟩ = (s, ⟨rest, n', 0⟩) := by
 obtain ⟨n', hg⟩ := bodyL_go (pcs s) n [] rest (fun q hq => by
  cases hb : has13 q with
  | false => rfl
  | true => rw [has13_iff.2 (mem_pcs hq (has13_iff.1 hb))] at h; exact absurd h (by simp)) (by simpa using pcs_ne s)
 refine ⟨n', ?_⟩
 unfold bodyR protL
 rw [if_neg (by simp)]
 simp only
 rw [hg, List.nil_append, join_pcs]
theorem itemR_go {x : It} {seen : List (List UInt8)} (h : chkI x = 0) (hk : x.ky.length = 32) (hs : x.ky ∉ seen) (hn : seen.length < 200) (rest : List (List UInt8)) (n : Int) :
  ∃ n', itemR ⟨[wDate ++ fm x.dt, wSubj ++ x.su, wMid ++ prId x.ky, []] ++ protL x.bo ++ sepT :: rest, n, 0⟩ (wFrom ++ x.fr) seen = (x, ⟨rest, n', 0⟩) := by
 obtain ⟨h1, h2, h3, h4, h5⟩ := chkI_zero.1 h
 obtain ⟨n', hb⟩ := bodyR_go h5 rest (n + 1 + 1 + 1 + 1)
 have hid : idB seen (prId x.ky) = true := by
  unfold idB
  rw [idV_pr hk]; simp [h4, hs]
 refine ⟨n', ?_⟩
 unfold itemR
 rw [if_neg (by omega)]
 simp only [List.cons_append, List.nil_append]
 rw [valueR_go h1]
 simp only
 rw [dateR_go h2]
 simp only
 rw [nextR_go]
 simp only
 rw [valueR_go h3]
 simp only
 rw [nextR_go]
 simp only
 rw [valueR_go hid]
 simp only
 rw [exactR_go, hb, idV_pr hk]
 rfl
theorem itemsF_go : ∀ (l : List It) (its : List It) (f : Nat) (n : Int) (last : List UInt8) (ls : List (List UInt8)) (H : List UInt8), chkL (its.map (·.ky)) l = 0 → (∀ x ∈ l, x.ky.length = 32) → its.length + l.length ≤ 200 → its ++ l ≠ [] → l.length < f →
  last :: ls = l.flatMap itLs ++ [wEnd ++ H] → ∃ n', itemsF f ⟨ls, n, 0⟩ last its = (⟨[], n', 0⟩, wEnd ++ H, its ++ l)
 | [], its, 0, _, _, _, _, _, _, _, _, hf, _ => absurd hf (by simp)
 | [], its, f + 1, n, last, ls, H, _, _, _, hne, _, e => by
  rw [List.flatMap_nil, List.nil_append] at e
  injection e with e1 e2
  subst e1 e2
  refine ⟨n, ?_⟩
  unfold itemsF
  rw [if_neg, List.append_nil]
  intro hm
  rcases (more_true hm).2 with h | h
  ·exact hne (by simpa using h)
  ·rw [prefix_app] at h; exact absurd h (by simp)
 | x :: l, its, 0, _, _, _, _, _, _, _, _, hf, _ => absurd hf (by simp)
 | x :: l, its, f + 1, n, last, ls, H, hc, hk, hn, _, hf, e => by
  unfold chkL at hc
  by_cases h1 : chkI x = 0
  case neg => rw [if_pos h1] at hc; exact absurd hc h1
  rw [if_neg (by simpa using h1)] at hc
  by_cases h2 : x.ky ∈ its.map (·.ky)
  case pos => rw [if_pos h2] at hc; exact absurd hc (by decide)
  rw [if_neg h2] at hc
  simp only [List.length_cons] at hn hf
  have e' : last :: ls = (wFrom ++ x.fr) :: ([wDate ++ fm x.dt, wSubj ++ x.su, wMid ++ prId x.ky, []] ++ protL x.bo ++ sepT :: (l.flatMap itLs ++ [wEnd ++ H])) := by
   rw [e, List.flatMap_cons, itLs]; simp
  injection e' with e1 e2
  subst e1 e2
  obtain ⟨m, hm⟩ : ∃ m, l.flatMap itLs ++ [wEnd ++ H] = m := ⟨_, rfl⟩
  cases m with
  | nil => exact absurd hm (by simp)
  | cons last' ls' =>
   rw [hm]
   obtain ⟨n1, hi⟩ := itemR_go h1 (hk x (by simp)) h2 (by rw [List.length_map]; omega) (last' :: ls') n
   obtain ⟨n2, hr⟩ := itemsF_go l (its ++ [x]) f (n1 + 1) last' ls' H (by rw [List.map_append]; exact hc) (fun y hy => hk y (by simp [hy])) (by simp; omega) (by simp) (by omega) hm.symm
   refine ⟨n2, ?_⟩
   unfold itemsF
   rw [if_pos]
   ·simp only
    rw [hi]
    simp only
    rw [nextR_go, hr]; simp
   ·unfold more
    have : wEnd.isPrefixOf (wFrom ++ x.fr) = false := rfl
    rw [this]; simp
theorem burstL_go {d : Dg} (ht : titleB d.ti = true) (hv : ordB d.vo = true) (hi : ordB d.ie = true) (hd : minB d.da = true) (hc : chkL [] d.its = 0) (hn : d.its.length ≤ 200) (hne : d.its ≠ []) (hk : ∀ x ∈ d.its, x.ky.length = 32) :
  burstL (tLs d) [] = .inl d := by
 obtain ⟨m, hm⟩ : ∃ m, d.its.flatMap itLs ++ [wEnd ++ headT d] = m := ⟨_, rfl⟩
 cases m with
 | nil => exact absurd hm (by simp)
 | cons last ls =>
  have e : tLs d = headT d :: (wDate ++ fm d.da) :: wTop :: ((linesD d.its).map (wSp ++ ·) ++ sepT :: last :: ls) := by
   rw [← hm]; simp [tLs]
  obtain ⟨n1, hcs⟩ := consR_go (linesD d.its) (0 + 1 + 1 + 1) (last :: ls)
  have hlen : d.its.length < (tLs d).length + 1 := by
   have h1 := congrArg List.length hm
   have h2 := congrArg List.length e
   have h3 : ∀ l : List It, l.length ≤ (l.flatMap itLs).length := fun l => by
    induction l with
    | nil => exact Nat.le_refl _
    | cons x l ih => rw [List.flatMap_cons, List.length_append, List.length_cons, itLs]; simp only [List.length_append, List.length_cons]; omega
   have := h3 d.its
   simp only [List.length_append, List.length_cons, List.length_nil] at h1 h2
   omega
  obtain ⟨F, hF⟩ : ∃ F, (tLs d).length + 1 = F := ⟨_, rfl⟩
  rw [hF] at hlen
  obtain ⟨n2, hit⟩ := itemsF_go d.its [] F (n1 + 1) last ls (headT d) hc hk (by simpa using hn) (by simpa using hne) hlen hm.symm
  rw [List.nil_append] at hit
  unfold burstL
  simp only
  rw [hF, e, nextR_go]
  simp only
  rw [headR_go ht hv hi]
  simp only
  rw [dateR_go hd]
  simp only
  rw [exactR_go, hcs]
  simp only
  rw [nextR_go]
  simp only
  rw [hit]
  simp
theorem chkD_zero {d : Dg} (h : chkD d = 0) : titleB d.ti = true ∧ ordB d.vo = true ∧ ordB d.ie = true ∧ minB d.da = true ∧ d.its ≠ [] ∧ d.its.length ≤ 200 ∧ chkL [] d.its = 0 ∧ (textD d).length ≤ 1048576 := by
 unfold chkD at h
 by_cases h1 : titleB d.ti = false
 ·rw [if_pos h1] at h; exact absurd h (by decide)
 rw [if_neg h1] at h
 by_cases h2 : ordB d.vo = false ∨ ordB d.ie = false
 ·rw [if_pos h2] at h; exact absurd h (by decide)
 rw [if_neg h2] at h
 by_cases h3 : minB d.da = false
 ·rw [if_pos h3] at h; exact absurd h (by decide)
 rw [if_neg h3] at h
 by_cases h4 : d.its = []
 ·rw [if_pos h4] at h; exact absurd h (by decide)
 rw [if_neg h4] at h
 by_cases h5 : 200 < d.its.length
 ·rw [if_pos h5] at h; exact absurd h (by decide)
 rw [if_neg h5] at h
 by_cases h6 : chkL [] d.its ≠ 0
 ·rw [if_pos h6] at h; exact absurd h h6
 rw [if_neg h6] at h
 by_cases h7 : 1048576 < (textD d).length
 ·rw [if_pos h7] at h; exact absurd h (by decide)
 obtain ⟨h2a, h2b⟩ := not_or.1 h2
 exact ⟨by simpa using h1, by simpa using h2a, by simpa using h2b, by simpa using h3, h4, by omega, Classical.not_not.1 h6, by omega⟩
/-- Burst undoes Bundle. -/
theorem burstD_text {d : Dg} (h : chkD d = 0) (hk : ∀ x ∈ d.its, x.ky.length = 32) : burstD (textD d) = .inl d := by
 obtain ⟨h1, h2, h3, h4, h5, h6, h7, h8⟩ := chkD_zero h
 unfold burstD
 rw [if_neg (by omega)]
 have e : lns (textD d) = (tLs d, []) := by
  have := lns_unl (tLs d) [] (tLs_free h1 h7) (by simp [noNl])
  rw [List.append_nil] at this
  exact this
 rw [e]
 exact burstL_go h1 h2 h3 h4 h7 h6 h5 hk
/-! ### no two dashes begin a line -/
/-! ### Restore undoes Protect -/
theorem unl_length_le (ls : List (List UInt8)) : (unl ls).length = lens ls + ls.length := by
 induction ls with
 | nil => rfl
 | cons l ls ih => rw [unl_cons]; simp only [List.length_append, List.length_cons, lens, List.map_cons, List.sum_cons] at ih ⊢; omega
theorem dash_length (p : List UInt8) : (dash p ++ p).length ≤ p.length + 2 := by
 unfold dash; split <;> simp <;> omega
theorem prot_length (s : List UInt8) : (prot s).length ≤ 3 * s.length + 3 := by
 have h1 : (prot s).length ≤ lens (pcs s) + 3 * (pcs s).length := by
  unfold prot protL
  rw [unl_length_le, List.length_map]
  have : ∀ ps : List (List UInt8), lens (ps.map fun p => dash p ++ p) ≤ lens ps + 2 * ps.length := fun ps => by
   induction ps with
   | nil => simp [lens]
   | cons p ps ih =>
    have := dash_length p
    simp only [lens, List.map_cons, List.sum_cons, List.length_cons] at ih ⊢
    omega
  have := this (pcs s)
  omega
 have h2 : lens (pcs s) + (pcs s).length = s.length + 1 := by
  have := congrArg List.length (lns_eq s)
  rw [List.length_append, unl_length_le] at this
  unfold pcs
  simp only [lens, List.map_append, List.sum_append, List.length_append, List.map_cons, List.map_nil, List.sum_cons, List.sum_nil, List.length_cons, List.length_nil] at this ⊢
  omega
 omega
/-! ### the lines of contents, one by one -/
theorem subjL_acc : ∀ (l : List It) (acc : List (List UInt8)) (x : It), subjL acc (l ++ [x]) = if x.su ∈ subjL acc l then subjL acc l else subjL acc l ++ [x.su]
 | [], acc, x => rfl
 | y :: l, acc, x => by
  rw [List.cons_append, subjL, subjL, subjL_acc l]
theorem subjL_iff (l : List It) (s : List UInt8) : s ∈ subjL [] l ↔ ∃ x ∈ l, x.su = s := by
 refine ⟨fun h => (subjL_mem l [] s h).resolve_left (by simp), ?_⟩
 have key : ∀ (l : List It) (acc : List (List UInt8)), (s ∈ acc ∨ ∃ x ∈ l, x.su = s) → s ∈ subjL acc l := by
  intro l
  induction l with
  | nil => intro acc h; simpa [subjL] using h
  | cons y l ih =>
   intro acc h
   unfold subjL
   refine ih _ ?_
   rcases h with h | ⟨x, hx, rfl⟩
   ·left; split
    ·exact h
    ·simp [h]
   ·rcases List.mem_cons.1 hx with rfl | hx
    ·left; split
     ·assumption
     ·simp
    ·exact .inr ⟨x, hx, rfl⟩
 exact fun h => key l [] (.inr h)
theorem numsOf_snoc : ∀ (l : List It) (su : List UInt8) (k : Nat) (x : It), numsOf su k (l ++ [x]) = if x.su = su then numsOf su k l ++ [decDigits (k + l.length + 1)] else numsOf su k l
 | [], su, k, x => by simp [numsOf]
 | y :: l, su, k, x => by
  have ih := numsOf_snoc l su (k + 1) x
  have e : k + 1 + l.length + 1 = k + (l.length + 1) + 1 := by omega
  rw [e] at ih
  rw [List.cons_append, numsOf, numsOf, ih, List.length_cons]
  by_cases h1 : y.su = su <;> by_cases h2 : x.su = su <;> simp [h1, h2]
theorem join_snoc {ps : List (List UInt8)} (h : ps ≠ []) (q sep : List UInt8) : join (ps ++ [q]) sep = join ps sep ++ sep ++ q := by
 cases ps with
 | nil => exact absurd rfl h
 | cons p ps => rw [List.cons_append, join_cons, join_cons]; simp [joinTail]
theorem join_empty {ps : List (List UInt8)} {sep : List UInt8} (h : ∀ p ∈ ps, p ≠ []) : join ps sep = [] ↔ ps = [] := by
 constructor
 ·intro hj
  cases ps with
  | nil => rfl
  | cons p ps =>
   rw [join_cons, List.append_eq_nil_iff] at hj
   exact absurd hj.1 (h p (by simp))
 ·rintro rfl; rfl
theorem numsOf_ne : ∀ (l : List It) (su : List UInt8) (k : Nat), ∀ p ∈ numsOf su k l, p ≠ []
 | [], _, _, p, h => absurd h (by simp [numsOf])
 | x :: l, su, k, p, h => by
  unfold numsOf at h
  split at h
  ·rcases List.mem_cons.1 h with rfl | h
   ·exact dd_ne _
   ·exact numsOf_ne l su _ p h
  ·exact numsOf_ne l su _ p h
def part (d : Dg) (k : Nat) (l : List It) : Dg := ⟨d.ti, d.vo, d.ie + k, d.da, l⟩
def szD (d : Dg) : Nat := (textD d).length
/-- How many items fit, at most f more than n. -/
def fitN (d : Dg) (k bytes : Nat) (rest : List It) : Nat → Nat → Nat
 | 0, n => n
 | f + 1, n => if bytes < szD (part d k (rest.take (n + 1))) then n else fitN d k bytes rest f (n + 1)
theorem fitN_ge (d : Dg) (k bytes : Nat) (rest : List It) : ∀ f n, n ≤ fitN d k bytes rest f n ∧ fitN d k bytes rest f n ≤ n + f
 | 0, n => by simp [fitN]
 | f + 1, n => by
  have := fitN_ge d k bytes rest f (n + 1)
  unfold fitN
  split <;> omega
theorem fitN_fits (d : Dg) (k bytes : Nat) (rest : List It) : ∀ f n, n < fitN d k bytes rest f n → szD (part d k (rest.take (fitN d k bytes rest f n))) ≤ bytes
 | 0, n, h => absurd h (by simp [fitN])
 | f + 1, n, h => by
  unfold fitN at h ⊢
  split
  ·next hs => rw [if_pos hs] at h; exact absurd h (by simp)
  ·next hs =>
   rw [if_neg hs] at h
   by_cases hn : n + 1 < fitN d k bytes rest f (n + 1)
   ·exact fitN_fits d k bytes rest f (n + 1) hn
   ·have := fitN_ge d k bytes rest f (n + 1)
    have e : fitN d k bytes rest f (n + 1) = n + 1 := by omega
    rw [e]; omega
/-- The parts from the k-th on; none: an item is too long. -/
def divL (d : Dg) (items bytes : Nat) : Nat → Nat → List It → Option (List Dg)
 | _, _, [] => some []
 | 0, _, _ :: _ => some []
 | f + 1, k, x :: rest =>
  let n := fitN d k bytes (x :: rest) (min items (x :: rest).length) 0
  if n = 0 then none else (divL d items bytes f (k + 1) ((x :: rest).drop n)).map (part d k ((x :: rest).take n) :: ·)
def divF (d : Dg) (items bytes : Int) : List Dg × Int :=
 if chkD d ≠ 0 then ([], chkD d) else if (items < 1 ∨ 200 < items) ∨ (bytes < 1 ∨ 1048576 < bytes) then ([], 2) else
 match divL d items.toNat bytes.toNat d.its.length 0 d.its with
 | none => ([], 5)
 | some l => if d.ie + l.length - 1 > 1000000 then ([], 2) else (l, 0)
/-- The reference's way: items left, parts that are done, the part under way (its number, its items). -/
def refL (d : Dg) (items bytes : Nat) : List It → List Dg → Nat → List It → Option (List Dg)
 | [], out, k, cur => some (out ++ [part d k cur])
 | x :: l, out, k, cur =>
  if cur ≠ [] ∧ (items < (cur ++ [x]).length ∨ bytes < szD (part d k (cur ++ [x]))) then
   if bytes < szD (part d (k + 1) [x]) then none else refL d items bytes l (out ++ [part d k cur]) (k + 1) [x]
  else if bytes < szD (part d k (cur ++ [x])) then none else refL d items bytes l out k (cur ++ [x])
theorem divL_fuel (d : Dg) (items bytes : Nat) : ∀ (f : Nat) (k : Nat) (l : List It), l.length ≤ f → divL d items bytes f k l = divL d items bytes l.length k l
 | _, k, [], _ => by simp [divL]
 | 0, k, x :: l, h => absurd h (by simp)
 | f + 1, k, x :: l, h => by
  simp only [List.length_cons, divL]
  split
  ·rfl
  ·next hn =>
   have hlen : ((x :: l).drop (fitN d k bytes (x :: l) (min items (l.length + 1)) 0)).length ≤ l.length := by
    rw [List.length_drop, List.length_cons]; omega
   simp only [List.length_cons] at h
   rw [divL_fuel d items bytes f (k + 1) _ (by omega), divL_fuel d items bytes l.length (k + 1) _ hlen]
/-- The rest, where `cur` of the part is taken already. -/
def divC (d : Dg) (items bytes k : Nat) (cur rest : List It) : Option (List Dg) :=
 let n := fitN d k bytes (cur ++ rest) (min items (cur ++ rest).length - cur.length) cur.length
 (divL d items bytes (cur ++ rest).length (k + 1) ((cur ++ rest).drop n)).map (part d k ((cur ++ rest).take n) :: ·)
theorem divL_cons (d : Dg) (items bytes k : Nat) (x : It) (l : List It) (hi : 1 ≤ items) :
  divL d items bytes (x :: l).length k (x :: l) = if bytes < szD (part d k [x]) then none else divC d items bytes k [x] l := by
 obtain ⟨m, hm⟩ : ∃ m, min items (x :: l).length = m + 1 := ⟨min items (x :: l).length - 1, by simp only [List.length_cons]; omega⟩
 rw [List.length_cons, divL]
 simp only [hm]
 unfold fitN
 by_cases hs : bytes < szD (part d k [x])
 ·have hs' : bytes < szD (part d k ((x :: l).take (0 + 1))) := hs
  rw [if_pos hs', if_pos rfl, if_pos hs]
 ·have hs' : ¬ bytes < szD (part d k ((x :: l).take (0 + 1))) := hs
  have hg := fitN_ge d k bytes (x :: l) m (0 + 1)
  rw [if_neg hs', if_neg hs, if_neg (by omega)]
  unfold divC
  have e : [x] ++ l = x :: l := rfl
  have hm' : min items (l.length + 1) - (0 + 1) = m := by simp only [List.length_cons] at hm; omega
  simp only [e, List.length_cons, List.length_nil, hm']
  have hlen : ((x :: l).drop (fitN d k bytes (x :: l) m (0 + 1))).length ≤ l.length := by
   rw [List.length_drop, List.length_cons]; omega
  rw [divL_fuel d items bytes l.length (k + 1) _ hlen, divL_fuel d items bytes (l.length + 1) (k + 1) _ (by omega)]
theorem refL_eq (d : Dg) (items bytes : Nat) (hi : 1 ≤ items) : ∀ (l : List It) (out : List Dg) (k : Nat) (cur : List It), cur ≠ [] → cur.length ≤ items →
  refL d items bytes l out k cur = (divC d items bytes k cur l).map (out ++ ·)
 | [], out, k, cur, hc, hn => by
  unfold refL divC
  rw [List.append_nil]
  have e : min items cur.length - cur.length = 0 := by omega
  simp only [e, fitN, List.take_length, List.drop_length]
  simp [divL]
 | x :: l, out, k, cur, hc, hn => by
  unfold refL
  have hcl : 1 ≤ cur.length := List.length_pos_iff.2 hc
  have etk : (cur ++ x :: l).take (cur.length + 1) = cur ++ [x] := by
   rw [show cur ++ x :: l = (cur ++ [x]) ++ l by simp, List.take_left' (by simp)]
  have edr : (cur ++ x :: l).drop cur.length = x :: l := List.drop_left
  have etc : (cur ++ x :: l).take cur.length = cur := List.take_left
  -- the part is full, or the next item does not fit
  have stop : (items < (cur ++ [x]).length ∨ bytes < szD (part d k (cur ++ [x]))) → fitN d k bytes (cur ++ x :: l) (min items (cur ++ x :: l).length - cur.length) cur.length = cur.length := by
   intro h
   by_cases hf : items < (cur ++ [x]).length
   ·have : min items (cur ++ x :: l).length - cur.length = 0 := by
     simp only [List.length_append, List.length_cons, List.length_nil] at hf ⊢; omega
    rw [this, fitN]
   ·have hf2 := h.resolve_left hf
    obtain ⟨m, hm⟩ : ∃ m, min items (cur ++ x :: l).length - cur.length = m + 1 := ⟨min items (cur ++ x :: l).length - cur.length - 1, by
     simp only [List.length_append, List.length_cons, List.length_nil] at hf ⊢; omega⟩
    rw [hm, fitN, etk, if_pos hf2]
  have hfu : (cur ++ x :: l).length = (x :: l).length + cur.length := by simp; omega
  by_cases h : items < (cur ++ [x]).length ∨ bytes < szD (part d k (cur ++ [x]))
  ·rw [if_pos ⟨hc, h⟩]
   unfold divC
   simp only [stop h, edr, etc]
   rw [divL_fuel d items bytes _ (k + 1) (x :: l) (by rw [hfu]; omega), divL_cons d items bytes (k + 1) x l hi]
   by_cases hs : bytes < szD (part d (k + 1) [x])
   ·rw [if_pos hs, if_pos hs]; rfl
   ·rw [if_neg hs, if_neg hs, refL_eq d items bytes hi l _ (k + 1) [x] (by simp) (by simpa using hi)]
    cases divC d items bytes (k + 1) [x] l <;> simp
  ·obtain ⟨h1, h2⟩ := not_or.1 h
   rw [if_neg (fun q => h q.2), if_neg h2, refL_eq d items bytes hi l out k (cur ++ [x]) (by simp) (by omega)]
   congr 1
   unfold divC
   have ea : cur ++ [x] ++ l = cur ++ x :: l := by simp
   obtain ⟨m, hm⟩ : ∃ m, min items (cur ++ x :: l).length - cur.length = m + 1 := ⟨min items (cur ++ x :: l).length - cur.length - 1, by
    simp only [List.length_append, List.length_cons, List.length_nil] at h1 ⊢; omega⟩
   have hm2 : min items (cur ++ x :: l).length - (cur.length + 1) = m := by omega
   have hl2 : (cur ++ [x]).length = cur.length + 1 := by simp
   simp only [ea, hl2, hm2, hm]
   rw [fitN, etk, if_neg h2]
/-- The reference's parts are the program's. -/
theorem refL_all {d : Dg} {items bytes : Nat} (hi : 1 ≤ items) (hne : d.its ≠ []) : refL d items bytes d.its [] 0 [] = divL d items bytes d.its.length 0 d.its := by
 cases hd : d.its with
 | nil => exact absurd hd hne
 | cons x l =>
  unfold refL
  rw [if_neg (fun q => q.1 rfl), List.nil_append, divL_cons d items bytes 0 x l hi]
  split
  ·rfl
  ·rw [refL_eq d items bytes hi l [] 0 [x] (by simp) (by simpa using hi)]
   cases divC d items bytes 0 [x] l <;> simp
/-- What the parts are: their issues follow one another, their items are the digest's, each is short enough. -/
theorem divL_parts (d : Dg) (items bytes : Nat) : ∀ (f : Nat) (k : Nat) (l : List It) (ps : List Dg), l.length ≤ f → divL d items bytes f k l = some ps →
  ps.flatMap (·.its) = l ∧ (∀ (i : Nat) (p : Dg), ps[i]? = some p → p = part d (k + i) p.its ∧ p.its ≠ [] ∧ p.its.length ≤ items ∧ szD p ≤ bytes) ∧ ps.length ≤ l.length ∧ (l ≠ [] → ps ≠ [])
 | _, k, [], ps, _, h => by
  have : ps = [] := by simpa [divL] using h.symm
  subst this; simp
 | 0, k, x :: l, ps, hf, _ => absurd hf (by simp)
 | f + 1, k, x :: l, ps, hf, h => by
  rw [divL] at h
  split at h
  ·exact absurd h (by simp)
  ·next hn =>
   cases hr : divL d items bytes f (k + 1) ((x :: l).drop (fitN d k bytes (x :: l) (min items (x :: l).length) 0)) with
   | none => rw [hr] at h; exact absurd h (by simp)
   | some qs =>
    rw [hr] at h
    obtain rfl : _ = ps := by simpa using h
    have hg := fitN_ge d k bytes (x :: l) (min items (x :: l).length) 0
    have hfit := fitN_fits d k bytes (x :: l) (min items (x :: l).length) 0 (by omega)
    generalize fitN d k bytes (x :: l) (min items (x :: l).length) 0 = n at *
    obtain ⟨h1, h2, h3, h4⟩ := divL_parts d items bytes f (k + 1) _ qs (by rw [List.length_drop]; omega) hr
    refine ⟨by rw [List.flatMap_cons, h1]; exact List.take_append_drop _ _, fun i p hp => ?_, by rw [List.length_drop] at h3; simp only [List.length_cons] at h3 ⊢; omega, fun _ => by simp⟩
    cases i with
    | zero =>
     obtain rfl : part d k ((x :: l).take n) = p := by simpa using hp
     refine ⟨rfl, ?_, ?_, hfit⟩
     ·show (x :: l).take n ≠ []
      intro e
      have := congrArg List.length e
      rw [List.length_take] at this
      simp at this; omega
     ·show ((x :: l).take n).length ≤ items
      rw [List.length_take]; omega
    | succ i =>
     rw [List.getElem?_cons_succ] at hp
     have := h2 i p hp
     rw [show k + 1 + i = k + (i + 1) by omega] at this
     exact this
/-! ### in the order of issues -/
def SrtD (l : List Dg) : Prop := l.Pairwise fun x y => x.ie < y.ie
def insD (x : Dg) : List Dg → List Dg
 | [] => [x]
 | y :: l => if x.ie ≤ y.ie then x :: y :: l else y :: insD x l
def sortD : List Dg → List Dg
 | [] => []
 | x :: l => insD x (sortD l)
theorem insD_perm (x : Dg) : ∀ l, (insD x l).Perm (x :: l)
 | [] => List.Perm.refl _
 | y :: l => by
  unfold insD
  split
  ·exact List.Perm.refl _
  ·exact ((insD_perm x l).cons y).trans (List.Perm.swap x y l)
theorem sortD_perm : ∀ l, (sortD l).Perm l
 | [] => List.Perm.refl _
 | x :: l => (insD_perm x (sortD l)).trans ((sortD_perm l).cons x)
theorem insD_srt (x : Dg) : ∀ l, SrtD l → (∀ y ∈ l, y.ie ≠ x.ie) → SrtD (insD x l)
 | [], _, _ => by simp [insD, SrtD]
 | y :: l, h, hn => by
  unfold SrtD at h ⊢
  rw [List.pairwise_cons] at h
  unfold insD
  split
  ·next hxy =>
   have hlt : x.ie < y.ie := by have := hn y (by simp); omega
   rw [List.pairwise_cons, List.pairwise_cons]
   refine ⟨fun z hz => ?_, h⟩
   rcases List.mem_cons.1 hz with rfl | hz
   ·exact hlt
   ·have := h.1 z hz; omega
  ·next hxy =>
   rw [List.pairwise_cons]
   refine ⟨fun z hz => ?_, insD_srt x l h.2 fun z hz => hn z (by simp [hz])⟩
   rcases List.mem_cons.1 ((insD_perm x l).mem_iff.1 hz) with rfl | hz
   ·omega
   ·exact h.1 z hz
theorem sortD_srt : ∀ l : List Dg, (l.map (·.ie)).Nodup → SrtD (sortD l)
 | [], _ => by simp [sortD, SrtD]
 | x :: l, h => by
  rw [List.map_cons, List.nodup_cons] at h
  refine insD_srt x _ (sortD_srt l h.2) fun y hy e => h.1 ?_
  rw [← e]
  exact List.mem_map.2 ⟨y, (sortD_perm l).mem_iff.1 hy, rfl⟩
theorem srtD_uniq : ∀ (a b : List Dg), SrtD a → SrtD b → (∀ x, x ∈ a ↔ x ∈ b) → a = b
 | [], [], _, _, _ => rfl
 | [], y :: b, _, _, h => absurd ((h y).2 (by simp)) (by simp)
 | x :: a, [], _, _, h => absurd ((h x).1 (by simp)) (by simp)
 | x :: a, y :: b, ha, hb, h => by
  unfold SrtD at ha hb
  rw [List.pairwise_cons] at ha hb
  have e : x = y := by
   rcases List.mem_cons.1 ((h x).1 (by simp)) with e | hx
   ·exact e
   ·rcases List.mem_cons.1 ((h y).2 (by simp)) with e | hy
    ·exact e.symm
    ·have := ha.1 y hy; have := hb.1 x hx; omega
  subst e
  congr 1
  refine srtD_uniq a b ha.2 hb.2 fun z => ⟨fun hz => ?_, fun hz => ?_⟩
  ·rcases List.mem_cons.1 ((h z).1 (by simp [hz])) with rfl | h2
   ·have := ha.1 z hz; omega
   ·exact h2
  ·rcases List.mem_cons.1 ((h z).2 (by simp [hz])) with rfl | h2
   ·have := hb.1 z hz; omega
   ·exact h2
/-- What a sort leaves. -/
theorem sortD_of {l m : List Dg} (hn : (l.map (·.ie)).Nodup) (hp : m.Perm l) (hs : m.Pairwise fun x y => ¬ y.ie < x.ie) : m = sortD l := by
 refine srtD_uniq _ _ ?_ (sortD_srt l hn) fun x => hp.mem_iff.trans (sortD_perm l).mem_iff.symm
 have hn2 : (m.map (·.ie)).Nodup := (hp.map _).nodup_iff.2 hn
 unfold List.Nodup at hn2
 rw [List.pairwise_map] at hn2
 exact (hs.and hn2).imp fun ⟨h1, h2⟩ => by omega
theorem sortD_self {l : List Dg} (h : SrtD l) : sortD l = l := by
 have hn : (l.map (·.ie)).Nodup := by
  unfold List.Nodup
  rw [List.pairwise_map]
  exact h.imp fun h e => by omega
 exact (sortD_of hn (List.Perm.refl l) (h.imp fun h => by omega)).symm
/-- The reference picks the sorted list's next. -/
theorem pick_next {l : List Dg} {t : Nat} {y : Dg} (hn : (l.map (·.ie)).Nodup) (hy : y ∈ l) (h1 : ∀ x ∈ (sortD l).take t, x.ie < y.ie) (h2 : ∀ z ∈ l, (∀ x ∈ (sortD l).take t, x.ie < z.ie) → y.ie ≤ z.ie) : (sortD l)[t]? = some y := by
 have hs := sortD_srt l hn
 have hm : y ∈ (sortD l).drop t := by
  have hy2 := (sortD_perm l).mem_iff.2 hy
  rw [← List.take_append_drop t (sortD l)] at hy2
  rcases List.mem_append.1 hy2 with h | h
  ·have := h1 y h; omega
  ·exact h
 have hs2 : SrtD ((sortD l).drop t) := List.Pairwise.drop hs
 cases hd : (sortD l).drop t with
 | nil => rw [hd] at hm; exact absurd hm (by simp)
 | cons z r =>
  have hz : (sortD l)[t]? = some z := by
   have := congrArg (·[0]?) hd
   simpa [List.getElem?_drop] using this
  rw [hd] at hm hs2
  unfold SrtD at hs2
  rw [List.pairwise_cons] at hs2
  rw [hz]
  rcases List.mem_cons.1 hm with rfl | hm
  ·rfl
  ·exfalso
   have hlt := hs2.1 y hm
   have hzl : z ∈ l := (sortD_perm l).mem_iff.1 (List.mem_of_getElem? hz)
   have := h2 z hzl fun x hx => by
    have e := hs
    rw [← List.take_append_drop t (sortD l), hd] at e
    exact (List.pairwise_append.1 e).2.2 x hx z (by simp)
   omega
/-! ### joining -/
def zD : Dg := ⟨[], 0, 0, 0, []⟩
def joinE (ti : List UInt8) (vo : Int) (seen : List Int) : List Dg → Int
 | [] => 0
 | d :: l => if chkD d ≠ 0 then chkD d else if d.ti ≠ ti ∨ d.vo ≠ vo then 12 else if d.ie ∈ seen then 7 else joinE ti vo (seen ++ [d.ie]) l
def maxDa (l : List Dg) : Int := l.foldl (fun a d => max a d.da) 0
def headIe (l : List Dg) : Int := match l with | [] => 0 | d :: _ => d.ie
def joined (ti : List UInt8) (vo : Int) (m : List Dg) : Dg := ⟨ti, vo, headIe m, maxDa m, m.flatMap (·.its)⟩
def joinF (l : List Dg) : Dg × Int := match l with
 | [] => (zD, 1)
 | d :: _ => if joinE d.ti d.vo [] l ≠ 0 then (zD, joinE d.ti d.vo [] l) else
  if chkD (joined d.ti d.vo (sortD l)) ≠ 0 then (zD, chkD (joined d.ti d.vo (sortD l))) else (joined d.ti d.vo (sortD l), 0)
theorem joinE_zero : ∀ (l : List Dg) (ti : List UInt8) (vo : Int) (seen : List Int), joinE ti vo seen l = 0 ↔ (∀ d ∈ l, chkD d = 0 ∧ d.ti = ti ∧ d.vo = vo ∧ d.ie ∉ seen) ∧ (l.map (·.ie)).Nodup
 | [], _, _, _ => by simp [joinE]
 | d :: l, ti, vo, seen => by
  unfold joinE
  by_cases h1 : chkD d = 0
  case neg => rw [if_pos h1]; exact ⟨fun h => absurd h h1, fun h => absurd (h.1 d (by simp)).1 h1⟩
  rw [if_neg (by simpa using h1)]
  by_cases h2 : d.ti ≠ ti ∨ d.vo ≠ vo
  case pos =>
   rw [if_pos h2]
   refine ⟨fun h => absurd h (by decide), fun h => ?_⟩
   have := h.1 d (by simp)
   rcases h2 with h2 | h2
   ·exact absurd this.2.1 h2
   ·exact absurd this.2.2.1 h2
  rw [if_neg h2]
  obtain ⟨h2a, h2b⟩ := not_or.1 h2
  have h2a := Classical.not_not.1 h2a
  have h2b := Classical.not_not.1 h2b
  by_cases h3 : d.ie ∈ seen
  case pos => rw [if_pos h3]; exact ⟨fun h => absurd h (by decide), fun h => absurd h3 (h.1 d (by simp)).2.2.2⟩
  rw [if_neg h3, joinE_zero l ti vo (seen ++ [d.ie]), List.map_cons, List.nodup_cons]
  constructor
  ·rintro ⟨h, hn⟩
   refine ⟨fun x hx => ?_, fun hm => ?_, hn⟩
   ·rcases List.mem_cons.1 hx with rfl | hx
    ·exact ⟨h1, h2a, h2b, h3⟩
    ·have := h x hx
     exact ⟨this.1, this.2.1, this.2.2.1, fun q => this.2.2.2 (by simp [q])⟩
   ·obtain ⟨x, hx, e⟩ := List.mem_map.1 hm
    exact (h x hx).2.2.2 (by rw [e]; simp)
  ·rintro ⟨h, hm, hn⟩
   refine ⟨fun x hx => ?_, hn⟩
   have := h x (by simp [hx])
   refine ⟨this.1, this.2.1, this.2.2.1, fun q => ?_⟩
   rcases List.mem_append.1 q with q | q
   ·exact this.2.2.2 q
   ·exact hm (List.mem_map.2 ⟨x, hx, List.mem_singleton.1 q⟩)
/-! ### parts of a digest that is accepted -/
theorem chkL_app : ∀ (a b : List It) (seen : List (List UInt8)), chkL seen (a ++ b) = 0 ↔ chkL seen a = 0 ∧ chkL (seen ++ a.map (·.ky)) b = 0
 | [], b, seen => by simp [chkL]
 | x :: a, b, seen => by
  have ih := chkL_app a b (seen ++ [x.ky])
  rw [List.append_assoc] at ih
  simp only [List.cons_append, chkL, List.map_cons]
  by_cases h1 : chkI x = 0 <;> by_cases h2 : x.ky ∈ seen
  ·simp [h1, h2]
  ·simp only [h1, h2, ne_eq, not_true_eq_false, if_false]; exact ih
  ·simp [h1]
  ·simp [h1]
theorem chkL_sub : ∀ (l : List It) {s t : List (List UInt8)}, (∀ x ∈ t, x ∈ s) → chkL s l = 0 → chkL t l = 0
 | [], _, _, _, _ => rfl
 | x :: l, s, t, hs, h => by
  unfold chkL at h ⊢
  by_cases h1 : chkI x = 0
  case neg => rw [if_pos h1] at h; exact absurd h h1
  rw [if_neg (by simpa using h1)] at h ⊢
  by_cases h2 : x.ky ∈ s
  ·rw [if_pos h2] at h; exact absurd h (by decide)
  rw [if_neg h2] at h
  rw [if_neg fun q => h2 (hs _ q)]
  refine chkL_sub l (fun y hy => ?_) h
  rcases List.mem_append.1 hy with hy | hy
  ·simp [hs y hy]
  ·simp [List.mem_singleton.1 hy]
theorem chkL_part {ps : List Dg} {p : Dg} (hp : p ∈ ps) (h : chkL [] (ps.flatMap (·.its)) = 0) : chkL [] p.its = 0 := by
 obtain ⟨a, b, rfl⟩ := List.append_of_mem hp
 rw [List.flatMap_append, List.flatMap_cons, chkL_app] at h
 have := (chkL_app _ _ _).1 h.2
 exact chkL_sub _ (by simp) this.1
theorem chkD_make {d : Dg} (h1 : titleB d.ti = true) (h2 : ordB d.vo = true) (h3 : ordB d.ie = true) (h4 : minB d.da = true) (h5 : d.its ≠ []) (h6 : d.its.length ≤ 200) (h7 : chkL [] d.its = 0) (h8 : (textD d).length ≤ 1048576) : chkD d = 0 := by
 unfold chkD
 simp [h1, h2, h3, h4, h5, h7]
 omega
theorem maxDa_same : ∀ (l : List Dg) (a m : Int), (∀ d ∈ l, d.da = m) → a ≤ m → l.foldl (fun a d => max a d.da) a = if l = [] then a else m
 | [], _, _, _, _ => rfl
 | d :: l, a, m, h, ha => by
  have hd := h d (by simp)
  rw [List.foldl_cons, hd, maxDa_same l _ m (fun x hx => h x (by simp [hx])) (by omega), if_neg (List.cons_ne_nil d l)]
  split
  ·omega
  ·rfl
/-- Divide's parts are accepted, and joined they are the digest. -/
theorem divF_join {d : Dg} {items bytes : Int} {l : List Dg} (h : divF d items bytes = (l, 0)) :
  (∀ (i : Nat) (p : Dg), l[i]? = some p → chkD p = 0 ∧ ((textD p).length : Int) ≤ bytes ∧ (p.its.length : Int) ≤ items ∧ p.ie = d.ie + i ∧ ∀ x ∈ p.its, x ∈ d.its) ∧ joinF l = (d, 0) := by
 unfold divF at h
 by_cases hc : chkD d = 0
 case neg => rw [if_pos hc] at h; exact absurd (Prod.mk.inj h).2 hc
 rw [if_neg (by simpa using hc)] at h
 by_cases hr : (items < 1 ∨ 200 < items) ∨ (bytes < 1 ∨ 1048576 < bytes)
 case pos => rw [if_pos hr] at h; exact absurd (Prod.mk.inj h).2 (by decide)
 rw [if_neg hr] at h
 cases hd : divL d items.toNat bytes.toNat d.its.length 0 d.its with
 | none => rw [hd] at h; exact absurd (Prod.mk.inj h).2 (by decide)
 | some ps =>
  rw [hd] at h
  simp only at h
  by_cases ho : d.ie + ps.length - 1 > 1000000
  ·rw [if_pos ho] at h; exact absurd (Prod.mk.inj h).2 (by decide)
  rw [if_neg ho] at h
  obtain rfl : ps = l := (Prod.mk.inj h).1
  obtain ⟨h1, h2, h3, h4⟩ := divL_parts _ _ _ _ _ _ _ (Nat.le_refl _) hd
  obtain ⟨c1, c2, c3, c4, c5, c6, c7, c8⟩ := chkD_zero hc
  have c3' := c3
  simp only [ordB, Bool.and_eq_true, decide_eq_true_eq] at c3'
  have key : ∀ (i : Nat) (p : Dg), ps[i]? = some p → chkD p = 0 ∧ ((textD p).length : Int) ≤ bytes ∧ (p.its.length : Int) ≤ items ∧ p.ie = d.ie + i ∧ ∀ x ∈ p.its, x ∈ d.its := fun i p hp => by
   obtain ⟨g1, g2, g3, g4⟩ := h2 i p hp
   rw [Nat.zero_add] at g1
   have hi : i < ps.length := (List.getElem?_eq_some_iff.1 hp).1
   have hm := List.mem_of_getElem? hp
   have e1 : p.ti = d.ti := by rw [g1]; rfl
   have e2 : p.vo = d.vo := by rw [g1]; rfl
   have e3 : p.ie = d.ie + i := by rw [g1]; rfl
   have e4 : p.da = d.da := by rw [g1]; rfl
   unfold szD at g4
   refine ⟨chkD_make (by rw [e1]; exact c1) (by rw [e2]; exact c2) ?_ (by rw [e4]; exact c4) g2 (by omega) (chkL_part hm (by rw [h1]; exact c7)) (by omega), by omega, by omega, e3, fun x hx => ?_⟩
   ·rw [e3]; simp only [ordB, Bool.and_eq_true, decide_eq_true_eq]; omega
   ·rw [← h1]; exact List.mem_flatMap.2 ⟨p, hm, hx⟩
  refine ⟨key, ?_⟩
  have hne := h4 c5
  have hsrt : SrtD ps := by
   unfold SrtD
   rw [List.pairwise_iff_getElem]
   intro i j hi hj hij
   have a := (key i _ (List.getElem?_eq_getElem hi)).2.2.2.1
   have b := (key j _ (List.getElem?_eq_getElem hj)).2.2.2.1
   omega
  have hall : ∀ p ∈ ps, chkD p = 0 ∧ p.ti = d.ti ∧ p.vo = d.vo ∧ p.da = d.da := fun p hp => by
   obtain ⟨i, hi⟩ := List.mem_iff_getElem?.1 hp
   have g1 := (h2 i p hi).1
   exact ⟨(key i p hi).1, by rw [g1]; rfl, by rw [g1]; rfl, by rw [g1]; rfl⟩
  have hnd : (ps.map (·.ie)).Nodup := by
   unfold List.Nodup
   rw [List.pairwise_map]
   exact hsrt.imp fun h e => by omega
  cases hps : ps with
  | nil => exact absurd hps hne
  | cons p0 r =>
   rw [← hps]
   have h0 := hall p0 (by rw [hps]; simp)
   have hie : p0.ie = d.ie := by
    have := (key 0 p0 (by rw [hps]; rfl)).2.2.2.1
    omega
   have hE : joinE p0.ti p0.vo [] ps = 0 := (joinE_zero _ _ _ _).2 ⟨fun q hq => by
    have := hall q hq
    exact ⟨this.1, this.2.1.trans h0.2.1.symm, this.2.2.1.trans h0.2.2.1.symm, by simp⟩, hnd⟩
   have hJ : joined p0.ti p0.vo (sortD ps) = d := by
    rw [sortD_self hsrt]
    have hda : maxDa ps = d.da := by
     unfold maxDa
     simp only [minB, Bool.and_eq_true, decide_eq_true_eq] at c4
     rw [maxDa_same ps 0 d.da (fun q hq => (hall q hq).2.2.2) (by omega), if_neg hne]
    have hh : headIe ps = d.ie := by rw [hps]; exact hie
    obtain ⟨ti, vo, ie, da, its⟩ := d
    unfold joined
    rw [hda, hh, h1, h0.2.1, h0.2.2.1]
   have e : joinF ps = if joinE p0.ti p0.vo [] ps ≠ 0 then (zD, joinE p0.ti p0.vo [] ps) else if chkD (joined p0.ti p0.vo (sortD ps)) ≠ 0 then (zD, chkD (joined p0.ti p0.vo (sortD ps))) else (joined p0.ti p0.vo (sortD ps), 0) := by
    rw [hps]; rfl
   rw [e, hE, hJ, hc]
   simp
/-! ### builders -/
theorem idx_cases (s : List UInt8) : indexByte s 10 = -1 ∨ ∃ o : Nat, indexByte s 10 = o := by
 have h := indexByte_ge s 10
 by_cases h0 : indexByte s 10 = -1
 ·exact .inl h0
 ·exact .inr ⟨(indexByte s 10).toNat, by omega⟩
theorem pcs_miss {s : List UInt8} (h : indexByte s 10 = -1) : pcs s = [s] := by
 have hn : noNl s := fun c hc e => by
  obtain ⟨k, hk⟩ := List.mem_iff_getElem?.1 hc
  exact indexByte_none h k (by rw [hk, e])
 unfold pcs
 rw [lns_tail s hn]
 rfl
theorem pcs_hit {s : List UInt8} {o : Nat} (h : indexByte s 10 = o) : o < s.length ∧ pcs s = s.take o :: pcs (s.drop (o + 1)) := by
 obtain ⟨h1, h2⟩ := indexByte_some h
 obtain ⟨hlt, hx⟩ := List.getElem?_eq_some_iff.1 h1
 refine ⟨hlt, ?_⟩
 have hn : noNl (s.take o) := fun c hc e => by
  obtain ⟨k, hk⟩ := List.mem_iff_getElem?.1 hc
  rw [List.getElem?_take] at hk
  split at hk
  ·next hk' => exact h2 k hk' (by rw [hk, e])
  ·exact absurd hk (by simp)
 have e : s = s.take o ++ 10 :: s.drop (o + 1) := by
  have := (List.take_append_drop o s).symm
  rw [List.drop_eq_getElem_cons hlt, hx] at this
  exact this
 unfold pcs
 have := lns_app _ (s.drop (o + 1)) hn
 rw [← e] at this
 rw [this]
 rfl
/-- The example's item, the example. -/
def xK : List UInt8 := 1 :: List.replicate 31 0
def xI : It := ⟨[65], 0, [], xK, [45, 120]⟩
def xD : Dg := ⟨[84], 1, 2, 0, [xI]⟩
theorem xD_len : (textD xD).length ≤ 1048576 := by decide +kernel
theorem xI_ok : chkI xI = 0 := by decide +kernel
theorem xD_ok : chkD xD = 0 := by
 unfold chkD
 rw [if_neg (by decide), if_neg (by decide), if_neg (by decide), if_neg (by decide), if_neg (by decide)]
 have h : chkL [] xD.its = 0 := by
  show chkL [] [xI] = 0
  unfold chkL
  rw [xI_ok]
  simp [chkL]
 rw [if_neg (by rw [h]; decide), if_neg (by have := xD_len; omega)]
theorem xK_len : xK.length = 32 := rfl
theorem xD_burst : burstD (textD xD) = .inl xD := burstD_text xD_ok fun x hx => by
 obtain rfl := List.mem_singleton.1 (show x ∈ [xI] from hx)
 exact xK_len
theorem x_prot : protF [120, 10, 45, 121] = ([120, 10, 45, 32, 45, 121, 10], 0) := by decide +kernel
theorem chkI_len {x : It} (h : chkI x = 0) : x.fr.length ≤ 200 ∧ x.su.length ≤ 200 := by
 obtain ⟨h1, _, h2, _⟩ := chkI_zero.1 h
 simp only [fromB, subjB, Bool.and_eq_true, decide_eq_true_eq] at h1 h2
 exact ⟨h1.2, h2.2⟩
end Go.Dg
