/- The next component of a name below a hierarchy: plain laws. -/
import Derived.Test.YtcagooijkecmoaaDoorGnName
import Derived.Lib.Strings
namespace Go.Proofs.YtcagooijkecmoaaDoor
open Go.Gn

/-- The text that the names of a hierarchy begin with. -/
def preOf (h : List UInt8) : List UInt8 := if h = [] then [] else h ++ [46]
/-- The next component behind a text. -/
def kid (p x : List UInt8) : Option (List UInt8) := if Lib.hasPrefix x p then some ((parts 46 (x.drop p.length)).headD []) else none
def kids (p : List UInt8) (l : List (List UInt8)) : List (List UInt8) := l.filterMap (kid p)
theorem kids_snoc (p : List UInt8) (l : List (List UInt8)) (k : Nat) (x : List UInt8) (h : l[k]? = some x) : kids p (l.take (k + 1)) = kids p (l.take k) ++ (match kid p x with | some y => [y] | none => []) := by
  obtain ⟨hl, hx⟩ := List.getElem?_eq_some_iff.1 h
  rw [List.take_succ_eq_append_getElem hl, hx]
  unfold kids
  rw [List.filterMap_append]
  cases hk : kid p x <;> simp [hk]
theorem kids_length (p : List UInt8) (l : List (List UInt8)) : (kids p l).length ≤ l.length := List.length_filterMap_le _ _
theorem parts_sep (c : UInt8) (t : List UInt8) : ∀ a : List UInt8, parts c (a ++ c :: t) = parts c a ++ parts c t
  | [] => by rw [List.nil_append, parts_cons_eq]; rfl
  | b :: a => by
    have ih := parts_sep c t a
    by_cases h : b = c
    · subst h
      rw [List.cons_append, parts_cons_eq, parts_cons_eq, ih]; rfl
    · rw [List.cons_append, parts_cons_ne h, parts_cons_ne h, ih]
      obtain ⟨y, r, e⟩ := List.exists_cons_of_ne_nil (parts_ne_nil c a)
      rw [e]; rfl
/-- How many components a hierarchy has. -/
def depth (h : List UInt8) : Nat := if h = [] then 0 else (parts 46 h).length
/-- Whether a name lies below a hierarchy. -/
def below (h x : List UInt8) : Bool := decide (depth h < (parts 46 x).length) && (decide (h = []) || within x h)
theorem kid_ref {h x : List UInt8} (hx : check x = 0) (hh : h = [] ∨ check h = 0) : kid (preOf h) x = if below h x then some ((parts 46 x).getD (depth h) []) else none := by
  unfold kid below depth preOf Lib.hasPrefix
  by_cases h0 : h = []
  · subst h0
    have := parts_pos 46 x
    obtain ⟨y, r, e⟩ := List.exists_cons_of_ne_nil (parts_ne_nil 46 x)
    simp [e]
  · have hc : check h = 0 := by rcases hh with e | e; exact absurd e h0; exact e
    simp only [if_neg h0, decide_eq_false h0, Bool.false_or]
    by_cases hp : (h ++ [46]) <+: x
    · obtain ⟨t, rfl⟩ := hp
      have e1 : h ++ [46] ++ t = h ++ 46 :: t := by simp
      rw [e1] at hx ⊢
      have e2 := parts_sep 46 t h
      have hw : within (h ++ 46 :: t) h = true := (within_iff _ _).2 ⟨hx, hc, by rw [e2]; exact List.prefix_append _ _⟩
      have e3 : (h ++ [46]).isPrefixOf (h ++ 46 :: t) = true := by rw [List.isPrefixOf_iff_prefix]; exact ⟨t, by simp⟩
      have e4 : (h ++ 46 :: t).drop (h ++ [46]).length = t := by rw [← e1]; exact List.drop_left
      have hpt := parts_pos 46 t
      rw [hw, e3, e4, e2, if_pos rfl, decide_eq_true (by simp; omega), Bool.and_self, if_pos rfl]
      congr 1
      obtain ⟨y, r, e⟩ := List.exists_cons_of_ne_nil (parts_ne_nil 46 t)
      rw [e]; simp
    · have e3 : (h ++ [46]).isPrefixOf x = false := by
        rw [Bool.eq_false_iff]; intro e; exact hp (List.isPrefixOf_iff_prefix.1 e)
      rw [e3, if_neg Bool.false_ne_true, if_neg]
      intro hb
      simp only [Bool.and_eq_true, decide_eq_true_eq] at hb
      have hw := ((within_iff x h).1 hb.2).2.2
      rcases (dot_prefix x h).2 hw with e | e
      · subst e; omega
      · exact hp e
theorem scmp_gcmp {a b : List UInt8} (ha : (46 : UInt8) ∉ a) (hb : (46 : UInt8) ∉ b) : gcmp a b = scmp a b := by
  unfold gcmp
  rw [parts_plain 46 a ha, parts_plain 46 b hb]
  unfold lex
  split
  · rename_i e; rw [e]; rfl
  · rfl
theorem insAll_plain (zs : List (List UInt8)) (h : ∀ z ∈ zs, (46 : UInt8) ∉ z) : insAll gcmp zs = insAll scmp zs := by
  refine inc_uniq scmp_lin _ _ ?_ (insAll_inc scmp_lin zs) (fun x => by rw [mem_insAll gcmp_lin, mem_insAll scmp_lin])
  refine List.Pairwise.imp_of_mem ?_ (insAll_inc gcmp_lin zs)
  intro a b ha hb hab
  rw [mem_insAll gcmp_lin] at ha hb
  rwa [scmp_gcmp (h a ha) (h b hb)] at hab
theorem kids_free (p : List UInt8) (l : List (List UInt8)) : ∀ z ∈ kids p l, (46 : UInt8) ∉ z := by
  intro z hz
  unfold kids at hz
  obtain ⟨x, _, hx⟩ := List.mem_filterMap.1 hz
  unfold kid at hx
  split at hx
  · cases hx
    obtain ⟨y, r, e⟩ := List.exists_cons_of_ne_nil (parts_ne_nil 46 (x.drop p.length))
    exact parts_free 46 (x.drop p.length) _ (by rw [e]; simp)
  · cases hx
theorem kids_le (p : List UInt8) (l : List (List UInt8)) (n : Nat) (h : ∀ x ∈ l, x.length ≤ n) : ∀ z ∈ kids p l, z.length ≤ n := by
  intro z hz
  unfold kids at hz
  obtain ⟨x, hm, hx⟩ := List.mem_filterMap.1 hz
  unfold kid at hx
  split at hx
  · cases hx
    obtain ⟨y, r, e⟩ := List.exists_cons_of_ne_nil (parts_ne_nil 46 (x.drop p.length))
    have := parts_le 46 (x.drop p.length) y (by rw [e]; simp)
    have h2 := h x hm
    rw [e]; simp at this ⊢; omega
  · cases hx

end Go.Proofs.YtcagooijkecmoaaDoor
