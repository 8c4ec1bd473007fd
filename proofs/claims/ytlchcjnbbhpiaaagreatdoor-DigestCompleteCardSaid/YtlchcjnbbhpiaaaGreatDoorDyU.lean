/- Plain law of the statement DigestComplete: what a builder of the law accepts fits in a digest; what has been accepted is what was taken and what waits. -/
import Derived.Test.YtlchcjnbbhpiaaaGreatDoorYaf
namespace Go.Dg
open Go.Lib
theorem fromB_len {s : List UInt8} (h : fromB s = true) : s.length ≤ 200 := by
 unfold fromB at h
 simp only [Bool.and_eq_true, decide_eq_true_eq] at h
 exact h.2
theorem subjB_len {s : List UInt8} (h : subjB s = true) : s.length ≤ 200 := by
 unfold subjB at h
 simp only [Bool.and_eq_true, decide_eq_true_eq] at h
 exact h.2
theorem itLs_few {x : It} (h1 : minB x.dt = true) (h2 : x.fr.length ≤ 200) (h3 : x.su.length ≤ 200) (h4 : x.ky.length = 32) (h5 : x.bo.length ≤ 200) : (unl (itLs x)).length ≤ 2000 := by
 have e1 := prot_len x.bo
 have e2 := fm_len h1
 have e3 := hexT_len x.ky
 rw [itLs_eq, unl_append, unl_append, List.length_append, List.length_append]
 have e4 : (unl (prL (pcs x.bo))).length = (prot x.bo).length := rfl
 have e5 : (unl [sepT]).length = 31 := rfl
 have e6 : (unl (hdL x)).length ≤ 1000 := by
  simp only [hdL, unl, List.flatMap_cons, List.flatMap_nil, List.length_append, List.length_cons, List.length_nil, prId, e2, e3, h4, wFrom, wDate, wSubj, wMid, wHash]
  omega
 omega
theorem lineOf_few {l : List It} {s : List UInt8} (hs : s.length ≤ 200) (hj : (join (numsOf s 0 l) wCm).length ≤ 1000) : (wSp ++ lineOf l s).length + 1 ≤ 1500 := by
 unfold lineOf
 by_cases h : s = []
 ·rw [if_pos h]; simp only [List.length_append, wSp, wNo, wPar, List.length_cons, List.length_nil]; omega
 ·rw [if_neg h]; simp only [List.length_append, wSp, wPar, List.length_cons, List.length_nil]; omega
theorem text_few {d : Dg} (hn : d.its.length ≤ 60) (ht : d.ti.length ≤ 100) (hv : d.vo ≤ 1000000) (hi : d.ie ≤ 1000000) (hd : minB d.da = true) (hx : ∀ x ∈ d.its, chkI x = 0 ∧ x.ky.length = 32 ∧ x.bo.length ≤ 200)
  (hj : ∀ s, (join (numsOf s 0 d.its) wCm).length ≤ 1000) (hsl : (subjL [] d.its).length ≤ d.its.length) : (textD d).length ≤ 1048576 := by
 have h1 := head_len (d := d) (by omega) hv hi
 have h2 := fm_len hd
 have h3 := unl_flat_le itLs 2000 d.its fun x h => by
  obtain ⟨a, b, c⟩ := hx x h
  obtain ⟨a1, a2, a3, _⟩ := chkI_zero.1 a
  exact itLs_few a2 (fromB_len a1) (subjB_len a3) b c
 have h4 := unl_map_le (fun s => wSp ++ lineOf d.its s) 1500 (subjL [] d.its) fun s h => by
  refine lineOf_few ?_ (hj s)
  rcases subjL_mem d.its [] s h with h | ⟨x, hm, e⟩
  ·simp at h
  ·rw [← e]; exact subjB_len (chkI_zero.1 (hx x hm).1).2.2.1
 have h5 : (linesD d.its).map (wSp ++ ·) = (subjL [] d.its).map (fun s => wSp ++ lineOf d.its s) := by unfold linesD; rw [List.map_map]; rfl
 unfold textD
 rw [tLs_eq, h5]
 simp only [unl_append, List.length_append]
 have h6 : (unl (topL d)).length ≤ 1200 := by
  simp only [topL, unl, List.flatMap_cons, List.flatMap_nil, List.length_append, List.length_cons, List.length_nil, wDate, wTop, h2]
  omega
 have h7 : (unl [wEnd ++ headT d]).length ≤ 1200 := by rw [unl_one]; simp only [List.length_append, wEnd, List.length_cons, List.length_nil]; omega
 have h8 : (unl [sepT]).length = 31 := rfl
 have h9 : d.its.length * 2000 ≤ 60 * 2000 := Nat.mul_le_mul_right _ hn
 have h10 : (subjL [] d.its).length * 1500 ≤ 60 * 1500 := Nat.mul_le_mul_right _ (by omega)
 omega
theorem chkL_nodup : ∀ (l : List It) (seen : List (List UInt8)), (∀ x ∈ l, chkI x = 0) → (l.map (·.ky)).Nodup → (∀ x ∈ l, x.ky ∉ seen) → chkL seen l = 0
 | [], _, _, _, _ => rfl
 | x :: l, seen, h, hn, hs => by
  rw [List.map_cons, List.nodup_cons] at hn
  unfold chkL
  rw [if_neg (by rw [h x (by simp)]; decide), if_neg (hs x (by simp))]
  refine chkL_nodup l _ (fun y hy => h y (by simp [hy])) hn.2 fun y hy hm => ?_
  rcases List.mem_append.1 hm with hm | hm
  ·exact hs y (by simp [hy]) hm
  ·exact hn.1 (List.mem_map.2 ⟨y, hy, (List.mem_singleton.1 hm)⟩)
end Go.Dg
namespace Go.Proofs.YtlchcjnbbhpiaaaGreatDoor
open Go.RowKit Go.Shelf Go.Dg Go.Maps
theorem nums_few {l : List It} (h : l.length ≤ 60) (s : List UInt8) : (Lib.join (numsOf s 0 l) wCm).length ≤ 1000 := by
 have h1 := join_len wCm 7 (numsOf s 0 l) (nums_dd l s 0 (by omega))
 have h2 := nums_len l s 0
 have h3 : wCm.length = 2 := rfl
 rw [h3] at h1
 omega
/-- Where the law's builder stands: what has been taken, what waits. -/
structure CoI (B : Bs) (got : List (List UInt8)) (k : Nat) : Prop where
 ti : B.ti = [84]
 vo : B.vo = 3
 tk : 0 ≤ B.taken ∧ B.taken ≤ k
 eq : B.added = got ++ B.wait.map (·.ky)
 nd : B.added.Nodup
 ok : ∀ x ∈ B.wait, chkI x = 0 ∧ x.ky.length = 32 ∧ x.bo.length ≤ 200
 n : B.added.length ≤ k
theorem CoI.wt {B : Bs} {got : List (List UInt8)} {k : Nat} (h : CoI B got k) : B.wait.length ≤ k := by
 have h1 := h.n
 rw [h.eq, List.length_append, List.length_map] at h1
 omega
theorem CoI.mono {B : Bs} {got : List (List UInt8)} {k m : Nat} (h : CoI B got k) (hk : k ≤ m) : CoI B got m :=
 ⟨h.ti, h.vo, ⟨h.tk.1, by have := h.tk.2; omega⟩, h.eq, h.nd, h.ok, by have := h.n; omega⟩
theorem CoI.take0 {B : Bs} {got : List (List UInt8)} {k : Nat} (_h : CoI B got k) (h0 : B.wait = []) : takeE B 5 = 10 := by
 unfold takeE
 rw [if_neg (by decide), if_pos h0]
theorem CoI.take1 {B : Bs} {got : List (List UInt8)} {k : Nat} (h : CoI B got k) (hk : k ≤ 50) (h0 : B.wait ≠ []) : takeE B 5 = 0 := by
 unfold takeE
 rw [if_neg (by decide), if_neg h0]
 have hw := h.wt
 have ht := h.tk
 have hnd := h.nd
 rw [h.eq, List.nodup_append] at hnd
 refine chkD_make (d := takeD B 5) (by (show titleB B.ti = true); rw [h.ti]; decide) (by (show ordB B.vo = true); rw [h.vo]; decide) ?_ (by (show minB 5 = true); decide) h0 (by (show B.wait.length ≤ 200); omega) ?_ ?_
 ·show ordB (B.taken + 1) = true
  unfold ordB
  simp only [Bool.and_eq_true, decide_eq_true_eq]
  omega
 ·exact chkL_nodup B.wait [] (fun x hx => (h.ok x hx).1) hnd.2.1 (by simp)
 ·refine text_few (d := takeD B 5) (by (show B.wait.length ≤ 60); omega) (by (show B.ti.length ≤ 100); rw [h.ti]; decide) (by (show B.vo ≤ 1000000); rw [h.vo]; decide) (by (show B.taken + 1 ≤ 1000000); omega) (by (show minB 5 = true); decide) h.ok (fun s => nums_few (by (show B.wait.length ≤ 60); omega) s) (subj_len _)
theorem CoI.taken {B : Bs} {got : List (List UInt8)} {k : Nat} (h : CoI B got k) (h0 : takeE B 5 = 0) : CoI (takeB B 5) (got ++ B.wait.map (·.ky)) (k + 1) := by
 rw [takeB_yes h0]
 have h1 := h.tk
 have h2 := h.n
 exact ⟨h.ti, h.vo, ⟨by (show 0 ≤ B.taken + 1); omega, by (show B.taken + 1 ≤ _); omega⟩, by (show B.added = _); rw [h.eq]; simp, h.nd, by simp, by (show B.added.length ≤ _); omega⟩
theorem CoI.add {B : Bs} {got : List (List UInt8)} {k : Nat} (h : CoI B got k) {x : It} {now : Int} (hk : x.ky.length = 32) (hb : x.bo.length ≤ 200) : CoI (addB B x now) got (k + 1) := by
 by_cases h0 : addE B x now = 0
 ·rw [addB_yes h0]
  have h1 := h.tk
  have h2 := h.n
  unfold addE at h0
  split at h0
  ·exact absurd h0 (by decide)
  ·split at h0
   ·next hne => exact absurd h0 hne
   ·next hci =>
    split at h0
    ·exact absurd h0 (by decide)
    ·next hnm =>
     refine ⟨h.ti, h.vo, ⟨h1.1, by (show B.taken ≤ _); omega⟩, ?_, ?_, ?_, ?_⟩
     ·show B.added ++ [x.ky] = got ++ (B.wait ++ [x]).map (·.ky)
      rw [h.eq, List.map_append, List.append_assoc]; rfl
     ·show (B.added ++ [x.ky]).Nodup
      rw [List.nodup_append]
      exact ⟨h.nd, by simp, fun a ha b hb e => by rw [List.mem_singleton.1 hb] at e; exact hnm (e ▸ ha)⟩
     ·show ∀ y ∈ B.wait ++ [x], _
      intro y hy
      rcases List.mem_append.1 hy with hy | hy
      ·exact h.ok y hy
      ·rw [List.mem_singleton.1 hy]; exact ⟨Classical.not_not.1 hci, hk, hb⟩
     ·show (B.added ++ [x.ky]).length ≤ _
      simp; omega
 ·rw [addB_no h0]; exact h.mono (by omega)
theorem addE_small {B : Bs} {x : It} {now : Int} (h0 : addE B x now = 0) (hb : x.bo.length ≤ 200) : x.fr.length ≤ 1000 ∧ x.su.length ≤ 1000 ∧ x.bo.length ≤ 1000 := by
 unfold addE at h0
 split at h0
 ·exact absurd h0 (by decide)
 ·split at h0
  ·next hne => exact absurd h0 hne
  ·next hci =>
   obtain ⟨a, _, b, _⟩ := chkI_zero.1 (Classical.not_not.1 hci)
   have := fromB_len a
   have := subjB_len b
   omega
end Go.Proofs.YtlchcjnbbhpiaaaGreatDoor
