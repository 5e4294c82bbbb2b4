/-
  What a gate's map holds, in plain words: how many of each, and how many in all. No condition.
-/
import Derived.Test.YthlbebgmphnniaaGP1
import Derived.Test.YthlbebgmphnniaaGI
namespace Go.Proofs.Ythlbebgmphnniaa
open Go Go.Gol
set_option linter.unusedVariables false
set_option linter.unusedSimpArgs false
set_option linter.unnecessarySimpa false
set_option maxRecDepth 100000
namespace Quota
theorem at_g {l : List Int} {q : Nat} (h : q < l.length) : at? l (q : Int) = some (l.getD q 0) := by
  rw [at?_nat, List.getElem?_eq_getElem h]; simp [List.getD_eq_getElem?_getD, List.getElem?_eq_getElem h]
def sm (m : List (Int × Int)) : Int := (m.map (·.2)).sum
theorem mget_cons (p : Int × Int) (m : List (Int × Int)) (k : Int) : mget (p :: m) k = if k = p.1 then some p.2 else mget m k := by
  unfold mget
  conv => lhs; unfold mix
  by_cases h : k = p.1
  · rw [if_pos (by simpa using h), if_pos h]; rfl
  · rw [if_neg (by simpa using h), if_neg h]
    cases mix m k <;> rfl
theorem mset_cons (p : Int × Int) (m : List (Int × Int)) (k v : Int) : mset (p :: m) k v = if k = p.1 then (k, v) :: m else p :: mset m k v := by
  unfold mset
  conv => lhs; unfold mix
  by_cases h : k = p.1
  · rw [if_pos (by simpa using h), if_pos h]; rfl
  · rw [if_neg (by simpa using h), if_neg h]
    cases mix m k <;> rfl
theorem mdel_cons (p : Int × Int) (m : List (Int × Int)) (k : Int) : mdel (p :: m) k = if k = p.1 then m else p :: mdel m k := by
  unfold mdel
  conv => lhs; unfold mix
  by_cases h : k = p.1
  · rw [if_pos (by simpa using h), if_pos h]; rfl
  · rw [if_neg (by simpa using h), if_neg h]
    cases mix m k <;> rfl
theorem mget_out {m : List (Int × Int)} {k : Int} (h : k ∉ m.map (·.1)) : mget m k = none := by
  induction m with
  | nil => rfl
  | cons p m ih =>
    rw [List.map_cons, List.mem_cons, not_or] at h
    rw [mget_cons, if_neg h.1]; exact ih h.2
theorem keys_mset {m : List (Int × Int)} {k v x : Int} (h : x ∈ (mset m k v).map (·.1)) : x = k ∨ x ∈ m.map (·.1) := by
  induction m with
  | nil => left; simpa [mset, mix] using h
  | cons p m ih =>
    rw [mset_cons] at h
    by_cases e : k = p.1
    · rw [if_pos e, List.map_cons, List.mem_cons] at h
      rcases h with h | h
      · exact .inl h
      · exact .inr (by rw [List.map_cons, List.mem_cons]; exact .inr h)
    · rw [if_neg e, List.map_cons, List.mem_cons] at h
      rcases h with h | h
      · exact .inr (by rw [List.map_cons, List.mem_cons]; exact .inl h)
      · rcases ih h with h | h
        · exact .inl h
        · exact .inr (by rw [List.map_cons, List.mem_cons]; exact .inr h)
theorem keys_mdel {m : List (Int × Int)} {k x : Int} (h : x ∈ (mdel m k).map (·.1)) : x ∈ m.map (·.1) := by
  induction m with
  | nil => exact h
  | cons p m ih =>
    rw [mdel_cons] at h
    rw [List.map_cons, List.mem_cons]
    by_cases e : k = p.1
    · rw [if_pos e] at h; exact .inr h
    · rw [if_neg e, List.map_cons, List.mem_cons] at h
      rcases h with h | h
      · exact .inl h
      · exact .inr (ih h)
theorem nd_mset {m : List (Int × Int)} (h : (m.map (·.1)).Nodup) (k v : Int) : ((mset m k v).map (·.1)).Nodup := by
  induction m with
  | nil => simp [mset, mix]
  | cons p m ih =>
    rw [List.map_cons, List.nodup_cons] at h
    rw [mset_cons]
    by_cases e : k = p.1
    · rw [if_pos e, List.map_cons, List.nodup_cons]; exact ⟨by rw [e]; exact h.1, h.2⟩
    · rw [if_neg e, List.map_cons, List.nodup_cons]
      refine ⟨fun hx => ?_, ih h.2⟩
      rcases keys_mset hx with h' | h'
      · exact e h'.symm
      · exact h.1 h'
theorem nd_mdel {m : List (Int × Int)} (h : (m.map (·.1)).Nodup) (k : Int) : ((mdel m k).map (·.1)).Nodup := by
  induction m with
  | nil => exact h
  | cons p m ih =>
    rw [List.map_cons, List.nodup_cons] at h
    rw [mdel_cons]
    by_cases e : k = p.1
    · rw [if_pos e]; exact h.2
    · rw [if_neg e, List.map_cons, List.nodup_cons]; exact ⟨fun hx => h.1 (keys_mdel hx), ih h.2⟩
theorem sm_mset (m : List (Int × Int)) (k v : Int) : sm (mset m k v) = sm m - (mget m k).getD 0 + v := by
  induction m with
  | nil => simp [mset, mix, mget, sm]
  | cons p m ih =>
    rw [mset_cons, mget_cons]
    by_cases e : k = p.1
    · rw [if_pos e, if_pos e]; simp only [sm, List.map_cons, List.sum_cons, Option.getD_some]; omega
    · rw [if_neg e, if_neg e]; simp only [sm, List.map_cons, List.sum_cons] at ih ⊢; omega
theorem sm_mdel (m : List (Int × Int)) (k : Int) : sm (mdel m k) = sm m - (mget m k).getD 0 := by
  induction m with
  | nil => simp [mdel, mix, mget, sm]
  | cons p m ih =>
    rw [mdel_cons, mget_cons]
    by_cases e : k = p.1
    · rw [if_pos e, if_pos e]; simp only [sm, List.map_cons, List.sum_cons, Option.getD_some]; omega
    · rw [if_neg e, if_neg e]; simp only [sm, List.map_cons, List.sum_cons] at ih ⊢; omega
theorem mget_mdel {m : List (Int × Int)} (h : (m.map (·.1)).Nodup) (k x : Int) : mget (mdel m k) x = if x = k then none else mget m x := by
  induction m with
  | nil => simp [mdel, mix, mget]
  | cons p m ih =>
    rw [List.map_cons, List.nodup_cons] at h
    rw [mdel_cons, mget_cons]
    by_cases e : k = p.1
    · rw [if_pos e]
      by_cases e2 : x = k
      · rw [if_pos e2, e2, e]; exact mget_out h.1
      · rw [if_neg e2, if_neg (by rw [← e]; exact e2)]
    · rw [if_neg e, mget_cons, ih h.2]
      by_cases e2 : x = p.1
      · rw [if_pos e2, if_pos e2, if_neg (by rw [e2]; exact fun h => e h.symm)]
      · rw [if_neg e2, if_neg e2]
/-- the map holds so many of each, and so many in all -/
structure MOk (m : List (Int × Int)) (c : Int → Nat) (S : Nat) : Prop where
  nd : (m.map (·.1)).Nodup
  get : ∀ k, mget m k = if c k = 0 then none else some (c k : Int)
  sum : sm m = (S : Int)
theorem MOk.nil : MOk [] (fun _ => 0) 0 := ⟨by simp, fun k => rfl, rfl⟩
theorem MOk.getD {m : List (Int × Int)} {c : Int → Nat} {S : Nat} (h : MOk m c S) (k : Int) : (mget m k).getD 0 = (c k : Int) := by
  rw [h.get]; by_cases e : c k = 0
  · rw [if_pos e, e]; rfl
  · rw [if_neg e]; rfl
theorem MOk.up {m : List (Int × Int)} {c : Int → Nat} {S : Nat} (h : MOk m c S) (k : Int) : MOk (mset m k ((c k : Int) + 1)) (fun x => if x = k then c x + 1 else c x) (S + 1) := by
  refine ⟨nd_mset h.nd _ _, fun x => ?_, ?_⟩
  · rw [mget_mset]
    by_cases e : x = k
    · rw [if_pos e, if_pos e, if_neg (by omega), e]; rfl
    · rw [if_neg e, if_neg e]; exact h.get x
  · rw [sm_mset, h.getD, h.sum]; omega
theorem MOk.down {m : List (Int × Int)} {c : Int → Nat} {S : Nat} (h : MOk m c S) {k : Int} (hk : 0 < c k) (hS : 0 < S) : MOk (if (c k : Int) - 1 = 0 then mdel (mset m k ((c k : Int) - 1)) k else mset m k ((c k : Int) - 1)) (fun x => if x = k then c x - 1 else c x) (S - 1) := by
  have hg : ∀ x, mget (mset m k ((c k : Int) - 1)) x = if x = k then some ((c k : Int) - 1) else mget m x := fun x => mget_mset _ _ _ _
  have hs : sm (mset m k ((c k : Int) - 1)) = (S : Int) - 1 := by rw [sm_mset, h.getD, h.sum]; omega
  by_cases e : (c k : Int) - 1 = 0
  · rw [if_pos e]
    refine ⟨nd_mdel (nd_mset h.nd _ _) _, fun x => ?_, ?_⟩
    · rw [mget_mdel (nd_mset h.nd _ _), hg]
      by_cases e2 : x = k
      · rw [if_pos e2, if_pos e2, if_pos (by rw [e2]; omega)]
      · rw [if_neg e2, if_neg e2, if_neg e2]; exact h.get x
    · rw [sm_mdel, hg, if_pos rfl, hs]; simp only [Option.getD_some]; omega
  · rw [if_neg e]
    refine ⟨nd_mset h.nd _ _, fun x => ?_, by rw [hs]; omega⟩
    rw [hg]
    by_cases e2 : x = k
    · rw [if_pos e2, if_pos e2, if_neg (by rw [e2]; omega), e2]; congr 1; omega
    · rw [if_neg e2, if_neg e2]; exact h.get x
end Quota
end Go.Proofs.Ythlbebgmphnniaa
