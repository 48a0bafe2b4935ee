/- What the document reads of a part is what a reader answers: plain laws. -/
import Derived.Test.YtbnlobfhcanbgaaGetText
import Derived.Test.YtbnlobfhcanbgaaCSame
namespace Go.Proofs.Ytbnlobfhcanbgaa
open Go Go.RowKit

theorem drop_pre {pre r l : List Nat} (h : l = pre ++ r) : l.drop (l.length - r.length) = r := by
  rw [h, List.length_append, show pre.length + r.length - r.length = pre.length from by omega, List.drop_left]
theorem want1_yes {x : Pt} {r : List Nat} (hk : x.kind = 1) (hm : (getR r).2 ≠ 0) (h1 : x.least ≤ (getR r).1) (h2 : (getR r).1 ≤ x.most) :
    takeR x (some r) = (some { Pt.nil with kind := 1, n := (getR r).1 }, some (r.drop (getR r).2)) ∧ (getR r).2 ≤ r.length := by
  cases hn : num 0 true r with
  | none => rw [getR_none hn] at hm; exact absurd rfl hm
  | some ur =>
    obtain ⟨u, r2⟩ := ur
    obtain ⟨pre, hpre, -⟩ := num_suffix hn
    rw [getR_some hn] at *
    refine ⟨?_, Nat.sub_le _ _⟩
    unfold takeR
    rw [if_pos hk, intR_yes hn h1 h2, drop_pre hpre]
theorem want1_no {x : Pt} {r : List Nat} (hk : x.kind = 1) (h : (getR r).2 = 0 ∨ (getR r).1 < x.least ∨ x.most < (getR r).1) : takeR x (some r) = (some { Pt.nil with kind := 1 }, none) := by
  have : intR x.least x.most (some r) = (0, none) := by
    refine intR_no fun u r2 hn => ?_
    obtain ⟨pre, hpre, hp0⟩ := num_suffix hn
    rw [getR_some hn] at h
    rintro ⟨h1, h2⟩
    have hl := congrArg List.length hpre
    rw [List.length_append] at hl
    rcases h with h | h | h
    · simp only at h; omega
    · simp only at h; omega
    · simp only at h; omega
  unfold takeR
  rw [if_pos hk, this]
  rfl
theorem want2_yes {x : Pt} {r : List Nat} (hk : x.kind = 2) (hm : (gtR (x.most.tmod 100000) r).2 ≠ 0) :
    takeR x (some r) = (some { Pt.nil with kind := 2, b := (gtR (x.most.tmod 100000) r).1 }, some (r.drop (gtR (x.most.tmod 100000) r).2)) ∧ (gtR (x.most.tmod 100000) r).2 ≤ r.length := by
  cases hn : num 0 true r with
  | none => rw [gtR_none (textR_no (fun u r' e => by rw [hn] at e; cases e))] at hm; exact absurd rfl hm
  | some ur =>
    obtain ⟨u, r2⟩ := ur
    obtain ⟨pre, hpre, -⟩ := num_suffix hn
    by_cases hh : 0 ≤ unzz u ∧ unzz u ≤ x.most.tmod 100000 ∧ unzz u ≤ r2.length
    · have ht := textR_yes hn hh.1 hh.2.1 hh.2.2
      rw [gtR_some ht] at *
      refine ⟨?_, Nat.sub_le _ _⟩
      unfold takeR
      rw [if_neg (by rw [hk]; decide), if_pos hk, ht]
      congr 2
      simp only
      have h2 : r = (pre ++ r2.take (unzz u).toNat) ++ r2.drop (unzz u).toNat := by rw [List.append_assoc, List.take_append_drop]; exact hpre
      exact congrArg some (drop_pre h2).symm
    · rw [gtR_none (textR_no (fun u' r' e h' => by rw [hn] at e; obtain ⟨rfl, rfl⟩ := Prod.mk.inj (Option.some.inj e); exact hh h'))] at hm
      exact absurd rfl hm
theorem want2_no {x : Pt} {r : List Nat} (hk : x.kind = 2) (hm : (gtR (x.most.tmod 100000) r).2 = 0) : takeR x (some r) = (some { Pt.nil with kind := 2 }, none) := by
  have : textR (x.most.tmod 100000) (some r) = ([], none) := by
    refine textR_no fun u r2 hn hh => ?_
    obtain ⟨pre, hpre, hp0⟩ := num_suffix hn
    rw [gtR_some (textR_yes hn hh.1 hh.2.1 hh.2.2)] at hm
    simp only at hm
    have hl := congrArg List.length hpre
    rw [List.length_append] at hl
    rw [List.length_drop] at hm
    omega
  unfold takeR
  rw [if_neg (by rw [hk]; decide), if_pos hk, this]
  rfl
theorem want3_yes {x : Pt} {r : List Nat} (hk : x.kind = 3) (h : 32 ≤ r.length) : takeR x (some r) = (some { Pt.nil with kind := 3, h := fun j => r[j]?.getD 0 }, some (r.drop 32)) := by
  unfold takeR
  rw [if_neg (by rw [hk]; decide), if_neg (by rw [hk]; decide), if_pos hk, hashR_yes h]
theorem want3_no {x : Pt} {r : List Nat} (hk : x.kind = 3) (h : ¬ 32 ≤ r.length) : takeR x (some r) = (some { Pt.nil with kind := 3 }, none) := by
  unfold takeR
  rw [if_neg (by rw [hk]; decide), if_neg (by rw [hk]; decide), if_pos hk, hashR_no h]
  rfl
theorem want_none {x : Pt} (hk : x.kind = 1 ∨ x.kind = 2 ∨ x.kind = 3) : takeR x none = (some { Pt.nil with kind := x.kind }, none) := by
  unfold takeR
  rcases hk with h | h | h
  · rw [if_pos h, h]; rfl
  · rw [if_neg (by rw [h]; decide), if_pos h, h]; rfl
  · rw [if_neg (by rw [h]; decide), if_neg (by rw [h]; decide), if_pos h, h]; rfl
theorem want_skip {x : Pt} (s : Option (List Nat)) (h1 : ¬ x.kind = 1) (h2 : ¬ x.kind = 2) (h3 : ¬ x.kind = 3) : takeR x s = (none, s) := by
  unfold takeR
  rw [if_neg h1, if_neg h2, if_neg h3]
theorem gtR_len {most : Int} {l : List Nat} : (gtR most l).1.length ≤ l.length := by
  unfold gtR
  cases hn : num 0 true l with
  | none => rw [textR_no (fun u r' e => by rw [hn] at e; cases e)]; simp
  | some ur =>
    obtain ⟨u, r⟩ := ur
    obtain ⟨pre, hpre, -⟩ := num_suffix hn
    have hl := congrArg List.length hpre
    rw [List.length_append] at hl
    by_cases hh : 0 ≤ unzz u ∧ unzz u ≤ most ∧ unzz u ≤ r.length
    · rw [textR_yes hn hh.1 hh.2.1 hh.2.2]
      simp only [List.length_take]
      omega
    · rw [textR_no (fun u' r' e h' => by rw [hn] at e; obtain ⟨rfl, rfl⟩ := Prod.mk.inj (Option.some.inj e); exact hh h')]; simp
end Go.Proofs.Ytbnlobfhcanbgaa
