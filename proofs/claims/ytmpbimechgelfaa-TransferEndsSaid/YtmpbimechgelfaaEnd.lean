/- What becomes of a node that asks again and again. -/
import Derived.Test.YtmpbimechgelfaaFnd
import Derived.Test.YtmpbimechgelfaaRPick
namespace Go.Proofs.Ytmpbimechgelfaa
open Go Go.RowKit

theorem someB_last {ls : List (List Bool)} {L : List Bool} {i : Nat} (h : L[i]?.getD false = true) : someB (ls ++ [L]) i = true := by
  unfold someB
  rw [List.any_eq_true]
  exact ⟨L, by simp, h⟩
/-- Something is asked for, if something is missing that somebody has. -/
theorem pick_yes {hv : List Bool} {ls : List (List Bool)} {d i : Nat} (hi : i < hv.length) (h1 : hv[i]?.getD false = false) (h2 : someB ls i = true) :
    ∃ j p, pickF hv ls d = some (j, p) ∧ j < hv.length ∧ hv[j]?.getD false = false ∧ p < ls.length ∧ hasB (ls[p]?.getD []) j = true := by
  have hs : selB hv ls d i = true := by unfold selB; rw [h1, who_some, h2]; rfl
  cases hr : rndP hv.length d (selB hv ls d) with
  | none =>
    unfold rndP at hr
    rw [List.find?_eq_none] at hr
    obtain ⟨k, hk, e⟩ := plc_onto (a := d) hi
    have := hr (plc hv.length d k) (by simp only [List.mem_map, List.mem_range]; exact ⟨k, hk, rfl⟩)
    rw [e] at this
    exact absurd hs this
  | some j =>
    have hj1 : selB hv ls d j = true := List.find?_some hr
    have hj2 := List.mem_of_find?_eq_some hr
    simp only [List.mem_map, List.mem_range] at hj2
    obtain ⟨k, hk, rfl⟩ := hj2
    have hjl := plc_lt (n := hv.length) (a := d) (k := k) (by omega)
    unfold selB at hj1
    rw [Bool.and_eq_true] at hj1
    obtain ⟨ha, hb⟩ := hj1
    obtain ⟨p, hp⟩ := Option.isSome_iff_exists.1 hb
    have hp' : ((List.range ls.length).map (plc ls.length (d / 4294967296))).find? (fun q => hasB (ls[q]?.getD []) (plc hv.length d k)) = some p := hp
    have hp1 := List.find?_some hp'
    have hp2 := List.mem_of_find?_eq_some hp'
    simp only [List.mem_map, List.mem_range] at hp2
    obtain ⟨k2, hk2, rfl⟩ := hp2
    refine ⟨_, _, ?_, hjl, by simpa using ha, plc_lt (by omega), hp1⟩
    unfold pickF
    rw [hr]
    dsimp only
    rw [hp]
/-- Nothing is asked for, if nothing is missing. -/
theorem pick_no {hv : List Bool} {ls : List (List Bool)} {d : Nat} (h : ∀ i, i < hv.length → hv[i]?.getD false = true) : pickF hv ls d = none := by
  have hr : rndP hv.length d (selB hv ls d) = none := by
    refine rndP_none fun i hi => ?_
    unfold selB
    rw [h _ (plc_lt (by omega))]
    rfl
  unfold pickF
  rw [hr]
theorem miss_some {l : List Bool} (h : 0 < missB l) : ∃ i, i < l.length ∧ l[i]?.getD false = false := by
  unfold missB at h
  rw [List.countP_pos_iff] at h
  obtain ⟨x, hx, h2⟩ := h
  obtain ⟨i, hi, rfl⟩ := List.getElem_of_mem hx
  exact ⟨i, hi, by rw [List.getElem?_eq_getElem hi]; simpa using h2⟩
theorem miss_all {l : List Bool} (h : missB l = 0) {i : Nat} (hi : i < l.length) : l[i]?.getD false = true := by
  unfold missB at h
  rw [List.countP_eq_zero] at h
  have := h l[i] (List.getElem_mem hi)
  rw [List.getElem?_eq_getElem hi]
  simpa using this
theorem miss_set {l : List Bool} {i : Nat} (hi : i < l.length) (h : l[i]?.getD false = false) : missB (l.set i true) + 1 = missB l := by
  have e1 : l = l.take i ++ (false :: l.drop (i + 1)) := by
    have h2 : l[i] = false := by rw [List.getElem?_eq_getElem hi] at h; exact h
    rw [← h2, ← List.drop_eq_getElem_cons hi]
    exact (List.take_append_drop i l).symm
  have e2 : l.set i true = l.take i ++ (true :: l.drop (i + 1)) := by
    rw [List.set_eq_take_append_cons_drop, if_pos hi]
  have e3 : missB l = missB (l.take i ++ (false :: l.drop (i + 1))) := congrArg missB e1
  rw [e2, e3]
  unfold missB
  rw [List.countP_append, List.countP_append, List.countP_cons, List.countP_cons]
  simp
  omega
theorem ver_chunk {l : List Nat} {k n i : Nat} (hc : chkB (l.length : Int) (k : Int) n = true) (hi : i < n) : verI (l.length : Int) (k : Int) (bldHs l k n) (i : Int) (chunkL l k i) = 0 := by
  have h := find_at (b := l) hc hi (fun _ _ _ => rfl)
  obtain ⟨hp, hlt⟩ := part_lt hc hi
  have e : fchunk (l.length : Int) (k : Int) n i l = chunkL l k i := by
    unfold fchunk chunkL
    rw [from_nat hp, to_nat hp, Int.toNat_natCast, Int.toNat_natCast]
    congr 1 <;> omega
  rw [e] at h
  exact of_decide_eq_true (h.trans (decide_eq_true (Nat.min_le_right _ _)))
/-- What was taken is as it is in the image. -/
def EOut (l : List Nat) (k nh : Nat) (Lh : List Bool) (Lo : List Nat) : Prop :=
  Lo.length = l.length ∧ ∀ i, i < nh → Lh[i]?.getD false = true → ∀ q, i * k ≤ q → q < min ((i + 1) * k) l.length → Lo[q]? = l[q]?
/-- How far the bytes of a chunk are taken. -/
def Cpy (l : List Nat) (Lo : List Nat) (F q : Nat) (L : List Nat) : Prop :=
  L.length = l.length ∧ ∀ x, (F ≤ x → x < q → L[x]? = l[x]?) ∧ (¬ (F ≤ x ∧ x < q) → L[x]? = Lo[x]?)
theorem Cpy.start {l Lo : List Nat} {F : Nat} (h : Lo.length = l.length) : Cpy l Lo F F Lo := ⟨h, fun x => ⟨fun h1 h2 => absurd h1 (by omega), fun _ => rfl⟩⟩
theorem Cpy.next {l Lo L : List Nat} {F q : Nat} (h : Cpy l Lo F q L) (hFq : F ≤ q) (hq : q < l.length) : Cpy l Lo F (q + 1) (L.set q (l[q]?.getD 0)) := by
  obtain ⟨h1, h2⟩ := h
  refine ⟨by rw [List.length_set]; exact h1, fun x => ?_⟩
  rw [List.getElem?_set]
  by_cases e : q = x
  · subst e
    rw [if_pos rfl, if_pos (by omega), List.getElem?_eq_getElem hq]
    exact ⟨fun _ _ => rfl, fun hn => absurd ⟨hFq, by omega⟩ hn⟩
  · rw [if_neg e]
    exact ⟨fun ha hb => (h2 x).1 ha (by omega), fun hn => (h2 x).2 (fun ⟨ha, hb⟩ => hn ⟨ha, by omega⟩)⟩
theorem EOut.next {l Lo L : List Nat} {k nh i : Nat} {Lh : List Bool} (h : EOut l k nh Lh Lo) (hc : Cpy l Lo (i * k) (min ((i + 1) * k) l.length) L) : EOut l k nh (Lh.set i true) L := by
  refine ⟨hc.1, fun j hj hL q hq1 hq2 => ?_⟩
  by_cases hin : i * k ≤ q ∧ q < min ((i + 1) * k) l.length
  · exact (hc.2 q).1 hin.1 hin.2
  · rw [(hc.2 q).2 hin]
    have hji : i ≠ j := fun e => hin (by subst e; exact ⟨hq1, hq2⟩)
    rw [List.getElem?_set, if_neg hji] at hL
    exact h.2 j hj hL q hq1 hq2
theorem EOut.whole {l Lo : List Nat} {k nh : Nat} {Lh : List Bool} (h : EOut l k nh Lh Lo) (hc : chkB (l.length : Int) (k : Int) nh = true) (hall : ∀ i, i < nh → Lh[i]?.getD false = true) : Lo = l := by
  refine List.ext_getElem? fun q => ?_
  by_cases hq : q < l.length
  · obtain ⟨h1, h2, h3, h4, h5, h6, h7⟩ := chk_facts hc
    have hk : 0 < k := by omega
    have hd := Nat.div_add_mod q k
    have hm := Nat.mod_lt q hk
    have hdk : q / k < nh := by
      have e1 : (q + k) / k = q / k + 1 := Nat.add_div_right q hk
      have e2 : (q + k) / k ≤ (l.length + k - 1) / k := Nat.div_le_div_right (by omega)
      have e3 : ((l.length + k - 1 : Nat) : Int) / (k : Int) = (((l.length + k - 1) / k : Nat) : Int) := (Int.natCast_ediv _ _).symm
      have e4 : (l.length : Int) + (k : Int) - 1 = ((l.length + k - 1 : Nat) : Int) := by omega
      rw [e4, e3] at h7
      omega
    have e5 : q / k * k = k * (q / k) := Nat.mul_comm _ _
    have e6 : (q / k + 1) * k = k * (q / k) + k := by rw [Nat.add_mul, Nat.one_mul, Nat.mul_comm]
    refine h.2 (q / k) hdk (hall _ hdk) q (by rw [e5]; omega) ?_
    rw [e6]
    omega
  · rw [List.getElem?_eq_none (by rw [h.1]; omega), List.getElem?_eq_none (by omega)]
end Go.Proofs.Ytmpbimechgelfaa
