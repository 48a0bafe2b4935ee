/- Which chunks the beginning of an image holds. -/
import Derived.Test.YtmpbimechgelfaaTOk
namespace Go.Proofs.Ytmpbimechgelfaa
open Go Go.RowKit

theorem from_nat {s k n : Nat} {i : Nat} (h : partB (s : Int) (k : Int) n (i : Int) = true) : fromI (s : Int) (k : Int) n (i : Int) = ((i * k : Nat) : Int) := by
  unfold fromI; rw [h]; push_cast; rfl
theorem to_nat {s k n : Nat} {i : Nat} (h : partB (s : Int) (k : Int) n (i : Int) = true) : toI (s : Int) (k : Int) n (i : Int) = ((min ((i + 1) * k) s : Nat) : Int) := by
  unfold toI; rw [h]
  show min (((i : Int) + 1) * (k : Int)) (s : Int) = _
  rw [show ((i : Int) + 1) * (k : Int) = (((i + 1) * k : Nat) : Int) from by push_cast; rfl]
  omega
theorem part_lt {s k n : Nat} {i : Nat} (hc : chkB (s : Int) (k : Int) n = true) (hi : i < n) : partB (s : Int) (k : Int) n (i : Int) = true ∧ i * k < min ((i + 1) * k) s := by
  obtain ⟨h1, h2, h3, h4, h5, h6, h7⟩ := chk_facts hc
  refine ⟨by unfold partB; rw [hc, decide_eq_true (by omega), decide_eq_true (by omega)]; rfl, ?_⟩
  have e1 : ((i * k : Nat) : Int) ≤ ((n : Int) - 1) * (k : Int) := by
    rw [Int.natCast_mul]; exact Int.mul_le_mul_of_nonneg_right (by omega) (by omega)
  have e2 : (n : Int) * (k : Int) ≤ (s : Int) + k - 1 := by rw [h7]; exact Int.ediv_mul_le _ (by omega)
  have e3 : ((n : Int) - 1) * (k : Int) = (n : Int) * k - k := by rw [Int.sub_mul, Int.one_mul]
  have e4 : (i + 1) * k = i * k + k := by rw [Nat.add_mul, Nat.one_mul]
  rw [e4]
  omega
theorem hs_at {l : List Nat} {k n i : Nat} (hi : i < n) : (bldHs l k n)[i]?.getD (fun _ => 0) = digH i (chunkL l k i) := by
  unfold bldHs; simp [hi]
/-- A chunk of bytes that begin as the image does is held if it is all there. -/
theorem find_at {l b : List Nat} {k n i : Nat} (hc : chkB (l.length : Int) (k : Int) n = true) (hi : i < n) (hpre : ∀ t, t ≤ b.length → t ≤ l.length → b.take t = l.take t) :
    decide (verI (l.length : Int) (k : Int) (bldHs l k n) (i : Int) (fchunk (l.length : Int) (k : Int) n i b) = 0) = decide (min ((i + 1) * k) l.length ≤ b.length) := by
  obtain ⟨hp, hlt⟩ := part_lt hc hi
  obtain ⟨F, hF⟩ : ∃ F, F = i * k := ⟨_, rfl⟩
  obtain ⟨T, hT⟩ : ∃ T, T = min ((i + 1) * k) l.length := ⟨_, rfl⟩
  have hf := from_nat hp
  have ht := to_nat hp
  rw [← hF] at hf hlt
  rw [← hT] at ht hlt ⊢
  have hTl : T ≤ l.length := by omega
  have hfc : fchunk (l.length : Int) (k : Int) n i b = cutL b (min F b.length) (min T b.length) := by
    unfold fchunk; rw [hf, ht, Int.toNat_natCast, Int.toNat_natCast]
  rw [hfc]
  unfold verI
  rw [bldHs_len, hp, hf, ht, Int.toNat_natCast, hs_at hi]
  by_cases hTb : T ≤ b.length
  · have e1 : min F b.length = F := by omega
    have e2 : min T b.length = T := by omega
    have e3 : cutL b F T = chunkL l k i := by
      unfold chunkL
      rw [← hF, ← hT]
      unfold cutL
      rw [← List.drop_take, ← List.drop_take, hpre T hTb hTl]
    rw [e1, e2, cutL_len hTb, e3, eqh_self, decide_eq_true (show ((T - F : Nat) : Int) = (T : Int) - (F : Int) by omega), decide_eq_true hTb]
    rfl
  · rw [cutL_len (l := b) (x := min F b.length) (y := min T b.length) (Nat.min_le_right _ _), decide_eq_false (show ¬ ((min T b.length - min F b.length : Nat) : Int) = (T : Int) - (F : Int) by omega), decide_eq_false hTb]
    rfl
theorem fnd_at {l b : List Nat} {k : Nat} {hs : List (Nat → Nat)} (hc : chkB (l.length : Int) (k : Int) hs.length = true) (hh : hs = bldHs l k hs.length) {i : Nat} (hi : i < hs.length) (hpre : ∀ t, t ≤ b.length → t ≤ l.length → b.take t = l.take t) :
    (fndL (l.length : Int) (k : Int) hs b hs.length)[i]?.getD false = decide (min ((i + 1) * k) l.length ≤ b.length) := by
  unfold fndL
  rw [List.getElem?_map, List.getElem?_range hi]
  show decide (verI (l.length : Int) (k : Int) hs (i : Int) (fchunk (l.length : Int) (k : Int) hs.length i b) = 0) = _
  have h := find_at (b := b) hc hi hpre
  rw [← hh] at h
  exact h
theorem miss_none {l : List Bool} (h : ∀ i, i < l.length → l[i]?.getD false = true) : missB l = 0 := by
  unfold missB
  rw [List.countP_eq_zero]
  intro x hx
  obtain ⟨i, hi, rfl⟩ := List.getElem_of_mem hx
  have := h i hi
  rw [List.getElem?_eq_getElem hi] at this
  simpa using this
theorem yieldsIf_slice1 {ops : Array Oper} {S : World → Prop} {op : Oper} {a : Act} (hw : Region.wanted op (yielded ops a.tmps) = true) (ty : TypeId) (x hi : Operand) (ho : op.op = .slice ty x none (some hi) none)
    (ht : Try.prog.underlying ty = some (.slice (Try.prog.elem ty))) (v0 v2 v : Value) (hx : a.eval x = v0) (hh : a.eval hi = v2) (hrun : ∀ W, (Instr.slice ty v0 none (some v2) none).run Try.prog W = .ok v W) : YieldsIf Try.prog ops S op v a :=
  .inl ⟨hw, fun w _ => by
    unfold execOp
    simp only [ho, hx, hh, Option.map_some, Option.map_none, Sem.run_bind, Sem.run_pure, Result.andThen_ok, run_sliceAt_slice (h := ht), hrun]⟩
end Go.Proofs.Ytmpbimechgelfaa
