/- Slices of slices of bytes that the call owns; pieces of slices. -/
import Derived.Test.YtmpbimechgelfaaOb
namespace Go.Proofs.Ytmpbimechgelfaa
open Go Go.RowKit

/-- s[n:] -/
theorem slice_from {t e : TypeId} (ht : Try.prog.underlying t = some (.slice e)) (hz : ∀ w, (sizeOf e).run Try.prog w = .ok 1 w) (A : Option Addr) (m c n : Nat) (hn : n ≤ m) (hmc : m ≤ c) :
    ∃ A', (∀ W, (Instr.slice t (.slice A m c) (some (.int .i64 (n : Int))) none none).run Try.prog W = .ok (.slice A' (m - n) (c - n)) W) ∧ (∀ w B f, Rd w B 1 A m f → Rd w B 1 A' (m - n) (fun j => f (n + j))) ∧ (A = none → A' = none) := by
  have ht' : Try.prog.underlying t = some (.slice (Try.prog.elem t)) := by simp [Program.elem, ht]
  have he : Try.prog.elem t = e := by simp [Program.elem, ht]
  refine ⟨if c = n then A else A.map (·.add (n * 1)), fun W => ?_, fun w B f h hp => ?_, fun hA => by subst hA; simp⟩
  · rw [run_slice_l W t A m c ht' .i64 _ (by omega) (by omega), he, hz]
    simp [Result.andThen, sliced]
  · obtain ⟨b, off, rfl, hb, hc⟩ := h (by omega)
    rw [if_neg (by omega)]
    refine ⟨b, off + n, ?_, hb, fun j hj => ?_⟩
    · show some ((⟨b, off, none⟩ : Addr).add (n * 1)) = _
      rw [add_addr, Nat.mul_one]
    · rw [Nat.add_assoc]; exact hc (n + j) (by omega)
/-- s[:n] -/
theorem slice_to {t e : TypeId} (ht : Try.prog.underlying t = some (.slice e)) (hz : ∀ w, (sizeOf e).run Try.prog w = .ok 1 w) (A : Option Addr) (m c n : Nat) (hn : n ≤ c) :
    ∃ A', (∀ W, (Instr.slice t (.slice A m c) none (some (.int .i64 (n : Int))) none).run Try.prog W = .ok (.slice A' n c) W) ∧ (∀ w B f, n ≤ m → Rd w B 1 A m f → Rd w B 1 A' n f) ∧ (A = none → A' = none) := by
  have ht' : Try.prog.underlying t = some (.slice (Try.prog.elem t)) := by simp [Program.elem, ht]
  have he : Try.prog.elem t = e := by simp [Program.elem, ht]
  refine ⟨if c = 0 then A else A.map (·.add (0 * 1)), fun W => ?_, fun w B f hnm h hp => ?_, fun hA => by subst hA; simp⟩
  · rw [run_slice_h W t A m c ht' .i64 _ (by omega) (by omega), he, hz]
    simp [Result.andThen, sliced]
  · obtain ⟨b, off, rfl, hb, hc⟩ := h (by omega)
    refine ⟨b, off, ?_, hb, fun j hj => hc j (by omega)⟩
    by_cases h : c = 0
    · rw [if_pos h]
    · rw [if_neg h]
      show some ((⟨b, off, none⟩ : Addr).add (0 * 1)) = _
      rw [add_addr]; simp
theorem size_5 (w : World) : (sizeOf 5).run Try.prog w = .ok 1 w := by kernel_rfl
theorem info_b : (Try.prog.info? 31).map (fun i => (i.zero, i.size, i.bytes)) = some (some (.slice none 0 0), 1, 24) := by kernel_rfl

/-- Values by their place. -/
def vf (vs : List Value) (j : Nat) : Value := vs[j]?.getD undef
theorem vf_app (vs us : List Value) (j : Nat) (_hj : j < (vs.length + us.length) * 1) : (if j < vs.length * 1 then vf vs j else vf us (j - vs.length * 1)) = vf (vs ++ us) j := by
  unfold vf
  rw [List.getElem?_append]
  by_cases h : j < vs.length
  · rw [if_pos (by omega), if_pos h]
  · rw [if_neg (by omega), if_neg h, Nat.mul_one]
/-- A slice of slices of bytes of the call's own. -/
structure Pw (w : World) (base B : Nat) (v : Value) (vs : List Value) (ls : List (List Nat)) : Prop where
  own : Own w base 31 1 v vs.length (vf vs)
  len : vs.length = ls.length
  ok : ∀ (j : Nat) u l, vs[j]? = some u → ls[j]? = some l → ∃ A c, u = .slice A l.length c ∧ Bs w B A l
theorem Pw.nil {w : World} {base B : Nat} : Pw w base B (.slice none 0 0) [] [] := ⟨Own.nil, rfl, fun j u l h => by simp at h⟩
theorem Pw.keep {w w' : World} {base B : Nat} {v : Value} {vs : List Value} {ls : List (List Nat)} (h : Pw w base B v vs ls) (hb : Below w.heap.size w w') (hB : B ≤ w.heap.size) : Pw w' base B v vs ls :=
  ⟨Own.below h.own hb, h.len, fun j u l hu hl => by obtain ⟨A, c, e, hb'⟩ := h.ok j u l hu hl; exact ⟨A, c, e, Bs.below hb' (hb.mono hB)⟩⟩
theorem Pw.prt {w : World} {base B : Nat} {v : Value} {vs : List Value} {ls : List (List Nat)} (h : Pw w base B v vs ls) (hB : B ≤ w.heap.size) (hby : ∀ l ∈ ls, Byt l) : ∃ A c, v = .slice A ls.length c ∧ Prt w A vs ls ∧ ls.length ≤ c := by
  obtain ⟨A, c, rfl, h1, h2, h3⟩ := Own.shape h.own
  refine ⟨A, c, by rw [h.len], ⟨h.len, fun hn => ?_, fun j u l hu hl => ?_, hby⟩, by rw [← h.len]; exact h1⟩
  · obtain ⟨b, off, e, hb, hc⟩ := Own.rd h.own (by rw [h.len]; exact hn)
    refine ⟨b, off, e, fun j u hu => ?_⟩
    have hj := (List.getElem?_eq_some_iff.1 hu).1
    rw [hc j (by omega)]
    unfold vf; rw [hu]; rfl
  · obtain ⟨A, c, e, hb⟩ := h.ok j u l hu hl
    exact ⟨A, c, e, Bs.more hb hB⟩
/-- 'append(v, us...)' of slices of bytes, at a plain region. -/
theorem wpl_pw {w : World} {ops : Array Oper} {rest : List Oper} {o : Oper} {a : Act} {Q : Exit → Act → World → Prop} (hgd : o.guard = none) (s y : Operand)
    (ho : o.op = .call { callee := .builtin .append, args := #[s, y], argTypes := #[52, 52] }) (hty : o.type = 52) {base B : Nat} {v : Value} {vs : List Value} {ls : List (List Nat)} (h : Pw w base B v vs ls)
    (g n c : Nat) (us : List Value) (ms : List (List Nat)) (hg : w.heap[g]? = some (.cells us.toArray 31 (0, 0))) (hn : n = us.length) (hum : us.length = ms.length) (hok : ∀ (j : Nat) u l, us[j]? = some u → ms[j]? = some l → ∃ A c, u = .slice A l.length c ∧ Bs w B A l)
    (hs : a.eval s = v) (hy : a.eval y = .slice (some ⟨g, 0, none⟩) n c) (hlen : vs.length + us.length ≤ 2000000) (hbase : base ≤ w.heap.size) (hB : B ≤ base)
    (hk : ∀ v' w', Pw w' base B v' (vs ++ us) (ls ++ ms) → Below base w w' → wpList Try.prog ops Q rest (a.put o.dst v') w') : wpList Try.prog ops Q (o :: rest) a w := by
  obtain ⟨i0, hi0, hz0, hz1, hz2⟩ := info_parts info_b
  subst hn
  have hr : Rd w (g + 1) 1 (some ⟨g, 0, none⟩) us.length (vf us) := fun _ => ⟨g, 0, rfl, by omega, fun j hj => by
    rw [Nat.zero_add, cell_of_row _ _ _ _ _ _ hg]
    unfold vf
    rw [List.getElem?_toArray, List.getElem?_eq_getElem (by omega)]; rfl⟩
  have h1 : ∀ j, j < us.length * 1 → (vf us j).oneCell' = true := fun j hj => by
    have hj' : j < us.length := by omega
    obtain ⟨A, c, e, _⟩ := hok j us[j] ms[j] (List.getElem?_eq_getElem hj') (List.getElem?_eq_getElem (by omega))
    unfold vf
    rw [List.getElem?_eq_getElem hj', Option.getD_some, e]; rfl
  obtain ⟨v', w', hrun, h2, h3, _⟩ := run_app (P := Try.prog) w base 52 52 31 i0 _ 1 24 Try.underlying52 hi0 hz0 hz1 hz2 rfl (by omega) v vs.length (vf vs) h.own (g + 1) (some ⟨g, 0, none⟩) us.length c (vf us) hr (by intro e; cases e) h1 (by unfold maxLen; omega) (by omega) hbase
  have hbl : Below base w w' := (Below.refl _ _).grown h3 hbase (fun k hk => (Own.block h.own k hk).1)
  refine wpList_plain hgd fun K hK => ?_
  unfold Oper.wp execOp
  simp only [ho, hty, resolve, invoke, builtin, Sem.run_bind, Sem.run_pure, Result.andThen_ok, List.map_toArray, List.map_cons, List.map_nil, hs, hy, hrun]
  refine hK _ _ (hk v' w' ⟨?_, by rw [List.length_append, List.length_append, h.len, hum], fun j u l hu hl => ?_⟩ hbl)
  · rw [List.length_append]
    exact Own.congr h2 fun j hj => vf_app vs us j hj
  · rw [List.getElem?_append] at hu hl
    by_cases hj : j < vs.length
    · rw [if_pos hj] at hu
      rw [if_pos (by rw [← h.len]; exact hj)] at hl
      obtain ⟨A, c, e, hb'⟩ := h.ok j u l hu hl
      exact ⟨A, c, e, Bs.below hb' (hbl.mono hB)⟩
    · rw [if_neg hj] at hu
      rw [if_neg (by rw [← h.len]; exact hj), ← h.len] at hl
      obtain ⟨A, c, e, hb'⟩ := hok _ u l hu hl
      exact ⟨A, c, e, Bs.below hb' (hbl.mono hB)⟩
end Go.Proofs.Ytmpbimechgelfaa
