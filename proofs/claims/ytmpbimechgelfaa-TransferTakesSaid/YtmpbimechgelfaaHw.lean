/- Slices of hashes that the call owns. -/
import Derived.Test.YtmpbimechgelfaaOb
namespace Go.Proofs.Ytmpbimechgelfaa
open Go Go.RowKit

/-- The slice v is the call's own and holds the hashes hs. -/
def Hw (w : World) (base : Nat) (v : Value) (hs : List (Nat → Nat)) : Prop := Own w base 33 32 v hs.length (hf hs)
theorem Hw.nil {w : World} {base : Nat} : Hw w base (.slice none 0 0) [] := Own.nil
theorem Hw.next {w w' : World} {base : Nat} {v : Value} {hs : List (Nat → Nat)} (h : Hw w base v hs) (hb : Below w.heap.size w w') : Hw w' base v hs := Own.below h hb
theorem Hw.sl {w : World} {base : Nat} {v : Value} {hs : List (Nat → Nat)} (h : Hw w base v hs) : ∃ A c, v = .slice A hs.length c ∧ Hs w w.heap.size A hs ∧ hs.length ≤ c ∧ c ≤ maxLen ∧ (A = none → hs.length = 0 ∧ c = 0) := by
  obtain ⟨A, c, rfl, h1, h2, h3⟩ := Own.shape h
  exact ⟨A, c, rfl, Own.rd h, h1, h2, h3⟩
theorem hf_app (hs : List (Nat → Nat)) (h : Nat → Nat) (j : Nat) (hj : j < (hs.length + 1) * 32) : (if j < hs.length * 32 then hf hs j else hf [h] (j - hs.length * 32)) = hf (hs ++ [h]) j := by
  unfold hf
  by_cases e : j < hs.length * 32
  · rw [if_pos e, List.getElem?_append_left (by omega)]
  · rw [if_neg e, List.getElem?_append_right (by omega), show (j - hs.length * 32) / 32 = j / 32 - hs.length from by omega, show (j - hs.length * 32) % 32 = j % 32 from by omega]
theorem wpl_hw {w : World} {ops : Array Oper} {rest : List Oper} {o : Oper} {a : Act} {Q : Exit → Act → World → Prop} (hgd : o.guard = none) (s y : Operand)
    (ho : o.op = .call { callee := .builtin .append, args := #[s, y], argTypes := #[32, 32] }) (hty : o.type = 32) {base : Nat} {v : Value} {hs : List (Nat → Nat)} (h : Hw w base v hs)
    (g c : Nat) (x : Nat → Nat) (hg : w.heap[g]? = some (.cells (hc x) 33 (0, 0))) (hs' : a.eval s = v) (hy : a.eval y = .slice (some ⟨g, 0, none⟩) 1 c) (hlen : hs.length ≤ 2000) (hbase : base ≤ w.heap.size)
    (hk : ∀ v' w', Hw w' base v' (hs ++ [x]) → Below base w w' → wpList Try.prog ops Q rest (a.put o.dst v') w') : wpList Try.prog ops Q (o :: rest) a w := by
  obtain ⟨i0, hi0, hz0, hz1, hz2⟩ := info_parts info_h
  obtain ⟨v', w', hrun, h2, h3, _⟩ := run_app (P := Try.prog) w base 32 32 33 i0 _ 32 32 Try.underlying32 hi0 hz0 hz1 hz2 (hc_size _) (by omega) v hs.length (hf hs) h (g + 1) (some ⟨g, 0, none⟩) 1 c (hf [x]) (hs_one hg (by omega)) (by intro e; cases e) (fun j _ => rfl) (by unfold maxLen; omega) (by omega) hbase
  have hbl : Below base w w' := (Below.refl _ _).grown h3 hbase (fun k hk => (Own.block h k hk).1)
  refine wpList_plain hgd fun K hK => ?_
  unfold Oper.wp execOp
  simp only [ho, hty, resolve, invoke, builtin, Sem.run_bind, Sem.run_pure, Result.andThen_ok, List.map_toArray, List.map_cons, List.map_nil, hs', hy, hrun]
  refine hK _ _ (hk v' w' ?_ hbl)
  unfold Hw
  rw [List.length_append]
  exact Own.congr h2 fun j hj => hf_app hs x j hj
/-- A slice of one hash is built, at a plain region. -/
theorem wpl_bs_hash {w : World} {ops : Array Oper} {rest : List Oper} {o : Oper} {a : Act} {Q : Exit → Act → World → Prop} (hgd : o.guard = none) (x : Operand) (ho : o.op = .buildSlice 32 1 #[(0, x)]) (f : Nat → Nat) (C : Array Value) (hC : C = hc f) (hx : a.eval x = .agg C)
    (h : wpList Try.prog ops Q rest (a.put o.dst (.slice (some ⟨w.heap.size, 0, none⟩) 1 1)) (w.alloc (.cells C 33))) : wpList Try.prog ops Q (o :: rest) a w :=
  wpList_plain hgd fun _ hK => wp_bs_hash x ho f C hC hx (hK _ _ h)
end Go.Proofs.Ytmpbimechgelfaa
