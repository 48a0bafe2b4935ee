/- 'append' onto a slice of bytes of the call's own. -/
import Derived.Test.YtmpbimechgelfaaSOpen
namespace Go.Proofs.Ytmpbimechgelfaa
open Go Go.RowKit

theorem Ob.empty (w : World) {base : Nat} (hb : base ≤ w.heap.size) : Ob (w.alloc (.cells #[] 5)) base (.slice (some ⟨w.heap.size, 0, none⟩) 0 0) [] := by
  have h := Own.made (base := base) (e := 5) (sz := 1) (f := bf []) w #[] 0 hb (by unfold maxLen; omega) rfl
  exact h
theorem Ob.ofOne (w : World) {base : Nat} (hb : base ≤ w.heap.size) (x : Nat) : Ob (w.alloc (.cells #[.int .u8 (x : Int)] 5)) base (.slice (some ⟨w.heap.size, 0, none⟩) 1 1) [x] := by
  refine ⟨by simp, .inr ⟨w.heap.size, 1, _, rfl, hb, heap_alloc_new w _, Nat.le_refl _, by unfold maxLen; omega, rfl, ?_⟩⟩
  simp [bf]
theorem Ob.of2 (w : World) {base : Nat} (hb : base ≤ w.heap.size) (x y : Nat) : Ob (w.alloc (.cells #[.int .u8 (x : Int), .int .u8 (y : Int)] 5)) base (.slice (some ⟨w.heap.size, 0, none⟩) 2 2) [x, y] := by
  refine ⟨by simp, .inr ⟨w.heap.size, 2, _, rfl, hb, heap_alloc_new w _, Nat.le_refl _, by unfold maxLen; omega, rfl, ?_⟩⟩
  simp [bf, List.range_succ]
theorem Bs.ofOne (w : World) (x : Nat) : Bs (w.alloc (.cells #[.int .u8 (x : Int)] 5)) (w.heap.size + 1) (some ⟨w.heap.size, 0, none⟩) [x] := fun _ =>
  ⟨_, 0, rfl, by omega, fun j hj => by
    obtain rfl : j = 0 := by simp at hj; omega
    exact cell_of_one (heap_alloc_new w _)⟩
theorem Ob.alloc {w : World} {base : Nat} {v : Value} {l : List Nat} (h : Ob w base v l) (o : Obj) : Ob (w.alloc o) base v l := Own.alloc h o
theorem Ob.next {w w' : World} {base : Nat} {v : Value} {l : List Nat} (h : Ob w base v l) (hb : Below w.heap.size w w') : Ob w' base v l := Own.below h hb
theorem Ob.rd {w : World} {base : Nat} {v : Value} {l : List Nat} (h : Ob w base v l) : ∃ A c, v = .slice A l.length c ∧ Bs w w.heap.size A l ∧ l.length ≤ c ∧ c ≤ maxLen ∧ (A = none → c = 0) := by
  obtain ⟨A, c, rfl, h1, h2, h3⟩ := Own.shape h
  exact ⟨A, c, rfl, Own.rd h, h1, h2, fun e => (h3 e).2⟩
theorem Ob.sl {w : World} {base : Nat} {A : Option Addr} {n c : Nat} {l : List Nat} (h : Ob w base (.slice A n c) l) : n = l.length ∧ Bs w w.heap.size A l ∧ l.length ≤ c ∧ c ≤ maxLen := by
  obtain ⟨A', c', e, h1, h2, h3, _⟩ := Ob.rd h
  injection e with e1 e2 e3
  subst e1 e2 e3
  exact ⟨rfl, h1, h2, h3⟩
theorem run_ob {w : World} {base B : Nat} {v : Value} {l m : List Nat} (h : Ob w base v l) (A : Option Addr) (n c : Nat) (hn : n = m.length) (hr : Bs w B A m) (hc : A = none → c = 0) (hlen : l.length + m.length ≤ 2000000) (hbase : base ≤ w.heap.size) :
    ∃ v' w', (Builtin.append_ #[31, 31] 31 #[v, .slice A n c]).run Try.prog w = .ok v' w' ∧ Ob w' base v' (l ++ m) ∧ w.grownBy w' v.ownBlock ∧ Below base w w' := by
  obtain ⟨i0, hi0, hz0, hz1, hz2⟩ := info_parts info_u8
  subst hn
  obtain ⟨v', w', hrun, h2, h3, _⟩ := run_app (P := Try.prog) w base 31 31 5 i0 _ 1 1 Try.underlying31 hi0 hz0 hz1 hz2 rfl (by omega) v l.length (bf l) h B A m.length c (bf m) hr hc (fun j _ => bf_one _ j) (by unfold maxLen; omega) (by omega) hbase
  exact ⟨v', w', hrun, Ob.app h2, h3, (Below.refl _ _).grown h3 hbase (fun k hk => (Own.block h k hk).1)⟩
/-- 'append(v, x...)' of bytes, at a plain region. -/
theorem wpl_ob {w : World} {ops : Array Oper} {rest : List Oper} {o : Oper} {a : Act} {Q : Exit → Act → World → Prop} (hgd : o.guard = none) (s y : Operand)
    (ho : o.op = .call { callee := .builtin .append, args := #[s, y], argTypes := #[31, 31] }) (hty : o.type = 31) {base B : Nat} {v : Value} {l m : List Nat} (h : Ob w base v l) (A : Option Addr) (n c : Nat) (hn : n = m.length)
    (hs : a.eval s = v) (hy : a.eval y = .slice A n c) (hr : Bs w B A m) (hc : A = none → c = 0) (hlen : l.length + m.length ≤ 2000000) (hbase : base ≤ w.heap.size)
    (hk : ∀ v' w', Ob w' base v' (l ++ m) → w.grownBy w' v.ownBlock → Below base w w' → wpList Try.prog ops Q rest (a.put o.dst v') w') : wpList Try.prog ops Q (o :: rest) a w := by
  obtain ⟨v', w', hrun, h2, h3, h4⟩ := run_ob h A n c hn hr hc hlen hbase
  refine wpList_plain hgd fun K hK => ?_
  unfold Oper.wp execOp
  simp only [ho, hty, resolve, invoke, builtin, Sem.run_bind, Sem.run_pure, Result.andThen_ok, List.map_toArray, List.map_cons, List.map_nil, hs, hy, hrun]
  exact hK _ _ (hk v' w' h2 h3 h4)
/-- The same, as one step of a region that draws. -/
theorem step_ob {w : World} {ops : Array Oper} {E : Prop} {o : Oper} {a : Act} {K : Act → World → Prop} {Q : Exit → Act → World → Prop} (hgd : o.guard = none) (s y : Operand)
    (ho : o.op = .call { callee := .builtin .append, args := #[s, y], argTypes := #[31, 31] }) (hty : o.type = 31) {base B : Nat} {v : Value} {l m : List Nat} (h : Ob w base v l) (A : Option Addr) (n c : Nat) (hn : n = m.length)
    (hs : a.eval s = v) (hy : a.eval y = .slice A n c) (hr : Bs w B A m) (hc : A = none → c = 0) (hlen : l.length + m.length ≤ 2000000) (hbase : base ≤ w.heap.size)
    (hk : ∀ v' w', Ob w' base v' (l ++ m) → w.grownBy w' v.ownBlock → Below base w w' → K (a.put o.dst v') w') : if Region.wanted o (yielded ops a.tmps) = true then Oper.wp Try.prog o a w K Q else E := by
  obtain ⟨v', w', hrun, h2, h3, h4⟩ := run_ob h A n c hn hr hc hlen hbase
  have hw : Region.wanted o (yielded ops a.tmps) = true := by simp [Region.wanted, hgd]
  rw [if_pos hw]
  unfold Oper.wp execOp
  simp only [ho, hty, resolve, invoke, builtin, Sem.run_bind, Sem.run_pure, Result.andThen_ok, List.map_toArray, List.map_cons, List.map_nil, hs, hy, hrun]
  exact hk v' w' h2 h3 h4
end Go.Proofs.Ytmpbimechgelfaa
