/- Manifests that are made: the aggregate, its load and store, and its results. -/
import Derived.Test.YtmpbimechgelfaaNext
import Derived.Laws.ResultCell
namespace Go.Proofs.Ytmpbimechgelfaa
open Go Go.RowKit

/-- No manifest. -/
def mc0 : Array Value := mcv 0 0 (.slice none 0 0) (fun _ => 0)
set_option maxRecDepth 100000 in
theorem built_m (s k : Int) (f : Nat → Nat) : Try.prog.built 35 [(0, .int .i64 s), (1, .int .i64 k), (3, .agg (hc f))] = some (mcv s k (.slice none 0 0) f) := by kernel_rfl
set_option maxRecDepth 100000 in
theorem built_0 : Try.prog.built 35 [] = some mc0 := by kernel_rfl
theorem mc0_size : mc0.size = 35 := mcv_size _ _ _ _
theorem results_mt {fn : Func} {p u : Tmp} (h : fn.results = #[.cell p 35, .tmp u]) (tmps : Array Value) (w : World) (g : Nat) (C : Array Value) (hp : tmps.getD p undef = .pointer (some ⟨g, 0, none⟩))
    (hg : w.heap[g]? = some (.cells C 35 (0, 0))) (hi : (Try.prog.info? 35).map (·.size) = some C.size) :
    (results fn tmps).run Try.prog w = .ok (.tuple #[.agg C, tmps.getD u undef]) w := by
  rw [results_cell_tmp h, hp]
  simp [asAddr, run_loadVar_row w g 35 35 C (0, 0) _ hg Try.underlying35 rfl hi, Result.andThen]
theorem yieldsIf_build_m {ops : Array Oper} {S : World → Prop} {op : Oper} {a : Act} (hw : Region.wanted op (yielded ops a.tmps) = true) (x y z : Operand) (ho : op.op = .build 35 #[(0, x), (1, y), (3, z)])
    (s k : Int) (f : Nat → Nat) (C : Array Value) (hC : C = hc f) (hx : a.eval x = .int .i64 s) (hy : a.eval y = .int .i64 k) (hz : a.eval z = .agg C) : YieldsIf Try.prog ops S op (.agg (mcv s k (.slice none 0 0) f)) a :=
  .inl ⟨hw, fun w _ => by
    have h := run_build (P := Try.prog) w 35 #[(0, .int .i64 s), (1, .int .i64 k), (3, .agg (hc f))] _ (built_m s k f)
    unfold execOp
    simp only [ho, List.map_toArray, List.map_cons, List.map_nil, hx, hy, hz, hC, h, Sem.run_bind, Sem.run_pure, Result.andThen_ok]⟩
theorem wpl_build_0 {ops : Array Oper} {rest : List Oper} {o : Oper} {a : Act} {w : World} {Q : Exit → Act → World → Prop} (hg : o.guard = none) (ho : o.op = .build 35 #[])
    (h : wpList Try.prog ops Q rest (a.put o.dst (.agg mc0)) w) : wpList Try.prog ops Q (o :: rest) a w := by
  have e : ((#[] : Array (Nat × Operand)).map fun (i, x) => (i, a.eval x)).toList = [] := by simp
  refine wpList_build hg 35 #[] ho (by rw [e, built_0]; rfl) ?_
  rw [e, built_0]
  exact h
theorem MB.set2 {w : World} {g : Nat} {s k : Int} {v : Value} {f : Nat → Nat} (h : MB w g s k v f) (u : Value) : MB (w.setCell ⟨g, 2, none⟩ u) g s k u f := by
  have h1 := heap_setCell_same w g 2 _ _ u h
  have e : (mcv s k v f).setIfInBounds 2 u = mcv s k u f := by
    unfold mcv
    rw [List.setIfInBounds_toArray]
    rfl
  rw [e] at h1
  exact h1
theorem row_next {w w' : World} {g : Nat} {o : Obj} (h : w.heap[g]? = some o) (hb : Below w.heap.size w w') : w'.heap[g]? = some o := (hb.block g (Array.getElem?_eq_some_iff.1 h).1).trans h
theorem same_fact {p q : Prop} (h : p) (_ : q) : p := h
/-- The load of a whole aggregate, at an operation with a guard. -/
theorem wpl_load_row_g {P : Program} {ops : Array Oper} {rest : List Oper} {o : Oper} {a : Act} {w : World} {Q : Exit → Act → World → Prop} (hw : Region.wanted o (yielded ops a.tmps) = true) (ty : TypeId) (x : Operand) (ho : o.op = .load ty x)
    (g : Nat) (hx : a.eval x = .pointer (some ⟨g, 0, none⟩)) (t : TypeId) (cs : Array Value) (fr : Nat × Nat) (d : TypeDesc) (hg : w.heap[g]? = some (.cells cs t fr))
    (hu : P.underlying ty = some d) (hd : (match d with | .struct _ | .array _ _ => true | _ => false) = true) (hi : (P.info? ty).map (·.size) = some cs.size)
    (h : wpList P ops Q rest (a.put o.dst (.agg cs)) w) : wpList P ops Q (o :: rest) a w :=
  wpList_step fun K hK => by rw [if_pos hw]; exact wp_load_row ty x ho g hx t cs fr d hg hu hd hi (hK _ _ h)
theorem below_both {g : Nat} {a w w' : World} (h : Below g a w ∧ g < w.heap.size) (hb : Below w.heap.size w w') : Below g a w' ∧ g < w'.heap.size := ⟨h.1.trans (hb.mono (Nat.le_of_lt h.2)), Nat.lt_of_lt_of_le h.2 hb.size⟩
theorem Hw.farRow {w : World} {base : Nat} {v : Value} {hs : List (Nat → Nat)} (h : Hw w base v hs) {q : Nat} (hq : q < base) (cs : Array Value) : Hw (w.setRow q cs) base v hs :=
  Own.kept (row := some q) h ⟨rfl, rfl, rfl, by simp [World.setRow], fun k _ hk => setRow_other w q k cs (fun e => hk (by rw [e]))⟩ (by
    cases hv : v.ownBlock with
    | none => exact .inl rfl
    | some k => exact .inr (by intro e; injection e with e; have := (Own.block h k hv).1; omega))
theorem Hw.farCell {w : World} {base : Nat} {v : Value} {hs : List (Nat → Nat)} (h : Hw w base v hs) {p : Addr} (hq : p.block < base) (u : Value) : Hw (w.setCell p u) base v hs :=
  Own.far h (by intro e; have := (Own.block h _ e).1; omega) u
/-- 'append' of one hash, as one step of a region that draws. -/
theorem step_hw {w : World} {ops : Array Oper} {E : Prop} {o : Oper} {a : Act} {K : Act → World → Prop} {Q : Exit → Act → World → Prop} (hgd : o.guard = none) (s y : Operand)
    (ho : o.op = .call { callee := .builtin .append, args := #[s, y], argTypes := #[32, 32] }) (hty : o.type = 32) {base : Nat} {v : Value} {hs : List (Nat → Nat)} (h : Hw w base v hs)
    (g c : Nat) (x : Nat → Nat) (hg : w.heap[g]? = some (.cells (hc x) 33 (0, 0))) (hs' : a.eval s = v) (hy : a.eval y = .slice (some ⟨g, 0, none⟩) 1 c) (hlen : hs.length ≤ 2000) (hbase : base ≤ w.heap.size)
    (hk : ∀ v' w', Hw w' base v' (hs ++ [x]) → Below base w w' → K (a.put o.dst v') w') : if Region.wanted o (yielded ops a.tmps) = true then Oper.wp Try.prog o a w K Q else E := by
  obtain ⟨i0, hi0, hz0, hz1, hz2⟩ := info_parts info_h
  obtain ⟨v', w', hrun, h2, h3, _⟩ := run_app (P := Try.prog) w base 32 32 33 i0 _ 32 32 Try.underlying32 hi0 hz0 hz1 hz2 (hc_size _) (by omega) v hs.length (hf hs) h (g + 1) (some ⟨g, 0, none⟩) 1 c (hf [x]) (hs_one hg (by omega)) (by intro e; cases e) (fun j _ => rfl) (by unfold maxLen; omega) (by omega) hbase
  have hbl : Below base w w' := (Below.refl _ _).grown h3 hbase (fun k hk => (Own.block h k hk).1)
  have hw : Region.wanted o (yielded ops a.tmps) = true := by simp [Region.wanted, hgd]
  rw [if_pos hw]
  unfold Oper.wp execOp
  simp only [ho, hty, resolve, invoke, builtin, Sem.run_bind, Sem.run_pure, Result.andThen_ok, List.map_toArray, List.map_cons, List.map_nil, hs', hy, hrun]
  refine hk v' w' ?_ hbl
  unfold Hw
  rw [List.length_append]
  exact Own.congr h2 fun j hj => hf_app hs x j hj
end Go.Proofs.Ytmpbimechgelfaa
