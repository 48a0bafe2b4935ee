/- transfer.None, slices.Clone of Booleans, transfer.Take. -/
import Derived.Test.YtmpbimechgelfaaVer
import Derived.OwnWalk
import Derived.Lib.SliceRun
namespace Go.Proofs.Ytmpbimechgelfaa
open Go Go.RowKit

theorem info_bool : (Try.prog.info? 4).map (fun i => (i.zero, i.size, i.bytes)) = some (some (.bool false), 1, 1) := by kernel_rfl
theorem bb_app (l m : List Bool) (j : Nat) (_hj : j < (l.length + m.length) * 1) : (if j < l.length * 1 then bb l j else bb m (j - l.length * 1)) = bb (l ++ m) j := by
  unfold bb
  rw [List.getElem?_append]
  by_cases h : j < l.length
  · rw [if_pos (by omega), if_pos h]
  · rw [if_neg (by omega), if_neg h, Nat.mul_one]
section
variable {w w' : World} {base : Nat} {v : Value} {l : List Bool}
theorem Ol.nil : Ol w base (.slice none 0 0) [] := Own.nil
theorem Ol.next (h : Ol w base v l) (hb : Below w.heap.size w w') : Ol w' base v l := Own.below h hb
theorem Ol.mono {b' : Nat} (h : Ol w base v l) (hb : b' ≤ base) : Ol w b' v l := Own.mono h hb
theorem Ol.rd (h : Ol w base v l) : ∃ A c, v = .slice A l.length c ∧ Bo w w.heap.size A l ∧ l.length ≤ c ∧ c ≤ maxLen ∧ (A = none → l.length = 0 ∧ c = 0) := by
  obtain ⟨A, c, rfl, h1, h2, h3⟩ := Own.shape h
  exact ⟨A, c, rfl, Own.rd h, h1, h2, h3⟩
theorem Ol.empty (w : World) {base : Nat} (hb : base ≤ w.heap.size) : Ol (w.alloc (.cells #[] 4)) base (.slice (some ⟨w.heap.size, 0, none⟩) 0 0) [] := by
  have h := Own.made (base := base) (e := 4) (sz := 1) (f := bb []) w #[] 0 hb (by unfold maxLen; omega) rfl
  exact h
end
/-- 'append(v, l...)' of Booleans, at a plain region. -/
theorem wpl_ol {w : World} {ops : Array Oper} {rest : List Oper} {o : Oper} {a : Act} {Q : Exit → Act → World → Prop} (hgd : o.guard = none) (s y : Operand)
    (ho : o.op = .call { callee := .builtin .append, args := #[s, y], argTypes := #[22, 22] }) (hty : o.type = 22) {base B : Nat} {v : Value} {l m : List Bool} (h : Ol w base v l) (A : Option Addr) (n c : Nat) (hn : n = m.length)
    (hs : a.eval s = v) (hy : a.eval y = .slice A n c) (hr : Bo w B A m) (hc : A = none → c = 0) (hlen : l.length + m.length ≤ 2000000) (hbase : base ≤ w.heap.size)
    (hk : ∀ v' w', Ol w' base v' (l ++ m) → Below base w w' → wpList Try.prog ops Q rest (a.put o.dst v') w') : wpList Try.prog ops Q (o :: rest) a w := by
  obtain ⟨i0, hi0, hz0, hz1, hz2⟩ := info_parts info_bool
  subst hn
  obtain ⟨v', w', hrun, h2, h3, _⟩ := run_app (P := Try.prog) w base 22 22 4 i0 _ 1 1 Try.underlying22 hi0 hz0 hz1 hz2 rfl (by omega) v l.length (bb l) h B A m.length c (bb m) hr hc (fun j _ => rfl) (by unfold maxLen; omega) (by omega) hbase
  have hbl : Below base w w' := (Below.refl _ _).grown h3 hbase (fun k hk => (Own.block h k hk).1)
  refine wpList_plain hgd fun K hK => ?_
  unfold Oper.wp execOp
  simp only [ho, hty, resolve, invoke, builtin, Sem.run_bind, Sem.run_pure, Result.andThen_ok, List.map_toArray, List.map_cons, List.map_nil, hs, hy, hrun]
  refine hK _ _ (hk v' w' ?_ hbl)
  unfold Ol
  rw [List.length_append]
  exact Own.congr h2 fun j hj => bb_app l m j hj
/-- A slice of Booleans comes back that is the call's own. -/
def OlEnd (base : Nat) (l : List Bool) (w : World) (e : Ending) (w' : World) : Prop := ∃ v, e = .returned v ∧ Ol w' base v l ∧ Below w.heap.size w w'
set_option maxRecDepth 100000 in
theorem clone_any (l : List Bool) (A : Option Addr) (c : Nat) (w : World) (h : Bo w w.heap.size A l) (hnn : A = none → l.length = 0) (hl : l.length ≤ 1000) :
    Calls Try.prog 47 #[.slice A l.length c] w (OlEnd w.heap.size l w) := by
  have HH := Lib.hid h
  have HL := Lib.hid hl
  obtain ⟨n, hn⟩ : ∃ n, n = l.length := ⟨_, rfl⟩
  rw [← hn]
  rw [← hn] at hnn
  have HN := Lib.hid hn
  clear h hn hl
  rcases A with _ | ad
  · have hn0 := hnn rfl
    have HF := Lib.hid (show OlEnd w.heap.size l w (.returned (.slice none 0 0)) w from ⟨_, rfl, by rw [show l = [] from List.eq_nil_of_length_eq_zero (by rw [← HN.out]; exact hn0)]; exact Ol.nil, Below.refl _ _⟩)
    have heq : ∀ W : World, (binOp .eql 22 (.slice none n c) (.slice none 0 0)).run Try.prog W = .ok (.bool true) W := fun W => Lib.run_eql_slice_nil W _ _ none n c 0 0 Try.underlying22
    clear hnn hn0
    go_enter Try.func47, Try.ntmps47
    go_wp2_with fail
    go_ret
    exact HF.out
  · clear hnn
    have heq : ∀ W : World, (binOp .eql 22 (.slice (some ad) n c) (.slice none 0 0)).run Try.prog W = .ok (.bool false) W := fun W => Lib.run_eql_slice_nil W _ _ (some ad) n c 0 0 Try.underlying22
    have HE := Lib.hid (Ol.empty w (Nat.le_refl _))
    go_enter Try.func47, Try.ntmps47
    go_wp2_with (at_builtin; refine wpl_ol rfl (.tmp 5) (.tmp 6) rfl rfl HE.out (some ad) n c HN.out rfl rfl (HH.out.next ((by repeat (first | exact Below.refl _ _ | assumption | refine below_drewN ?_ _ | refine Below.drew ?_ | refine Below.alloc ?_ (by simp; try omega) _ | refine Below.setCell ?_ (by simp; try omega) _)))) (by intro e; cases e) (by have := HL.out; simp; omega) (by simp) ?_; intro v1 w1 h1 hb1; have H1 := Lib.hid h1; have HB1 := Lib.hid hb1; clear h1 hb1)
    go_ret
    exact ⟨_, rfl, H1.out, ((Below.refl _ _).alloc (Nat.le_refl _) _).trans HB1.out⟩
theorem bb_set (l : List Bool) (k : Nat) (x : Bool) (j : Nat) (hj : j < l.length * 1) : (if j = k then Value.bool x else bb l j) = bb (l.set k x) j := by
  unfold bb
  rw [List.getElem?_set]
  by_cases e : j = k
  · subst e; rw [if_pos rfl, if_pos rfl, if_pos (by omega)]; rfl
  · rw [if_neg e, if_neg (fun h => e h.symm)]
theorem Ol.set {w : World} {base g n cap : Nat} {l : List Bool} (h : Ol w base (.slice (some ⟨g, 0, none⟩) n cap) l) (hn : n = l.length) (k : Nat) (x : Bool) :
    Ol (w.setCell ⟨g, k, none⟩ (.bool x)) base (.slice (some ⟨g, 0, none⟩) n cap) (l.set k x) := by
  subst hn
  have h2 := (Own.set h k (.bool x)).1
  unfold Ol
  rw [List.length_set]
  exact Own.congr h2 fun j hj => bb_set l k x j hj
theorem bb_rep (n j : Nat) : bb (List.replicate n false) j = .bool false := by
  unfold bb
  rw [List.getElem?_replicate]
  split <;> rfl
set_option maxRecDepth 100000 in
theorem none_any (s k : Int) (A : Option Addr) (n c : Nat) (f : Nat → Nat) (w : World) (hn : n ≤ 1000) :
    Calls Try.prog 26 #[.agg (mcv s k (.slice A n c) f)] w (OlEnd w.heap.size (List.replicate n false) w) := by
  obtain ⟨M, hM⟩ : ∃ M, M = mcv s k (.slice A n c) f := ⟨_, rfl⟩
  rw [← hM]
  obtain ⟨W0, hW0⟩ : ∃ W0, W0 = w.alloc (.cells M 35) := ⟨_, rfl⟩
  have HB0 := Lib.hid (show Below w.heap.size w W0 from by rw [hW0]; exact (by repeat (first | exact Below.refl _ _ | assumption | refine below_drewN ?_ _ | refine Below.drew ?_ | refine Below.alloc ?_ (by simp; try omega) _ | refine Below.setCell ?_ (by simp; try omega) _)))
  have hmb : MB W0 w.heap.size s k (.slice A n c) f := by rw [hW0, hM]; exact heap_alloc_new w _
  have c2 := hmb.c2
  have HW0 := Lib.hid hW0
  have HN := Lib.hid hn
  have hnI : (0 : Int) ≤ (n : Int) := by omega
  clear hM hW0 hmb hn
  obtain ⟨i0, hi0, hz0, hz1, hz2⟩ := info_parts info_bool
  have HI0 := Lib.hid hi0
  have HZ0 := Lib.hid hz0
  have HZ1 := Lib.hid hz1
  have HZ2 := Lib.hid hz2
  clear hi0 hz0 hz1 hz2
  go_enter Try.func26, Try.ntmps26
  go_upto_region 1 with (fail)
  change Code.wp _ _ _ _ (w.alloc (.cells M 35))
  rw [← HW0.out]
  refine wp_region_list ?_
  repeat (first
    | (refine wpList_make_full _ (by rfl) (.tmp 5) (.tmp 5) 22 (by rfl) w.heap.size 4 i0 _ 1 Try.underlying22 HI0.out HZ0.out HZ1.out .i64 .i64 (n : Int) (n : Int) n (by rfl) (by rfl) rfl rfl (by rw [HZ2.out]; have := HN.out; omega) (by have := HN.out; unfold maxLen; omega) HB0.out.size ?_; intro w1 h1 hg1)
    | go_values | go_skip | go_guarded | go_step | go_upon)
  have H1 := Lib.hid (show Ol w1 w.heap.size (.slice (some ⟨W0.heap.size, 0, none⟩) n n) (List.replicate n false) from by
    unfold Ol Own
    rw [List.length_replicate]
    refine cast ?_ h1
    congr 1
    rw [show (Value.bool false).cells = #[.bool false] from rfl, toList_madeCells_one]
    refine List.ext_getElem? fun i => ?_
    rw [List.getElem?_replicate, List.getElem?_map]
    by_cases hi : i < n * 1
    · rw [if_pos hi, List.getElem?_range hi]; exact congrArg some (bb_rep n i).symm
    · rw [if_neg hi, List.getElem?_eq_none (by simp; omega)]; rfl)
  have HB1 := Lib.hid (show Below w.heap.size w w1 from HB0.out.grown hg1 HB0.out.size (by intro k hk; cases hk))
  clear h1 hg1
  go_wp2_with fail
  go_ret
  exact ⟨_, rfl, H1.out, HB1.out⟩
end Go.Proofs.Ytmpbimechgelfaa
