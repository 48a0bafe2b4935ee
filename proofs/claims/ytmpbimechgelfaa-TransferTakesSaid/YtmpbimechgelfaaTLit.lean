/- What the head of Transfer's laws reckons. -/
import Derived.Test.YtmpbimechgelfaaBuild
import Derived.Test.YtmpbimechgelfaaFind
import Derived.Test.YtmpbimechgelfaaPick
namespace Go.Proofs.Ytmpbimechgelfaa
open Go Go.RowKit

theorem bo_lit (w : World) (l : List Bool) (C : Array Value) (hC : C = (l.map Value.bool).toArray) : Bo (w.alloc (.cells C 4)) (w.alloc (.cells C 4)).heap.size (some ⟨w.heap.size, 0, none⟩) l := fun _ =>
  ⟨w.heap.size, 0, rfl, by simp, fun j hj => by
    have hj' : j < l.length := by omega
    rw [Nat.zero_add, cell_of_row _ _ _ _ _ _ (heap_alloc_new w _), hC, List.getElem?_toArray, List.getElem?_map, List.getElem?_eq_getElem hj']
    unfold bb
    rw [List.getElem?_eq_getElem hj']; rfl⟩
theorem pb_one {w : World} {t : TypeId} {A : Option Addr} {l : List Bool} {c : Nat} (h : Bo w w.heap.size A l) (hl : l.length ≤ maxLen) :
    Pb (w.alloc (.cells #[.slice A l.length c] t)) (w.alloc (.cells #[.slice A l.length c] t)).heap.size (some ⟨w.heap.size, 0, none⟩) [.slice A l.length c] [l] where
  len := rfl
  rd := fun _ => ⟨w.heap.size, 0, rfl, by simp, fun j hj => by
    obtain rfl : j = 0 := by simp at hj; omega
    exact cell_of_one (heap_alloc_new w _)⟩
  ok := fun j v m hv hm => by
    match j with
    | 0 => simp at hv hm; subst hv hm; exact ⟨A, c, rfl, h.next ((Below.refl _ _).alloc (Nat.le_refl _) _), hl⟩
    | j + 1 => simp at hv
theorem bs_lit {W : World} {g : Nat} (l : List Nat) {C : Array Value} {fr : Nat × Nat} (hg : W.heap[g]? = some (.cells C 5 fr)) (hC : C = (l.map fun (x : Nat) => Value.int .u8 (x : Int)).toArray) : Bs W W.heap.size (some ⟨g, 0, none⟩) l := fun _ =>
  ⟨g, 0, rfl, (Array.getElem?_eq_some_iff.1 hg).1, fun j hj => by
    have hj' : j < l.length := by omega
    rw [Nat.zero_add, cell_of_row _ _ _ _ _ _ hg, hC, List.getElem?_toArray, List.getElem?_map, List.getElem?_eq_getElem hj']
    unfold bf
    rw [List.getElem?_eq_getElem hj']; rfl⟩
theorem ev_pick1 : pickF [true, false, false] [[false, false, true]] 0 = some (2, 0) := by decide +kernel
theorem ev_pick2 : pickF [true, true] [[true, true]] 0 = none := by decide +kernel
/-- 'abcdef'. -/
def abc6 : List Nat := [97, 98, 99, 100, 101, 102]
/-- Its chunks' digests. -/
def hs6 : List (Nat → Nat) := bldHs abc6 4 2
theorem hs6_len : hs6.length = 2 := bldHs_len _ _ _
theorem ev_n : chN 6 4 = 2 := by decide +kernel
theorem ev_t1 : verI 6 4 hs6 1 [101, 102] = 0 := by
  unfold verI
  rw [hs6_len, show partB 6 4 2 1 = true from by decide +kernel, show toI 6 4 2 1 = 6 from by decide +kernel, show fromI 6 4 2 1 = 4 from by decide +kernel, show (hs6[(1 : Int).toNat]?.getD fun _ => 0) = digH 1 [101, 102] from rfl]
  rw [show (1 : Int).toNat = 1 from rfl, eqh_self]
  rfl
theorem ev_t2 : verI 6 4 hs6 0 [101, 102] = 51 := by
  unfold verI
  rw [hs6_len, show partB 6 4 2 0 = true from by decide +kernel, show toI 6 4 2 0 = 4 from by decide +kernel, show fromI 6 4 2 0 = 0 from by decide +kernel]
  rfl
theorem ev_f0 : verI 6 4 hs6 0 [97, 98, 99, 100] = 0 := by
  unfold verI
  rw [hs6_len, show partB 6 4 2 0 = true from by decide +kernel, show toI 6 4 2 0 = 4 from by decide +kernel, show fromI 6 4 2 0 = 0 from by decide +kernel, show (hs6[(0 : Int).toNat]?.getD fun _ => 0) = digH 0 [97, 98, 99, 100] from rfl]
  rw [show (0 : Int).toNat = 0 from rfl, eqh_self]
  rfl
theorem ev_f1 : verI 6 4 hs6 1 [] = 51 := by
  unfold verI
  rw [hs6_len, show partB 6 4 2 1 = true from by decide +kernel, show toI 6 4 2 1 = 6 from by decide +kernel, show fromI 6 4 2 1 = 4 from by decide +kernel]
  rfl
theorem ev_find : findL 6 4 hs6 [97, 98, 99, 100] = [true, false] := by
  unfold findL fndL
  rw [hs6_len, show chkB 6 4 2 = true from by decide +kernel]
  show [decide (verI 6 4 hs6 ((0 : Nat) : Int) (fchunk 6 4 2 0 [97, 98, 99, 100]) = 0), decide (verI 6 4 hs6 ((1 : Nat) : Int) (fchunk 6 4 2 1 [97, 98, 99, 100]) = 0)] = _
  rw [show fchunk 6 4 2 0 [97, 98, 99, 100] = [97, 98, 99, 100] from by decide +kernel, show fchunk 6 4 2 1 [97, 98, 99, 100] = [] from by decide +kernel]
  rw [show ((0 : Nat) : Int) = 0 from rfl, show ((1 : Nat) : Int) = 1 from rfl, ev_f0, ev_f1]
  rfl
/-- What stands behind a piece of code is shown once, ahead of it. -/
theorem with_any {T : Type} {P : Program} {code : Code} {a : Act} {w : World} {Q : Exit → Act → World → Prop} (F : T → Act) (Fa : T → World → Prop) (hend : ∀ x W, Fa x W → Q .normal (F x) W)
    (h : (∀ x W, Fa x W → Q .normal (F x) W) → Code.wp P code Q a w) : Code.wp P code Q a w := h hend
/-- The manifest of 'abcdef' in fours. -/
def M6 (W : World) (M : Array Value) : Prop := ∃ A c, M = mcv 6 4 (.slice A 2 c) (sumH abc6) ∧ Hs W W.heap.size A hs6
theorem M6.next {w w' : World} {M : Array Value} (h : M6 w M) (hb : Below w.heap.size w w') : M6 w' M := by
  obtain ⟨A, c, e, hh⟩ := h
  exact ⟨A, c, e, hh.next hb⟩
theorem M6.size {w : World} {M : Array Value} (h : M6 w M) : (Try.prog.info? 35).map (·.size) = some M.size := by
  obtain ⟨A, c, rfl, hh⟩ := h
  exact size_mcv
theorem M6.size0 {w : World} {M : Array Value} (h : M6 w M) : mc0.size = M.size := by
  obtain ⟨A, c, rfl, hh⟩ := h
  rw [mcv_size, mc0_size]
theorem M6.all {w : World} {M : Array Value} (h : M6 w M) : M.all (·.oneCell') = true := by
  obtain ⟨A, c, rfl, hh⟩ := h
  exact mcv_all _ _ _ _ _ _
theorem byt_lit {l : List Nat} (h : l.all (· < 256) = true) : Byt l := fun x hx => by
  have := List.all_eq_true.1 h x hx
  simpa using this
def Build6 (w : World) (e : Ending) (w' : World) : Prop := ∃ M, e = .returned (.tuple #[.agg M, .int .i64 0]) ∧ M6 w' M ∧ Below w.heap.size w w'
theorem build6 (A : Option Addr) (c : Nat) (w : World) (h : Bs w w.heap.size A abc6) (hc : 6 ≤ c) : Calls Try.prog 20 #[.slice A 6 c, .int .i64 4] w (Build6 w) := by
  refine (build_any A c abc6 4 w h hc (byt_lit (by decide))).mono ?_
  rintro e w' ⟨hb, ⟨h0, -⟩ | ⟨-, A', c', rfl, hh, -, -⟩⟩
  · exact absurd h0 (by decide +kernel)
  · have e1 : chN ((abc6.length : Nat) : Int) 4 = 2 := ev_n
    rw [e1] at hh ⊢
    exact ⟨_, rfl, ⟨A', c', rfl, hh⟩, hb⟩
theorem take6a {M : Array Value} (A3 A2 : Option Addr) (c3 c2 : Nat) (w : World) (hm : M6 w M) (h3 : Bo w w.heap.size A3 [false, false]) (h3n : A3 ≠ none) (h : Bs w w.heap.size A2 [101, 102]) :
    Calls Try.prog 21 #[.agg M, .slice A3 2 c3, .int .i64 1, .slice A2 2 c2] w (TakeEnd w.heap.size 0 [false, true] w) := by
  obtain ⟨A, c, rfl, hh⟩ := hm
  have h1 := take_any 6 4 A c hs6 (sumH abc6) A3 c3 [false, false] 1 A2 c2 [101, 102] w hh h3 (fun e => absurd e h3n) (by simp) h (byt_lit (by decide))
  rw [ev_t1, hs6_len] at h1
  exact h1
theorem take6b {M : Array Value} (A3 A2 : Option Addr) (c3 c2 : Nat) (w : World) (hm : M6 w M) (h3 : Bo w w.heap.size A3 [false, true]) (h3n : A3 ≠ none) (h : Bs w w.heap.size A2 [101, 102]) :
    Calls Try.prog 21 #[.agg M, .slice A3 2 c3, .int .i64 0, .slice A2 2 c2] w (TakeEnd w.heap.size 51 [false, true] w) := by
  obtain ⟨A, c, rfl, hh⟩ := hm
  have h1 := take_any 6 4 A c hs6 (sumH abc6) A3 c3 [false, true] 0 A2 c2 [101, 102] w hh h3 (fun e => absurd e h3n) (by simp) h (byt_lit (by decide))
  rw [ev_t2, hs6_len] at h1
  exact h1
theorem find6 {M : Array Value} (A2 : Option Addr) (c2 : Nat) (w : World) (hm : M6 w M) (h : Bs w w.heap.size A2 [97, 98, 99, 100]) (hc : 4 ≤ c2) :
    Calls Try.prog 24 #[.agg M, .slice A2 4 c2] w (OlEnd w.heap.size [true, false] w) := by
  obtain ⟨A, c, rfl, hh⟩ := hm
  have h1 := find_any 6 4 A c hs6 (sumH abc6) A2 c2 [97, 98, 99, 100] w hh h hc (byt_lit (by decide))
  rw [ev_find] at h1
  exact h1
theorem none6 {M : Array Value} (w : World) (hm : M6 w M) : Calls Try.prog 26 #[.agg M] w (OlEnd w.heap.size [false, false] w) := by
  obtain ⟨A, c, rfl, hh⟩ := hm
  exact none_any 6 4 A 2 c (sumH abc6) w (by omega)
/-- A literal's bytes are converted to themselves: a mark, and nothing else. -/
theorem conv_lit (W : World) (g : Nat) (C : Array Value) (n c : Nat) (hg : W.heap[g]? = some (.cells C 5 (0, 0))) :
    (convert 31 31 (.slice (some ⟨g, 0, none⟩) n c)).run Try.prog W = .ok (.slice (some ⟨g, 0, none⟩) n c) (W.freeze ⟨g, C.size, none⟩ 1) := by
  have hsh : W.shape? g = some (5, C.size) := by unfold World.shape?; rw [hg]
  simp [convert, run_underlying Try.underlying31, run_underlying Try.underlying5, markStringish, hsh]
theorem freeze_block {W : World} {g : Nat} {C : Array Value} {t : TypeId} (k : Nat) (hg : W.heap[g]? = some (.cells C t (0, 0))) : (W.freeze ⟨g, k, none⟩ 1).heap[g]? = some (.cells C t (k, k + 1)) := by
  unfold World.freeze
  rw [if_neg (by decide)]
  show (W.heap.modify g _)[g]? = _
  rw [Array.getElem?_modify, if_pos rfl, hg]
  rfl
theorem freeze_below {W : World} {B g : Nat} (k : Nat) (hB : B ≤ g) : Below B W (W.freeze ⟨g, k, none⟩ 1) := by
  unfold World.freeze
  rw [if_neg (by decide)]
  refine ⟨rfl, rfl, rfl, by simp, fun b hb => ?_⟩
  simp only [Array.getElem?_modify]
  rw [if_neg (by omega)]
theorem cell_freeze (W : World) (a p : Addr) (n : Nat) : (W.freeze a n).cell? p = W.cell? p := by
  unfold World.freeze
  by_cases hn : n = 0
  · rw [if_pos hn]
  · rw [if_neg hn]
    unfold World.cell?
    simp only [Array.getElem?_modify]
    by_cases h : a.block = p.block
    · rw [if_pos h]
      cases hh : W.heap[p.block]? with
      | none => rfl
      | some o => cases o <;> rfl
    · rw [if_neg h]
theorem size_freeze (W : World) (a : Addr) (n : Nat) : (W.freeze a n).heap.size = W.heap.size := by
  unfold World.freeze
  by_cases hn : n = 0
  · rw [if_pos hn]
  · rw [if_neg hn]; simp
theorem bo_freeze {W : World} {A : Option Addr} {l : List Bool} (a : Addr) (n : Nat) (h : Bo W W.heap.size A l) : Bo (W.freeze a n) (W.freeze a n).heap.size A l := by
  rw [size_freeze]
  exact Rd.keep h fun b off _ => cell_freeze W a _ n
/-- A conversion of a literal's bytes to themselves. -/
theorem wp_conv {o : Oper} {a : Act} {w : World} {K : Act → World → Prop} {Q : Exit → Act → World → Prop} (x : Operand) (ho : o.op = .convert 31 31 x) (g : Nat) (C : Array Value) (n c : Nat) (hg : w.heap[g]? = some (.cells C 5 (0, 0))) (hx : a.eval x = .slice (some ⟨g, 0, none⟩) n c)
    (h : K (a.put o.dst (.slice (some ⟨g, 0, none⟩) n c)) (w.freeze ⟨g, C.size, none⟩ 1)) : o.wp Try.prog a w K Q := by
  unfold Oper.wp execOp
  simp only [ho, hx, conv_lit w g C n c hg, Sem.run_bind, Sem.run_pure, Result.andThen_ok]
  exact h
theorem mbox_made {w1 W : World} {C : Array Value} (h : W = (w1.alloc (.cells mc0 35)).setRow w1.heap.size C) : W.heap[w1.heap.size]? = some (.cells C 35 (0, 0)) ∧ Below w1.heap.size w1 W := by
  rw [h]
  exact ⟨setRow_heap _ _ _ _ _ _ (heap_alloc_new w1 _), below_setRow ((Below.refl _ _).alloc (Nat.le_refl _) _) (Nat.le_refl _) C⟩
/-- Two Booleans come back. -/
def Sl2 (l : List Bool) (w : World) (e : Ending) (w' : World) : Prop := ∃ g c, e = .returned (.slice (some ⟨g, 0, none⟩) 2 c) ∧ Bo w' w'.heap.size (some ⟨g, 0, none⟩) l ∧ Below w.heap.size w w'
def Tk2 (E : Int) (l : List Bool) (w : World) (e : Ending) (w' : World) : Prop := ∃ g c, e = .returned (.tuple #[.slice (some ⟨g, 0, none⟩) 2 c, .int .i64 E]) ∧ Bo w' w'.heap.size (some ⟨g, 0, none⟩) l ∧ Below w.heap.size w w'
theorem sl2_of {l : List Bool} (hl : l.length = 2) {w w' : World} {e : Ending} {b : Nat} (h : OlEnd b l w e w') : Sl2 l w e w' := by
  obtain ⟨v, rfl, ho, hb⟩ := h
  obtain ⟨g, c, rfl, -⟩ := Own.form ho (by omega)
  rw [hl] at ho ⊢
  exact ⟨g, c, rfl, by have := Own.rd (n := 2) (by rw [← hl] at ho ⊢; exact ho); rw [← hl] at this; exact this, hb⟩
theorem tk2_of {l : List Bool} (hl : l.length = 2) {w w' : World} {e : Ending} {b : Nat} {E : Int} (h : TakeEnd b E l w e w') : Tk2 E l w e w' := by
  obtain ⟨v, rfl, ho, hb⟩ := h
  obtain ⟨g, c, rfl, -⟩ := Own.form ho (by omega)
  rw [hl] at ho ⊢
  exact ⟨g, c, rfl, by have := Own.rd (n := 2) (by rw [← hl] at ho ⊢; exact ho); rw [← hl] at this; exact this, hb⟩
end Go.Proofs.Ytmpbimechgelfaa
