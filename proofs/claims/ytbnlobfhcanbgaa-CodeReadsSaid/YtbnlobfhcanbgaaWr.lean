/- A writer in memory: one cell, that holds bytes of the call's own. -/
import Derived.Test.YtbnlobfhcanbgaaEnc
namespace Go.Proofs.Ytbnlobfhcanbgaa
open Go Go.RowKit

/-- The writer at block p holds the slice v of the bytes l; both are the call's own (blocks from base on). -/
structure Wr (w : World) (base p : Nat) (v : Value) (l : List Nat) : Prop where
  blk : w.heap[p]? = some (.cells #[v] 48 (0, 0))
  low : base ≤ p
  own : Ob w base v l
section
variable {w w' : World} {base p : Nat} {v : Value} {l m : List Nat}
theorem Wr.cell (h : Wr w base p v l) : w.cell? ⟨p, 0, none⟩ = some v := cell_of_one h.blk
theorem Wr.free (h : Wr w base p v l) : w.frozen? ⟨p, 0, none⟩ = false := free_of_one h.blk
theorem Wr.lt (h : Wr w base p v l) : p < w.heap.size := lt_of_block h.blk
theorem Wr.ne (h : Wr w base p v l) : v.ownBlock ≠ some p := by
  rcases h.own.2 with ⟨rfl, _⟩ | ⟨g, cap, cur, rfl, _, hh, _⟩
  · simp [Value.ownBlock]
  · intro he
    have : g = p := by simpa [Value.ownBlock] using he
    subst this
    have := hh.symm.trans h.blk
    simp at this
theorem Wr.new {w : World} : Wr (w.alloc (.cells #[.slice none 0 0] 48)) w.heap.size w.heap.size (.slice none 0 0) [] :=
  ⟨heap_alloc_new w _, Nat.le_refl _, Ob.nil⟩
theorem Wr.drew (h : Wr w base p v l) : Wr w.drew base p v l := ⟨h.blk, h.low, h.own⟩
theorem Wr.alloc (h : Wr w base p v l) (o : Obj) : Wr (w.alloc o) base p v l := ⟨(Below.heap_alloc w o p h.lt).trans h.blk, h.low, Own.alloc h.own o⟩
theorem Wr.below (h : Wr w base p v l) (hb : Below w.heap.size w w') : Wr w' base p v l := ⟨(hb.block p h.lt).trans h.blk, h.low, Own.below h.own hb⟩
/-- Behind 'w.b = append(w.b, m...)'. -/
theorem Wr.put {v' : Value} {l' : List Nat} (h : Wr w base p v l) (ho : Ob w' base v' l') (hg : w.grownBy w' v.ownBlock) (ha : v'.ownBlock = v.ownBlock ∨ v'.ownBlock = some w.heap.size) :
    Wr (w'.setCell ⟨p, 0, none⟩ v') base p v' l' := by
  have hp : w'.heap[p]? = some (.cells #[v] 48 (0, 0)) := (hg.block p h.lt (fun e => h.ne e.symm)).trans h.blk
  refine ⟨one_setCell hp, h.low, ?_⟩
  refine Own.far ho ?_ v'
  rcases ha with e | e
  · rw [e]; exact h.ne
  · rw [e]; intro e2; have := h.lt; injection e2 with e2; simp at e2; omega
theorem Wr.held (h : Wr w base p v l) (hg : w.grownBy w' v.ownBlock) : w'.cell? ⟨p, 0, none⟩ = some v ∧ w'.frozen? ⟨p, 0, none⟩ = false := by
  have hp : w'.heap[p]? = some (.cells #[v] 48 (0, 0)) := (hg.block p h.lt (fun e => h.ne e.symm)).trans h.blk
  exact ⟨cell_of_one hp, free_of_one hp⟩
theorem Wr.frame {a : World} {v' : Value} (h : Wr w base p v l) (hb : Below base a w) (hg : w.grownBy w' v.ownBlock) : Below base a (w'.setCell ⟨p, 0, none⟩ v') :=
  (hb.grown hg (by have := h.lt; have := h.low; omega) (fun k hk => (Own.block h.own k hk).1)).setCell h.low _
end
theorem one_bf (x : Nat) (j : Nat) (hj : j < 1 * 1) : (#[Value.int .u8 ((x : Nat) : Int)] : Array Value)[j]? = some (bf [x] j) := by
  match j, hj with
  | 0, _ => rfl
end Go.Proofs.Ytbnlobfhcanbgaa
