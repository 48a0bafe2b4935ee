/- awake answers true, and leaves memory below its own blocks as it was. -/
import Derived.Test.YtecehbodemiijaaRefAll
namespace Go.Proofs.Ytecehbodemiijaa
open Go Go.RowKit

theorem join_lit (ai as' bi bs ri rs : Int) (h : jn ⟨ai, as'⟩ ⟨bi, bs⟩ = ⟨ri, rs⟩) (w : World) : Calls Try.prog 13 #[.agg #[.int .i64 ai, .int .i64 as'], .agg #[.int .i64 bi, .int .i64 bs]] w
    fun e w' => e = .returned (.agg #[.int .i64 ri, .int .i64 rs]) ∧ Below w.heap.size w w' := (join_any ⟨ai, as'⟩ ⟨bi, bs⟩ w).mono fun e w' ⟨h1, h2⟩ => ⟨by rw [h1, h]; rfl, h2⟩
theorem speak_lit (ai as' bi bs ri rs : Int) (hf : M.fits ⟨bi, bs⟩) (h : spk ⟨ai, as'⟩ ⟨bi, bs⟩ = ⟨ri, rs⟩) (w : World) : Calls Try.prog 15 #[.agg #[.int .i64 ai, .int .i64 as'], .agg #[.int .i64 bi, .int .i64 bs]] w
    fun e w' => e = .returned (.agg #[.int .i64 ri, .int .i64 rs]) ∧ Below w.heap.size w w' := (speak_any ⟨ai, as'⟩ ⟨bi, bs⟩ w hf).mono fun e w' ⟨h1, h2⟩ => ⟨by rw [h1, h]; rfl, h2⟩
theorem suspect_lit (ai as' ri rs : Int) (h : sus ⟨ai, as'⟩ = ⟨ri, rs⟩) (w : World) : Calls Try.prog 17 #[.agg #[.int .i64 ai, .int .i64 as']] w
    fun e w' => e = .returned (.agg #[.int .i64 ri, .int .i64 rs]) ∧ Below w.heap.size w w' := (suspect_any ⟨ai, as'⟩ w).mono fun e w' ⟨h1, h2⟩ => ⟨by rw [h1, h]; rfl, h2⟩
theorem bury_lit (ai as' ri rs : Int) (h : bur ⟨ai, as'⟩ = ⟨ri, rs⟩) (w : World) : Calls Try.prog 19 #[.agg #[.int .i64 ai, .int .i64 as']] w
    fun e w' => e = .returned (.agg #[.int .i64 ri, .int .i64 rs]) ∧ Below w.heap.size w w' := (bury_any ⟨ai, as'⟩ w).mono fun e w' ⟨h1, h2⟩ => ⟨by rw [h1, h]; rfl, h2⟩
theorem check_lit (ai as' : Int) (r : Int) (h : errIf (may ⟨ai, as'⟩) = r) (w : World) : Calls Try.prog 11 #[.agg #[.int .i64 ai, .int .i64 as']] w
    fun e w' => e = .returned (.int .i64 r) ∧ Below w.heap.size w w' := (check_any ⟨ai, as'⟩ w).mono fun e w' ⟨h1, h2⟩ => ⟨by rw [h1, h], h2⟩

def Two (w : World) (e : Ending) (w' : World) : Prop := ∃ A c, e = .returned (.slice A 2 c) ∧ Below w.heap.size w w'
theorem two_cells (j : Nat) (hj : j < 2 * 2) : (#[Value.int .i64 2, .int .i64 0, .int .i64 1, .int .i64 2] : Array Value)[j]? = some (mc (fun i => if i = 0 then ⟨2, 0⟩ else ⟨1, 2⟩) j) := by
  match j, hj with
  | 0, _ => rfl
  | 1, _ => rfl
  | 2, _ => rfl
  | 3, _ => rfl
theorem all_two (w : World) : Calls Try.prog 22 #[.slice (some ⟨w.heap.size, 0, none⟩) 1 1, .slice (some ⟨w.heap.size + 1, 0, none⟩) 2 2]
    ((w.alloc (.cells #[.int .i64 1, .int .i64 0] 24)).alloc (.cells #[.int .i64 2, .int .i64 0, .int .i64 1, .int .i64 2] 24)) (Two ((w.alloc (.cells #[.int .i64 1, .int .i64 0] 24)).alloc (.cells #[.int .i64 2, .int .i64 0, .int .i64 1, .int .i64 2] 24))) := by
  have h1 : Rd (w.alloc (.cells #[.int .i64 1, .int .i64 0] 24)) (w.heap.size + 1) 2 (some ⟨w.heap.size, 0, none⟩) 1 (mc (fun _ => ⟨1, 0⟩)) := Rd.new (mc_two ⟨1, 0⟩)
  have h2 := Rd.new (w := w.alloc (.cells #[.int .i64 1, .int .i64 0] 24)) (e := 24) (n := 2) (sz := 2) two_cells
  rw [show (w.alloc (.cells #[.int .i64 1, .int .i64 0] 24)).heap.size = w.heap.size + 1 from by simp] at h2
  refine (all_any _ _ 1 1 2 2 _ _ _ ((h1.alloc (by simp) _).more (by simp)) (h2.more (by simp)) (by intro h; cases h) (by intro h; cases h) (by omega) (by omega)).mono ?_
  rintro e w' ⟨v, rfl, ho, hb⟩
  obtain ⟨A, c, rfl, _⟩ := ho.shape
  exact ⟨A, c, rfl, hb⟩
theorem all_two' (w : World) : Calls Try.prog 22 #[.slice (some ⟨w.heap.size + 1, 0, none⟩) 1 1, .slice (some ⟨w.heap.size, 0, none⟩) 2 2]
    ((w.alloc (.cells #[.int .i64 2, .int .i64 0, .int .i64 1, .int .i64 2] 24)).alloc (.cells #[.int .i64 1, .int .i64 0] 24)) (Two ((w.alloc (.cells #[.int .i64 2, .int .i64 0, .int .i64 1, .int .i64 2] 24)).alloc (.cells #[.int .i64 1, .int .i64 0] 24))) := by
  have h2 : Rd (w.alloc (.cells #[.int .i64 2, .int .i64 0, .int .i64 1, .int .i64 2] 24)) (w.heap.size + 1) 2 (some ⟨w.heap.size, 0, none⟩) 2 (mc (fun i => if i = 0 then ⟨2, 0⟩ else ⟨1, 2⟩)) := Rd.new two_cells
  have h1 := Rd.new (w := w.alloc (.cells #[.int .i64 2, .int .i64 0, .int .i64 1, .int .i64 2] 24)) (e := 24) (n := 1) (sz := 2) (mc_two ⟨1, 0⟩)
  rw [show (w.alloc (.cells #[.int .i64 2, .int .i64 0, .int .i64 1, .int .i64 2] 24)).heap.size = w.heap.size + 1 from by simp] at h1
  refine (all_any _ _ 1 1 2 2 _ _ _ (h1.more (by simp)) ((h2.alloc (by simp) _).more (by simp)) (by intro h; cases h) (by intro h; cases h) (by omega) (by omega)).mono ?_
  rintro e w' ⟨v, rfl, ho, hb⟩
  obtain ⟨A, c, rfl, _⟩ := ho.shape
  exact ⟨A, c, rfl, hb⟩

theorem below_two {a w w' : World} {o o' : Obj} (h : Below a.heap.size a w) (k : Below ((w.alloc o).alloc o').heap.size ((w.alloc o).alloc o') w') : Below a.heap.size a w' :=
  below_chain ((h.alloc h.size o).alloc (by have := h.size; simp only [World.size_alloc]; omega) o') k
set_option maxRecDepth 100000 in
set_option maxHeartbeats 4000000 in
theorem awake_any (w : World) : Calls Try.prog 10 #[] w fun e w' => e = .returned (.bool true) ∧ Below w.heap.size w w' := by
  go_enter Try.func10, Try.ntmps10
  go_wp2
  have s0 : ((((w.alloc (Obj.cells #[Value.int IntKind.i64 1, Value.int IntKind.i64 0] 24)).alloc (Obj.cells #[Value.int IntKind.i64 1, Value.int IntKind.i64 1] 24)).alloc (Obj.cells #[Value.int IntKind.i64 1, Value.int IntKind.i64 2] 24)).alloc (Obj.cells #[Value.int IntKind.i64 2, Value.int IntKind.i64 0] 24)).cell? ⟨w.heap.size, 0, none⟩ = some (.int .i64 1) := by go_simp
  have s1 : ((((w.alloc (Obj.cells #[Value.int IntKind.i64 1, Value.int IntKind.i64 0] 24)).alloc (Obj.cells #[Value.int IntKind.i64 1, Value.int IntKind.i64 1] 24)).alloc (Obj.cells #[Value.int IntKind.i64 1, Value.int IntKind.i64 2] 24)).alloc (Obj.cells #[Value.int IntKind.i64 2, Value.int IntKind.i64 0] 24)).cell? ⟨w.heap.size, 1, none⟩ = some (.int .i64 0) := by go_simp
  have s2 : ((((w.alloc (Obj.cells #[Value.int IntKind.i64 1, Value.int IntKind.i64 0] 24)).alloc (Obj.cells #[Value.int IntKind.i64 1, Value.int IntKind.i64 1] 24)).alloc (Obj.cells #[Value.int IntKind.i64 1, Value.int IntKind.i64 2] 24)).alloc (Obj.cells #[Value.int IntKind.i64 2, Value.int IntKind.i64 0] 24)).cell? ⟨w.heap.size + 1, 0, none⟩ = some (.int .i64 1) := by go_simp
  have s3 : ((((w.alloc (Obj.cells #[Value.int IntKind.i64 1, Value.int IntKind.i64 0] 24)).alloc (Obj.cells #[Value.int IntKind.i64 1, Value.int IntKind.i64 1] 24)).alloc (Obj.cells #[Value.int IntKind.i64 1, Value.int IntKind.i64 2] 24)).alloc (Obj.cells #[Value.int IntKind.i64 2, Value.int IntKind.i64 0] 24)).cell? ⟨w.heap.size + 1, 1, none⟩ = some (.int .i64 1) := by go_simp
  have s4 : ((((w.alloc (Obj.cells #[Value.int IntKind.i64 1, Value.int IntKind.i64 0] 24)).alloc (Obj.cells #[Value.int IntKind.i64 1, Value.int IntKind.i64 1] 24)).alloc (Obj.cells #[Value.int IntKind.i64 1, Value.int IntKind.i64 2] 24)).alloc (Obj.cells #[Value.int IntKind.i64 2, Value.int IntKind.i64 0] 24)).cell? ⟨w.heap.size + 1 + 1, 0, none⟩ = some (.int .i64 1) := by go_simp
  have s5 : ((((w.alloc (Obj.cells #[Value.int IntKind.i64 1, Value.int IntKind.i64 0] 24)).alloc (Obj.cells #[Value.int IntKind.i64 1, Value.int IntKind.i64 1] 24)).alloc (Obj.cells #[Value.int IntKind.i64 1, Value.int IntKind.i64 2] 24)).alloc (Obj.cells #[Value.int IntKind.i64 2, Value.int IntKind.i64 0] 24)).cell? ⟨w.heap.size + 1 + 1, 1, none⟩ = some (.int .i64 2) := by go_simp
  have s6 : ((((w.alloc (Obj.cells #[Value.int IntKind.i64 1, Value.int IntKind.i64 0] 24)).alloc (Obj.cells #[Value.int IntKind.i64 1, Value.int IntKind.i64 1] 24)).alloc (Obj.cells #[Value.int IntKind.i64 1, Value.int IntKind.i64 2] 24)).alloc (Obj.cells #[Value.int IntKind.i64 2, Value.int IntKind.i64 0] 24)).cell? ⟨w.heap.size + 1 + 1 + 1, 0, none⟩ = some (.int .i64 2) := by go_simp
  have s7 : ((((w.alloc (Obj.cells #[Value.int IntKind.i64 1, Value.int IntKind.i64 0] 24)).alloc (Obj.cells #[Value.int IntKind.i64 1, Value.int IntKind.i64 1] 24)).alloc (Obj.cells #[Value.int IntKind.i64 1, Value.int IntKind.i64 2] 24)).alloc (Obj.cells #[Value.int IntKind.i64 2, Value.int IntKind.i64 0] 24)).cell? ⟨w.heap.size + 1 + 1 + 1, 1, none⟩ = some (.int .i64 0) := by go_simp
  have hsz : w.heap.size + 4 ≤ ((((w.alloc (Obj.cells #[Value.int IntKind.i64 1, Value.int IntKind.i64 0] 24)).alloc (Obj.cells #[Value.int IntKind.i64 1, Value.int IntKind.i64 1] 24)).alloc (Obj.cells #[Value.int IntKind.i64 1, Value.int IntKind.i64 2] 24)).alloc (Obj.cells #[Value.int IntKind.i64 2, Value.int IntKind.i64 0] 24)).heap.size := by simp
  have hbl : Below w.heap.size w ((((w.alloc (Obj.cells #[Value.int IntKind.i64 1, Value.int IntKind.i64 0] 24)).alloc (Obj.cells #[Value.int IntKind.i64 1, Value.int IntKind.i64 1] 24)).alloc (Obj.cells #[Value.int IntKind.i64 1, Value.int IntKind.i64 2] 24)).alloc (Obj.cells #[Value.int IntKind.i64 2, Value.int IntKind.i64 0] 24)) := (by repeat (first | exact Below.refl _ _ | assumption | refine below_drewN ?_ _ | refine Below.drew ?_ | refine Below.alloc ?_ (by simp; try omega) _ | refine Below.setCell ?_ (by simp; try omega) _))
  generalize ((((w.alloc (Obj.cells #[Value.int IntKind.i64 1, Value.int IntKind.i64 0] 24)).alloc (Obj.cells #[Value.int IntKind.i64 1, Value.int IntKind.i64 1] 24)).alloc (Obj.cells #[Value.int IntKind.i64 1, Value.int IntKind.i64 2] 24)).alloc (Obj.cells #[Value.int IntKind.i64 2, Value.int IntKind.i64 0] 24)) = wy at *
  go_region_held3 (fun w' => w'.cell? ⟨w.heap.size, 0, none⟩ = some (.int .i64 1) ∧ w'.cell? ⟨w.heap.size, 1, none⟩ = some (.int .i64 0) ∧ w'.cell? ⟨w.heap.size + 1, 0, none⟩ = some (.int .i64 1) ∧ w'.cell? ⟨w.heap.size + 1, 1, none⟩ = some (.int .i64 1) ∧ w'.cell? ⟨w.heap.size + 1 + 1, 0, none⟩ = some (.int .i64 1) ∧ w'.cell? ⟨w.heap.size + 1 + 1, 1, none⟩ = some (.int .i64 2) ∧ w'.cell? ⟨w.heap.size + 1 + 1 + 1, 0, none⟩ = some (.int .i64 2) ∧ w'.cell? ⟨w.heap.size + 1 + 1 + 1, 1, none⟩ = some (.int .i64 0))
    (first | go_keep | (go_split_ands; refine ⟨?_, ?_, ?_, ?_, ?_, ?_, ?_, ?_⟩ <;> (rw [hb.cell (by simp; omega)]; assumption)))
    (first | (go_at_call 13; ((with_reducible refine (join_lit 1 0 1 1 1 1 rfl _).mono ?_); rintro e w2 ⟨rfl, hb⟩; have hs := hb.size; (try simp at hs); have hbl : Below w.heap.size w w2 := (by first | exact below_chain hbl hb | exact below_chain hbl.drew hb | exact below_two hbl hb))) | (go_at_call 13; ((with_reducible refine (join_lit 2 0 1 2 2 0 rfl _).mono ?_); rintro e w2 ⟨rfl, hb⟩; have hs := hb.size; (try simp at hs); have hbl : Below w.heap.size w w2 := (by first | exact below_chain hbl hb | exact below_chain hbl.drew hb | exact below_two hbl hb))) | (go_at_call 15; ((with_reducible refine (speak_lit 1 0 1 1 2 0 (by unfold M.fits; decide) rfl _).mono ?_); rintro e w2 ⟨rfl, hb⟩; have hs := hb.size; (try simp at hs); have hbl : Below w.heap.size w w2 := (by first | exact below_chain hbl hb | exact below_chain hbl.drew hb | exact below_two hbl hb))) | (go_at_call 17; ((with_reducible refine (suspect_lit 1 0 1 1 rfl _).mono ?_); rintro e w2 ⟨rfl, hb⟩; have hs := hb.size; (try simp at hs); have hbl : Below w.heap.size w w2 := (by first | exact below_chain hbl hb | exact below_chain hbl.drew hb | exact below_two hbl hb))) | (go_at_call 19; ((with_reducible refine (bury_lit 1 1 1 2 rfl _).mono ?_); rintro e w2 ⟨rfl, hb⟩; have hs := hb.size; (try simp at hs); have hbl : Below w.heap.size w w2 := (by first | exact below_chain hbl hb | exact below_chain hbl.drew hb | exact below_two hbl hb))) | (go_at_call 19; ((with_reducible refine (bury_lit 1 0 1 0 rfl _).mono ?_); rintro e w2 ⟨rfl, hb⟩; have hs := hb.size; (try simp at hs); have hbl : Below w.heap.size w w2 := (by first | exact below_chain hbl hb | exact below_chain hbl.drew hb | exact below_two hbl hb))) | (go_at_call 11; ((with_reducible refine (check_lit 1 2 0 rfl _).mono ?_); rintro e w2 ⟨rfl, hb⟩; have hs := hb.size; (try simp at hs); have hbl : Below w.heap.size w w2 := (by first | exact below_chain hbl hb | exact below_chain hbl.drew hb | exact below_two hbl hb))) | (go_at_call 11; ((with_reducible refine (check_lit 0 3 1 rfl _).mono ?_); rintro e w2 ⟨rfl, hb⟩; have hs := hb.size; (try simp at hs); have hbl : Below w.heap.size w w2 := (by first | exact below_chain hbl hb | exact below_chain hbl.drew hb | exact below_two hbl hb))) | (go_at_call 22; ((with_reducible refine (all_two _).mono ?_); rintro e w2 ⟨A, c, rfl, hb⟩; have hs := hb.size; (try simp at hs); have hbl : Below w.heap.size w w2 := (by first | exact below_chain hbl hb | exact below_chain hbl.drew hb | exact below_two hbl hb))) | (go_at_call 22; ((with_reducible refine (all_two' _).mono ?_); rintro e w2 ⟨A, c, rfl, hb⟩; have hs := hb.size; (try simp at hs); have hbl : Below w.heap.size w w2 := (by first | exact below_chain hbl hb | exact below_chain hbl.drew hb | exact below_two hbl hb))))
  all_goals
    go_wp2
    go_ret
    exact ⟨rfl, hbl⟩
end Go.Proofs.Ytecehbodemiijaa
