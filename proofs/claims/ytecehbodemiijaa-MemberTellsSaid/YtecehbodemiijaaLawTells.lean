/- MemberTells holds: what two know of one, and what one becomes, are what the document says. Conditions: none. -/
import Derived.Test.YtecehbodemiijaaRaw
namespace Go.Proofs.Ytecehbodemiijaa
open Go.ChangeShapes Go.WideShapes Go.ChangeAt Go.RowKit Go.Joins Go.Deep

set_option maxRecDepth 100000 in
set_option maxHeartbeats 2000000 in
theorem memberTells_walk (w : World) (a : M) (_fa : a.fits) (b : M) (fb : b.fits) : Calls Try.prog 4 #[a.v, b.v] w fun e w' => e = .returned (.bool true) ∧ Below w.heap.size w w' := by
  simp only [M.v]
  have FB := Lib.hid fb
  clear fb
  go_enter Try.func4, Try.ntmps4
  go_wp2_with (go_at_call 10; refine (awake_any _).mono ?_; rintro e w1 ⟨rfl, hb1⟩)
  have s0 : w1.cell? ⟨w.heap.size, 0, none⟩ = some (.int .i64 a.inc) := by rw [hb1.cell (by simp; try omega)]; go_simp
  have s1 : w1.cell? ⟨w.heap.size, 1, none⟩ = some (.int .i64 a.st) := by rw [hb1.cell (by simp; try omega)]; go_simp
  have s2 : w1.cell? ⟨w.heap.size + 1, 0, none⟩ = some (.int .i64 b.inc) := by rw [hb1.cell (by simp; try omega)]; go_simp
  have s3 : w1.cell? ⟨w.heap.size + 1, 1, none⟩ = some (.int .i64 b.st) := by rw [hb1.cell (by simp; try omega)]; go_simp
  have hsz : w.heap.size + 2 ≤ w1.heap.size := by have := hb1.size; simp at this; omega
  have hbl : Below w.heap.size w w1 := below_two (Below.refl _ _) hb1
  clear hb1
  go_region_held3 (fun w' => w'.cell? ⟨w.heap.size, 0, none⟩ = some (.int .i64 a.inc) ∧ w'.cell? ⟨w.heap.size, 1, none⟩ = some (.int .i64 a.st) ∧ w'.cell? ⟨w.heap.size + 1, 0, none⟩ = some (.int .i64 b.inc) ∧ w'.cell? ⟨w.heap.size + 1, 1, none⟩ = some (.int .i64 b.st))
    (first | go_keep | (go_split_ands; refine ⟨?_, ?_, ?_, ?_⟩ <;> (rw [hb.cell (by have := hsz; simp; omega)]; assumption)))
    (first | (go_at_call 11; ((with_reducible refine (check_raw a _).mono ?_); rintro e w2 ⟨rfl, hb⟩; have hs := hb.size; (try simp at hs); have hbl : Below w.heap.size w w2 := (by first | exact below_chain hbl hb | exact below_chain hbl.drew hb))) | (go_at_call 12; ((with_reducible refine (rcheck_raw a _).mono ?_); rintro e w2 ⟨rfl, hb⟩; have hs := hb.size; (try simp at hs); have hbl : Below w.heap.size w w2 := (by first | exact below_chain hbl hb | exact below_chain hbl.drew hb))) | (go_at_call 13; ((with_reducible refine (join_raw a b _).mono ?_); rintro e w2 ⟨rfl, hb⟩; have hs := hb.size; (try simp at hs); have hbl : Below w.heap.size w w2 := (by first | exact below_chain hbl hb | exact below_chain hbl.drew hb))) | (go_at_call 14; ((with_reducible refine (rjoin_raw a b _).mono ?_); rintro e w2 ⟨rfl, hb⟩; have hs := hb.size; (try simp at hs); have hbl : Below w.heap.size w w2 := (by first | exact below_chain hbl hb | exact below_chain hbl.drew hb))) | (go_at_call 15; ((with_reducible refine (speak_raw a b FB.out _).mono ?_); rintro e w2 ⟨rfl, hb⟩; have hs := hb.size; (try simp at hs); have hbl : Below w.heap.size w w2 := (by first | exact below_chain hbl hb | exact below_chain hbl.drew hb))) | (go_at_call 16; ((with_reducible refine (rspeak_raw a b FB.out _).mono ?_); rintro e w2 ⟨rfl, hb⟩; have hs := hb.size; (try simp at hs); have hbl : Below w.heap.size w w2 := (by first | exact below_chain hbl hb | exact below_chain hbl.drew hb))) | (go_at_call 17; ((with_reducible refine (suspect_raw a _).mono ?_); rintro e w2 ⟨rfl, hb⟩; have hs := hb.size; (try simp at hs); have hbl : Below w.heap.size w w2 := (by first | exact below_chain hbl hb | exact below_chain hbl.drew hb))) | (go_at_call 18; ((with_reducible refine (rsuspect_raw a _).mono ?_); rintro e w2 ⟨rfl, hb⟩; have hs := hb.size; (try simp at hs); have hbl : Below w.heap.size w w2 := (by first | exact below_chain hbl hb | exact below_chain hbl.drew hb))) | (go_at_call 19; ((with_reducible refine (bury_raw a _).mono ?_); rintro e w2 ⟨rfl, hb⟩; have hs := hb.size; (try simp at hs); have hbl : Below w.heap.size w w2 := (by first | exact below_chain hbl hb | exact below_chain hbl.drew hb))) | (go_at_call 20; ((with_reducible refine (rbury_raw a _).mono ?_); rintro e w2 ⟨rfl, hb⟩; have hs := hb.size; (try simp at hs); have hbl : Below w.heap.size w w2 := (by first | exact below_chain hbl hb | exact below_chain hbl.drew hb))))
  go_wp2
  go_split_ands
  go_region_held3 (fun w' => w'.cell? ⟨w.heap.size, 0, none⟩ = some (.int .i64 a.inc) ∧ w'.cell? ⟨w.heap.size, 1, none⟩ = some (.int .i64 a.st) ∧ w'.cell? ⟨w.heap.size + 1, 0, none⟩ = some (.int .i64 b.inc) ∧ w'.cell? ⟨w.heap.size + 1, 1, none⟩ = some (.int .i64 b.st))
    (first | go_keep | (go_split_ands; refine ⟨?_, ?_, ?_, ?_⟩ <;> (rw [hb.cell (by have := hsz; simp; omega)]; assumption)))
    (first | (go_at_call 11; ((with_reducible refine (check_raw a _).mono ?_); rintro e w2 ⟨rfl, hb⟩; have hs := hb.size; (try simp at hs); have hbl : Below w.heap.size w w2 := (by first | exact below_chain hbl hb | exact below_chain hbl.drew hb))) | (go_at_call 12; ((with_reducible refine (rcheck_raw a _).mono ?_); rintro e w2 ⟨rfl, hb⟩; have hs := hb.size; (try simp at hs); have hbl : Below w.heap.size w w2 := (by first | exact below_chain hbl hb | exact below_chain hbl.drew hb))) | (go_at_call 13; ((with_reducible refine (join_raw a b _).mono ?_); rintro e w2 ⟨rfl, hb⟩; have hs := hb.size; (try simp at hs); have hbl : Below w.heap.size w w2 := (by first | exact below_chain hbl hb | exact below_chain hbl.drew hb))) | (go_at_call 14; ((with_reducible refine (rjoin_raw a b _).mono ?_); rintro e w2 ⟨rfl, hb⟩; have hs := hb.size; (try simp at hs); have hbl : Below w.heap.size w w2 := (by first | exact below_chain hbl hb | exact below_chain hbl.drew hb))) | (go_at_call 15; ((with_reducible refine (speak_raw a b FB.out _).mono ?_); rintro e w2 ⟨rfl, hb⟩; have hs := hb.size; (try simp at hs); have hbl : Below w.heap.size w w2 := (by first | exact below_chain hbl hb | exact below_chain hbl.drew hb))) | (go_at_call 16; ((with_reducible refine (rspeak_raw a b FB.out _).mono ?_); rintro e w2 ⟨rfl, hb⟩; have hs := hb.size; (try simp at hs); have hbl : Below w.heap.size w w2 := (by first | exact below_chain hbl hb | exact below_chain hbl.drew hb))) | (go_at_call 17; ((with_reducible refine (suspect_raw a _).mono ?_); rintro e w2 ⟨rfl, hb⟩; have hs := hb.size; (try simp at hs); have hbl : Below w.heap.size w w2 := (by first | exact below_chain hbl hb | exact below_chain hbl.drew hb))) | (go_at_call 18; ((with_reducible refine (rsuspect_raw a _).mono ?_); rintro e w2 ⟨rfl, hb⟩; have hs := hb.size; (try simp at hs); have hbl : Below w.heap.size w w2 := (by first | exact below_chain hbl hb | exact below_chain hbl.drew hb))) | (go_at_call 19; ((with_reducible refine (bury_raw a _).mono ?_); rintro e w2 ⟨rfl, hb⟩; have hs := hb.size; (try simp at hs); have hbl : Below w.heap.size w w2 := (by first | exact below_chain hbl hb | exact below_chain hbl.drew hb))) | (go_at_call 20; ((with_reducible refine (rbury_raw a _).mono ?_); rintro e w2 ⟨rfl, hb⟩; have hs := hb.size; (try simp at hs); have hbl : Below w.heap.size w w2 := (by first | exact below_chain hbl hb | exact below_chain hbl.drew hb))))
  go_wp2
  go_ret
  exact ⟨rfl, hbl⟩

set_option maxRecDepth 100000 in
theorem memberTells_lifted (os : Os) (started : os.Started) (H : Type) (enc : TypeId × Value → H) :
    ReturnsInHanded {} Try.checked os 4 .any (Rows.memberTellsSpec.pre6 enc Try.prog Try.f4 Rows.memberTellsRow.domain false) (Rows.memberTellsSpec.post enc Try.prog Try.f4 false true false false) := by
  refine returnsInHanded_of_change (C := Try.checked) own started (by kernel_rfl) Try.func4
    (ChangeSpec.witness6 (enc := enc) (C := Try.checked) false ⟨#[], #[.agg #[.int .i64 0, .int .i64 0], .agg #[.int .i64 0, .int .i64 0]], []⟩ 8 (by kernel_rfl) (by kernel_rfl) (by kernel_rfl) (by kernel_rfl)) ?_
  intro W base args ds gs before hval0 hW _ _
  have hval : ∀ (j : Nat) t v, Try.f4.params[j]? = some t → args[j]? = some v → Value.okWide Try.prog W .any base t v := hval0
  have hW' := hW
  obtain ⟨p, q, hA0, hV, rfl, _, _⟩ := hW
  have hA : DataW.TrodAll enc Try.prog W 0 (fun _ => true) true Try.f4.params.toList args.toList ds p := hA0
  rw [Try.params4] at hA hval
  obtain ⟨v0, vs0, d0, ds0, p0, q0, hargs, rfl, rfl, h0, r0⟩ := trodAll_cons hA
  obtain ⟨v1, vs1, d1, ds1, p1, q1, rfl, rfl, rfl, h1, r1⟩ := trodAll_cons r0
  obtain ⟨rfl, rfl, rfl⟩ := trodAll_nil r1
  obtain rfl : args = #[v0, v1] := by cases args; simp_all
  obtain ⟨rfl, rfl⟩ := trodVars_none hV
  have k0 := h0
  have lt0 : ∀ x ∈ p0, x.block < W.heap.size := by obtain ⟨m, hm⟩ := k0; exact DataW.trod_lt m _ _ _ hm
  obtain ⟨m0, fm0, rfl⟩ := open_M (hval 0 24 v0 rfl rfl) h0
  have k1 := h1
  have lt1 : ∀ x ∈ p1, x.block < W.heap.size := by obtain ⟨m, hm⟩ := k1; exact DataW.trod_lt m _ _ _ hm
  obtain ⟨m1, fm1, rfl⟩ := open_M (hval 1 24 v1 rfl rfl) h1
  clear hA0 hval0 hval
  refine (memberTells_walk W m0 fm0 m1 fm1).mono fun e W' ⟨he, bel⟩ => ?_
  subst he
  exact ⟨_, rfl, _, _, _, [], _, [], hW', trodAll_mk1 (shut_bool Try.underlying4 _), (trodAll_cons_mk (Below.trod laidOut (by kernel_rfl) (of_decide_eq_true (by kernel_rfl)) k0 bel lt0) (trodAll_cons_mk (Below.trod laidOut (by kernel_rfl) (of_decide_eq_true (by kernel_rfl)) k1 bel lt1) trodAll_mk0)), rfl, bel.frame _, fun h => by cases h⟩

theorem memberTells_holds : Rows.MemberTellsSaid :=
  OpenClaim.holds_of_wide 4 Try.f4 rfl rfl rfl rfl rfl rfl rfl ⟨rfl, rfl, rfl, rfl, rfl⟩ rfl rfl rfl rfl rfl (by kernel_rfl) Try.func4 (by kernel_rfl)
    (of_decide_eq_true (by kernel_rfl)) (by unfold Func.isWrapper; first | (rw [if_pos (by decide +kernel)]; kernel_rfl) | (rw [if_neg (by decide +kernel)]; exact ⟨rfl, rfl⟩))
    (fun os started H enc _ => memberTells_lifted os started H enc)
#print axioms memberTells_holds
end Go.Proofs.Ytecehbodemiijaa
