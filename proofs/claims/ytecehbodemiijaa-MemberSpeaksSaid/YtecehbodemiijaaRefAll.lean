/- The reference's All: its contract. -/
import Derived.Test.YtecehbodemiijaaJoined
namespace Go.Proofs.Ytecehbodemiijaa
open Go Go.RowKit

theorem rjoin_raw (a b : M) (w : World) : Calls Try.prog 14 #[.agg #[.int .i64 a.inc, .int .i64 a.st], .agg #[.int .i64 b.inc, .int .i64 b.st]] w
    fun e w' => e = .returned (.agg #[.int .i64 (jn a b).inc, .int .i64 (jn a b).st]) ∧ Below w.heap.size w w' := rjoin_any a b w

theorem mc_two (x : M) (j : Nat) (hj : j < 1 * 2) : (#[Value.int .i64 x.inc, Value.int .i64 x.st] : Array Value)[j]? = some (mc (fun _ => x) j) := by
  match j, hj with
  | 0, _ => rfl
  | 1, _ => rfl
theorem own_app {w : World} {base e j : Nat} {v : Value} {f : Nat → M} {x : M} (h : Own w base e 2 v (j + 1) (fun i => if i < j * 2 then mc f i else mc (fun _ => x) (i - j * 2))) (hx : f j = x) : Own w base e 2 v (j + 1) (mc f) := by
  refine h.congr fun i hi => ?_
  by_cases h1 : i < j * 2
  · rw [if_pos h1]
  · rw [if_neg h1]
    unfold mc
    rw [show (i - j * 2) % 2 = i % 2 from by omega, show i / 2 = j from by omega, hx]

set_option maxHeartbeats 2000000 in
theorem rall_any (A B : Option Addr) (n c m d : Nat) (l k : Nat → M) (w : World) (hA : Rd w w.heap.size 2 A n (mc l)) (hB : Rd w w.heap.size 2 B m (mc k)) (hn : n ≤ 1000000) (hm : m ≤ 1000000) :
    Calls Try.prog 23 #[.slice A n c, .slice B m d] w (AllEnd n m l k w) := by
  obtain ⟨i0, hi0, hz0, hz1, hz2⟩ := info_parts info_mem
  go_enter Try.func23, Try.ntmps23
  go_wp2
  go_loopw [5, 6] (fun o i wr => ∃ j : Nat, j ≤ max n m ∧ i = .int .i64 j ∧ Own wr w.heap.size 24 2 o j (mc (al n m l k)) ∧ Below w.heap.size w wr) (fun _ i _ => max n m - (intOf i).toNat)
  case atStart => exact ⟨0, Nat.zero_le _, rfl, Own.nil, Below.refl _ _⟩
  case round =>
    obtain ⟨j, hj, rfl, hown, hbr⟩ := hrel
    by_cases h1 : j < n
    · obtain ⟨ba, offa, rfl, hba, hcA⟩ := hA (by omega)
      obtain ⟨l0, l1⟩ := mc_cells hcA j h1
      have c0 := (hbr.cell (p := ⟨ba, offa + j * 2, none⟩) hba).trans l0
      have c1 := (hbr.cell (p := ⟨ba, offa + j * 2 + 1, none⟩) hba).trans l1
      clear l0 l1 hcA
      by_cases h2 : j < m
      · obtain ⟨bb, offb, rfl, hbb, hcB⟩ := hB (by omega)
        obtain ⟨k0, k1⟩ := mc_cells hcB j h2
        have d0 := (hbr.cell (p := ⟨bb, offb + j * 2, none⟩) hbb).trans k0
        have d1 := (hbr.cell (p := ⟨bb, offb + j * 2 + 1, none⟩) hbb).trans k1
        clear k0 k1 hcB
        have hba' : ba < wr.heap.size := by have := hbr.size; omega
        have hbb' : bb < wr.heap.size := by have := hbr.size; omega
        have nea : some ba ≠ u5.ownBlock := fun e => by have := hown.block _ e.symm; omega
        have neb : some bb ≠ u5.ownBlock := fun e => by have := hown.block _ e.symm; omega
        go_wp2
        go_region_held3 (fun w' => w'.cell? ⟨ba, offa + j * 2, none⟩ = some (.int .i64 (l j).inc) ∧ w'.cell? ⟨ba, offa + j * 2 + 1, none⟩ = some (.int .i64 (l j).st) ∧ w'.cell? ⟨bb, offb + j * 2, none⟩ = some (.int .i64 (k j).inc) ∧ w'.cell? ⟨bb, offb + j * 2 + 1, none⟩ = some (.int .i64 (k j).st))
          (first | go_keep | (refine ⟨?_, ?_, ?_, ?_⟩ <;> (rw [hbj.cell (by first | simpa using hba' | simpa using hbb')]; assumption)) | (refine ⟨?_, ?_, ?_, ?_⟩ <;> (refine hg1.cell ?_ (by first | exact nea | exact neb); go_keep)))
          (first | (go_at_call 14; refine (rjoin_raw (l j) (k j) _).mono ?_; rintro e w2 ⟨rfl, hbj⟩; have hoj := (Own.drew hown).below hbj; have hbe := hbr.drew.trans (hbj.mono hbr.drew.size); have hsz := hbe.size) | (refine step_app _ (by rfl) _ _ _ (by rfl) w.heap.size 24 i0 _ 2 16 Try.underlying30 hi0 hz0 hz1 hz2 rfl (by omega) u5 j (mc (al n m l k)) (by rfl) (hoj.alloc _) (w2.heap.size + 1) (some ⟨w2.heap.size, 0, none⟩) 1 1 (mc (fun _ => jn (l j) (k j))) (by rfl) (Rd.new (mc_two _)) (by intro h; cases h) (fun j _ => mc_one _ j) (by unfold maxLen; omega) (by omega) (by simp; omega) ?_; intro v1 w1 hown1 hg1 hat1))
        have hb1 := (hbe.alloc hbe.size (Obj.cells #[Value.int IntKind.i64 (jn (l j) (k j)).inc, Value.int IntKind.i64 (jn (l j) (k j)).st] 24)).grown hg1 (by simp; omega) (fun g hg => (hown.block g hg).1)
        have ho1 := own_app (f := al n m l k) hown1 (by unfold al; simp [h1, h2])
        clear hown1 hg1 hat1 c0 c1 d0 d1 hoj hbj hbe
        go_wp2
        go_roundw
        case rel => exact ⟨j + 1, by omega, by go_num, ho1, hb1⟩
        case measure => simp [intOf]; omega
      · go_wp2_with (at_builtin; go_must (refine wpl_app _ rfl (.tmp 36) (.tmp 41) 30 rfl w.heap.size 24 i0 _ 2 16 Try.underlying30 hi0 hz0 hz1 hz2 rfl (by omega) u5 j (mc (al n m l k)) rfl (hown.alloc _) (wr.heap.size + 1) (some ⟨wr.heap.size, 0, none⟩) 1 1 (mc (fun _ => l j)) rfl (Rd.new (mc_two _)) (by intro h; cases h) (fun j _ => mc_one _ j) (by unfold maxLen; omega) (by omega) (by have := hbr.size; simp; omega) ?_); intro v1 w1 hown1 hg1 hat1)
        have hb1 := (hbr.alloc hbr.size (Obj.cells #[Value.int IntKind.i64 (l j).inc, Value.int IntKind.i64 (l j).st] 24)).grown hg1 (by have := hbr.size; simp; omega) (fun g hg => (hown.block g hg).1)
        have ho1 := own_app (f := al n m l k) hown1 (by unfold al; simp [h1, h2])
        clear hown1 hg1 hat1 c0 c1
        go_wp2
        go_roundw
        case rel => exact ⟨j + 1, by omega, by go_num, ho1, hb1⟩
        case measure => simp [intOf]; omega
    · by_cases h2 : j < m
      · obtain ⟨bb, offb, rfl, hbb, hcB⟩ := hB (by omega)
        obtain ⟨k0, k1⟩ := mc_cells hcB j h2
        have d0 := (hbr.cell (p := ⟨bb, offb + j * 2, none⟩) hbb).trans k0
        have d1 := (hbr.cell (p := ⟨bb, offb + j * 2 + 1, none⟩) hbb).trans k1
        clear k0 k1 hcB
        go_wp2_with (at_builtin; go_must (refine wpl_app _ rfl (.tmp 48) (.tmp 53) 30 rfl w.heap.size 24 i0 _ 2 16 Try.underlying30 hi0 hz0 hz1 hz2 rfl (by omega) u5 j (mc (al n m l k)) rfl (hown.alloc _) (wr.heap.size + 1) (some ⟨wr.heap.size, 0, none⟩) 1 1 (mc (fun _ => k j)) rfl (Rd.new (mc_two _)) (by intro h; cases h) (fun j _ => mc_one _ j) (by unfold maxLen; omega) (by omega) (by have := hbr.size; simp; omega) ?_); intro v1 w1 hown1 hg1 hat1)
        have hb1 := (hbr.alloc hbr.size (Obj.cells #[Value.int IntKind.i64 (k j).inc, Value.int IntKind.i64 (k j).st] 24)).grown hg1 (by have := hbr.size; simp; omega) (fun g hg => (hown.block g hg).1)
        have ho1 := own_app (f := al n m l k) hown1 (by unfold al; simp [h1])
        clear hown1 hg1 hat1 d0 d1
        go_wp2
        go_roundw
        case rel => exact ⟨j + 1, by omega, by go_num, ho1, hb1⟩
        case measure => simp [intOf]; omega
      · go_wp2
        go_ret
        exact ⟨_, rfl, by rw [show max n m = j from by omega]; exact hown, hbr⟩
end Go.Proofs.Ytecehbodemiijaa
