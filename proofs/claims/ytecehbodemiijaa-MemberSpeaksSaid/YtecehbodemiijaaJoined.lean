/- joined's contract. -/
import Derived.Test.YtecehbodemiijaaLists
import Derived.Deep.RegionHeld3
import Derived.Deep.RegionWith
namespace Go.Proofs.Ytecehbodemiijaa
open Go Go.RowKit

theorem info_mem : (Try.prog.info? 24).map (fun i => (i.zero, i.size, i.bytes)) = some (some (.agg #[.int .i64 0, .int .i64 0]), 2, 16) := by kernel_rfl

theorem join_raw (a b : M) (w : World) : Calls Try.prog 13 #[.agg #[.int .i64 a.inc, .int .i64 a.st], .agg #[.int .i64 b.inc, .int .i64 b.st]] w
    fun e w' => e = .returned (.agg #[.int .i64 (jn a b).inc, .int .i64 (jn a b).st]) ∧ Below w.heap.size w w' := join_any a b w

/-- The first j of the longer list are joined with the shorter's. -/
def mid (l k : Nat → M) (j t : Nat) : M := if t < j then jn (l t) (k t) else l t
theorem mid_at (l k : Nat → M) (j : Nat) : mid l k j j = l j := if_neg (by omega)
theorem own_step {w : World} {base e g n cap j : Nat} {l k : Nat → M} (h : Own w base e 2 (.slice (some ⟨g, 0, none⟩) n cap) n (mc (mid l k j))) :
    Own ((w.setCell ⟨g, j * 2, none⟩ (.int .i64 (jn (l j) (k j)).inc)).setCell ⟨g, j * 2 + 1, none⟩ (.int .i64 (jn (l j) (k j)).st)) base e 2 (.slice (some ⟨g, 0, none⟩) n cap) n (mc (mid l k (j + 1))) := by
  refine ((h.set (j * 2) _).1.set (j * 2 + 1) _).1.congr fun i _ => ?_
  by_cases h1 : i = j * 2 + 1
  · subst h1
    rw [if_pos rfl, mc_1]; unfold mid; rw [if_pos (by omega)]
  · rw [if_neg h1]
    by_cases h0 : i = j * 2
    · subst h0
      rw [if_pos rfl, mc_0]; unfold mid; rw [if_pos (by omega)]
    · rw [if_neg h0]
      have : mid l k j (i / 2) = mid l k (j + 1) (i / 2) := by
        unfold mid
        by_cases hlt : i / 2 < j
        · rw [if_pos hlt, if_pos (by omega)]
        · rw [if_neg hlt, if_neg (by omega)]
      unfold mc
      rw [this]
def LongEnd (n m : Nat) (l k : Nat → M) (w : World) (e : Ending) (w' : World) : Prop :=
  ∃ v, e = .returned v ∧ Own w' w.heap.size 24 2 v n (mc (mid l k m)) ∧ Below w.heap.size w w'

set_option maxHeartbeats 1000000 in
theorem joined_ge (A B : Option Addr) (n c m d : Nat) (l k : Nat → M) (w : World) (hA : Rd w w.heap.size 2 A n (mc l)) (hB : Rd w w.heap.size 2 B m (mc k)) (hcA : A = none → c = 0) (hn : n ≤ 1000000) (hm : m ≤ 1000000) (hge : m ≤ n) (h0 : 0 < m) :
    Calls Try.prog 24 #[.slice A n c, .slice B m d, .func (.func 13) #[] #[]] w (LongEnd n m l k w) := by
  obtain ⟨i0, hi0, hz0, hz1, hz2⟩ := info_parts info_mem
  obtain ⟨bb, offb, rfl, hbb, hcB⟩ := hB h0
  go_enter Try.func24, Try.ntmps24
  go_wp2_with (at_builtin; go_must (refine wpl_app _ rfl (.tmp 17) (.tmp 18) 30 rfl w.heap.size 24 i0 _ 2 16 Try.underlying30 hi0 hz0 hz1 hz2 rfl (by omega) (.slice (some ⟨w.heap.size, 0, none⟩) 0 0) 0 (mc l) rfl (Own.made _ _ _ (Nat.le_refl _) (Nat.zero_le _) rfl) w.heap.size A n c (mc l) rfl (hA.alloc (Nat.le_refl _) _) hcA (fun j _ => mc_one l j) (by unfold maxLen; omega) (by omega) (by simp) ?_); intro v1 w1 hown1 hg1 hat1)
  have hb1 : Below w.heap.size w w1 := ((Below.refl _ _).alloc (Nat.le_refl _) _).grown hg1 (by simp) (by simp [Value.ownBlock])
  have hown : Own w1 w.heap.size 24 2 v1 n (mc (mid l k 0)) := by
    rw [Nat.zero_add] at hown1
    exact hown1.congr fun j hj => by rw [if_neg (by omega)]; unfold mid; simp
  clear hown1 hg1 hat1 hA hcA
  obtain ⟨g, cap, rfl, hg, hgl, hcap, hcm⟩ := hown.form (by omega)
  have HB := Lib.hid hcB
  clear hcB
  go_loopw [22] (fun i wr => ∃ j : Nat, j ≤ m ∧ i = .int .i64 j ∧ Own wr w.heap.size 24 2 (.slice (some ⟨g, 0, none⟩) n cap) n (mc (mid l k j)) ∧ Below w.heap.size w wr) (fun i _ => m - (intOf i).toNat)
  case atStart => exact ⟨0, Nat.zero_le _, rfl, hown, hb1⟩
  case round =>
    clear hown hb1 hgl
    obtain ⟨j, hj, rfl, hown, hbr⟩ := hrel
    have hgl := (hown.block g rfl).2
    by_cases hlt : j < m
    · have o0 := hown.cell (j * 2) (by omega)
      have o1 := hown.cell (j * 2 + 1) (by omega)
      rw [mc_0, mid_at] at o0
      rw [mc_1, mid_at] at o1
      have f0 := hown.free (j * 2)
      have f1 := hown.free (j * 2 + 1)
      obtain ⟨k0, k1⟩ := mc_cells HB.out j hlt
      have c0 := (hbr.cell (p := ⟨bb, offb + j * 2, none⟩) hbb).trans k0
      have c1 := (hbr.cell (p := ⟨bb, offb + j * 2 + 1, none⟩) hbb).trans k1
      clear k0 k1
      have hjn : (j : Int) < (n : Int) := by omega
      have hj0 : (0 : Int) ≤ (j : Int) := by omega
      go_wp2
      have hgx : g < (wr.alloc (Obj.cells #[Value.int IntKind.i64 (k j).inc, Value.int IntKind.i64 (k j).st] 24)).heap.size := by simp; omega
      have hwx : wr.heap.size < (wr.alloc (Obj.cells #[Value.int IntKind.i64 (k j).inc, Value.int IntKind.i64 (k j).st] 24)).heap.size := by simp
      have hox := hown.alloc (Obj.cells #[Value.int IntKind.i64 (k j).inc, Value.int IntKind.i64 (k j).st] 24)
      have hbx : Below w.heap.size w (wr.alloc (Obj.cells #[Value.int IntKind.i64 (k j).inc, Value.int IntKind.i64 (k j).st] 24)) := hbr.alloc hbr.size _
      have p0 : (wr.alloc (Obj.cells #[Value.int IntKind.i64 (k j).inc, Value.int IntKind.i64 (k j).st] 24)).cell? ⟨g, j * 2, none⟩ = some (.int .i64 (l j).inc) := by go_simp
      have p1 : (wr.alloc (Obj.cells #[Value.int IntKind.i64 (k j).inc, Value.int IntKind.i64 (k j).st] 24)).cell? ⟨g, j * 2 + 1, none⟩ = some (.int .i64 (l j).st) := by go_simp
      have q0 : (wr.alloc (Obj.cells #[Value.int IntKind.i64 (k j).inc, Value.int IntKind.i64 (k j).st] 24)).cell? ⟨wr.heap.size, 0, none⟩ = some (.int .i64 (k j).inc) := by go_simp
      have q1 : (wr.alloc (Obj.cells #[Value.int IntKind.i64 (k j).inc, Value.int IntKind.i64 (k j).st] 24)).cell? ⟨wr.heap.size, 1, none⟩ = some (.int .i64 (k j).st) := by go_simp
      generalize hbs : wr.heap.size = bs at *
      generalize hwy : wr.alloc (Obj.cells #[Value.int IntKind.i64 (k j).inc, Value.int IntKind.i64 (k j).st] 24) = wy at *
      clear hwy o0 o1 f0 f1 c0 c1 hown hbr hgl hbs
      go_region_with (first | (go_at_call 13; refine (join_raw (l j) (k j) _).mono ?_; rintro e w2 ⟨rfl, hbj⟩; have hoj := (Own.drew hox).below hbj; have f0 := hoj.free (j * 2); have f1 := hoj.free (j * 2 + 1); have p0' := hoj.cell (j * 2) (by omega); have p1' := hoj.cell (j * 2 + 1) (by omega)))
      all_goals
        have hbe := hbx.drew.trans (hbj.mono hbx.drew.size)
        clear p0 p1 q0 q1 hgx hwx hox hbx f0 f1 p0' p1'
        go_wp2
        go_roundw
        case rel => exact ⟨j + 1, by omega, by go_num, own_step hoj, (hbe.setCell (p := ⟨g, j * 2, none⟩) hg _).setCell (p := ⟨g, j * 2 + 1, none⟩) hg _⟩
        case measure => simp [intOf]; omega
    · go_wp2
      go_ret
      exact ⟨_, rfl, by rw [show m = j from by omega]; exact hown, hbr⟩
set_option maxHeartbeats 1000000 in
theorem joined_lt (A B : Option Addr) (n c m d : Nat) (l k : Nat → M) (w : World) (hA : Rd w w.heap.size 2 A n (mc l)) (hB : Rd w w.heap.size 2 B m (mc k)) (hcA : A = none → c = 0) (hn : n ≤ 1000000) (hm : m ≤ 1000000) (hge : m < n) (h0 : 0 < m) :
    Calls Try.prog 24 #[.slice B m d, .slice A n c, .func (.func 13) #[] #[]] w (LongEnd n m l k w) := by
  obtain ⟨i0, hi0, hz0, hz1, hz2⟩ := info_parts info_mem
  obtain ⟨bb, offb, rfl, hbb, hcB⟩ := hB h0
  go_enter Try.func24, Try.ntmps24
  go_wp2_with (at_builtin; go_must (refine wpl_app _ rfl (.tmp 17) (.tmp 18) 30 rfl w.heap.size 24 i0 _ 2 16 Try.underlying30 hi0 hz0 hz1 hz2 rfl (by omega) (.slice (some ⟨w.heap.size, 0, none⟩) 0 0) 0 (mc l) rfl (Own.made _ _ _ (Nat.le_refl _) (Nat.zero_le _) rfl) w.heap.size A n c (mc l) rfl (hA.alloc (Nat.le_refl _) _) hcA (fun j _ => mc_one l j) (by unfold maxLen; omega) (by omega) (by simp) ?_); intro v1 w1 hown1 hg1 hat1)
  have hb1 : Below w.heap.size w w1 := ((Below.refl _ _).alloc (Nat.le_refl _) _).grown hg1 (by simp) (by simp [Value.ownBlock])
  have hown : Own w1 w.heap.size 24 2 v1 n (mc (mid l k 0)) := by
    rw [Nat.zero_add] at hown1
    exact hown1.congr fun j hj => by rw [if_neg (by omega)]; unfold mid; simp
  clear hown1 hg1 hat1 hA hcA
  obtain ⟨g, cap, rfl, hg, hgl, hcap, hcm⟩ := hown.form (by omega)
  have HB := Lib.hid hcB
  clear hcB
  go_loopw [22] (fun i wr => ∃ j : Nat, j ≤ m ∧ i = .int .i64 j ∧ Own wr w.heap.size 24 2 (.slice (some ⟨g, 0, none⟩) n cap) n (mc (mid l k j)) ∧ Below w.heap.size w wr) (fun i _ => m - (intOf i).toNat)
  case atStart => exact ⟨0, Nat.zero_le _, rfl, hown, hb1⟩
  case round =>
    clear hown hb1 hgl
    obtain ⟨j, hj, rfl, hown, hbr⟩ := hrel
    have hgl := (hown.block g rfl).2
    by_cases hlt : j < m
    · have o0 := hown.cell (j * 2) (by omega)
      have o1 := hown.cell (j * 2 + 1) (by omega)
      rw [mc_0, mid_at] at o0
      rw [mc_1, mid_at] at o1
      have f0 := hown.free (j * 2)
      have f1 := hown.free (j * 2 + 1)
      obtain ⟨k0, k1⟩ := mc_cells HB.out j hlt
      have c0 := (hbr.cell (p := ⟨bb, offb + j * 2, none⟩) hbb).trans k0
      have c1 := (hbr.cell (p := ⟨bb, offb + j * 2 + 1, none⟩) hbb).trans k1
      clear k0 k1
      have hjn : (j : Int) < (n : Int) := by omega
      have hj0 : (0 : Int) ≤ (j : Int) := by omega
      go_wp2
      have hgx : g < (wr.alloc (Obj.cells #[Value.int IntKind.i64 (k j).inc, Value.int IntKind.i64 (k j).st] 24)).heap.size := by simp; omega
      have hwx : wr.heap.size < (wr.alloc (Obj.cells #[Value.int IntKind.i64 (k j).inc, Value.int IntKind.i64 (k j).st] 24)).heap.size := by simp
      have hox := hown.alloc (Obj.cells #[Value.int IntKind.i64 (k j).inc, Value.int IntKind.i64 (k j).st] 24)
      have hbx : Below w.heap.size w (wr.alloc (Obj.cells #[Value.int IntKind.i64 (k j).inc, Value.int IntKind.i64 (k j).st] 24)) := hbr.alloc hbr.size _
      have p0 : (wr.alloc (Obj.cells #[Value.int IntKind.i64 (k j).inc, Value.int IntKind.i64 (k j).st] 24)).cell? ⟨g, j * 2, none⟩ = some (.int .i64 (l j).inc) := by go_simp
      have p1 : (wr.alloc (Obj.cells #[Value.int IntKind.i64 (k j).inc, Value.int IntKind.i64 (k j).st] 24)).cell? ⟨g, j * 2 + 1, none⟩ = some (.int .i64 (l j).st) := by go_simp
      have q0 : (wr.alloc (Obj.cells #[Value.int IntKind.i64 (k j).inc, Value.int IntKind.i64 (k j).st] 24)).cell? ⟨wr.heap.size, 0, none⟩ = some (.int .i64 (k j).inc) := by go_simp
      have q1 : (wr.alloc (Obj.cells #[Value.int IntKind.i64 (k j).inc, Value.int IntKind.i64 (k j).st] 24)).cell? ⟨wr.heap.size, 1, none⟩ = some (.int .i64 (k j).st) := by go_simp
      generalize hbs : wr.heap.size = bs at *
      generalize hwy : wr.alloc (Obj.cells #[Value.int IntKind.i64 (k j).inc, Value.int IntKind.i64 (k j).st] 24) = wy at *
      clear hwy o0 o1 f0 f1 c0 c1 hown hbr hgl hbs
      go_region_with (first | (go_at_call 13; refine (join_raw (l j) (k j) _).mono ?_; rintro e w2 ⟨rfl, hbj⟩; have hoj := (Own.drew hox).below hbj; have f0 := hoj.free (j * 2); have f1 := hoj.free (j * 2 + 1); have p0' := hoj.cell (j * 2) (by omega); have p1' := hoj.cell (j * 2 + 1) (by omega)))
      all_goals
        have hbe := hbx.drew.trans (hbj.mono hbx.drew.size)
        clear p0 p1 q0 q1 hgx hwx hox hbx f0 f1 p0' p1'
        go_wp2
        go_roundw
        case rel => exact ⟨j + 1, by omega, by go_num, own_step hoj, (hbe.setCell (p := ⟨g, j * 2, none⟩) hg _).setCell (p := ⟨g, j * 2 + 1, none⟩) hg _⟩
        case measure => simp [intOf]; omega
    · go_wp2
      go_ret
      exact ⟨_, rfl, by rw [show m = j from by omega]; exact hown, hbr⟩
set_option maxHeartbeats 1000000 in
theorem joined_ge0 (A B : Option Addr) (n c d : Nat) (l k : Nat → M) (w : World) (hA : Rd w w.heap.size 2 A n (mc l)) (hcA : A = none → c = 0) (hn : n ≤ 1000000) :
    Calls Try.prog 24 #[.slice A n c, .slice B 0 d, .func (.func 13) #[] #[]] w (LongEnd n 0 l k w) := by
  obtain ⟨i0, hi0, hz0, hz1, hz2⟩ := info_parts info_mem
  go_enter Try.func24, Try.ntmps24
  go_wp2_with (at_builtin; go_must (refine wpl_app _ rfl (.tmp 17) (.tmp 18) 30 rfl w.heap.size 24 i0 _ 2 16 Try.underlying30 hi0 hz0 hz1 hz2 rfl (by omega) (.slice (some ⟨w.heap.size, 0, none⟩) 0 0) 0 (mc l) rfl (Own.made _ _ _ (Nat.le_refl _) (Nat.zero_le _) rfl) w.heap.size A n c (mc l) rfl (hA.alloc (Nat.le_refl _) _) hcA (fun j _ => mc_one l j) (by unfold maxLen; omega) (by omega) (by simp) ?_); intro v1 w1 hown1 hg1 hat1)
  have hb1 : Below w.heap.size w w1 := ((Below.refl _ _).alloc (Nat.le_refl _) _).grown hg1 (by simp) (by simp [Value.ownBlock])
  have hown : Own w1 w.heap.size 24 2 v1 n (mc (mid l k 0)) := by
    rw [Nat.zero_add] at hown1
    exact hown1.congr fun j hj => by rw [if_neg (by omega)]; unfold mid; simp
  clear hown1 hg1 hat1 hA hcA
  refine wp_loop_rounds 1 ?_; rw [rounds_succ]
  go_wp2
  go_ret
  exact ⟨_, rfl, hown, hb1⟩

set_option maxHeartbeats 1000000 in
theorem joined_lt0 (A B : Option Addr) (n c d : Nat) (l k : Nat → M) (w : World) (hA : Rd w w.heap.size 2 A n (mc l)) (hcA : A = none → c = 0) (hn : n ≤ 1000000) (hpos : 0 < n) :
    Calls Try.prog 24 #[.slice B 0 d, .slice A n c, .func (.func 13) #[] #[]] w (LongEnd n 0 l k w) := by
  obtain ⟨i0, hi0, hz0, hz1, hz2⟩ := info_parts info_mem
  go_enter Try.func24, Try.ntmps24
  go_wp2_with (at_builtin; go_must (refine wpl_app _ rfl (.tmp 17) (.tmp 18) 30 rfl w.heap.size 24 i0 _ 2 16 Try.underlying30 hi0 hz0 hz1 hz2 rfl (by omega) (.slice (some ⟨w.heap.size, 0, none⟩) 0 0) 0 (mc l) rfl (Own.made _ _ _ (Nat.le_refl _) (Nat.zero_le _) rfl) w.heap.size A n c (mc l) rfl (hA.alloc (Nat.le_refl _) _) hcA (fun j _ => mc_one l j) (by unfold maxLen; omega) (by omega) (by simp) ?_); intro v1 w1 hown1 hg1 hat1)
  have hb1 : Below w.heap.size w w1 := ((Below.refl _ _).alloc (Nat.le_refl _) _).grown hg1 (by simp) (by simp [Value.ownBlock])
  have hown : Own w1 w.heap.size 24 2 v1 n (mc (mid l k 0)) := by
    rw [Nat.zero_add] at hown1
    exact hown1.congr fun j hj => by rw [if_neg (by omega)]; unfold mid; simp
  clear hown1 hg1 hat1 hA hcA
  refine wp_loop_rounds 1 ?_; rw [rounds_succ]
  go_wp2
  go_ret
  exact ⟨_, rfl, hown, hb1⟩

theorem jn_comm (a b : M) : jn a b = jn b a := by
  unfold jn
  cases a; cases b
  (repeat' split) <;> simp_all <;> omega
/-- What two know of many. -/
def al (n m : Nat) (l k : Nat → M) (i : Nat) : M := if i < n ∧ i < m then jn (l i) (k i) else if i < n then l i else k i
def AllEnd (n m : Nat) (l k : Nat → M) (w : World) (e : Ending) (w' : World) : Prop :=
  ∃ v, e = .returned v ∧ Own w' w.heap.size 24 2 v (max n m) (mc (al n m l k)) ∧ Below w.heap.size w w'
theorem al_ge {n m : Nat} {l k : Nat → M} {w : World} {e : Ending} {w' : World} (h : LongEnd n m l k w e w') (hge : m ≤ n) : AllEnd n m l k w e w' := by
  obtain ⟨v, he, ho, hb⟩ := h
  refine ⟨v, he, ?_, hb⟩
  rw [Nat.max_eq_left hge]
  refine ho.congr fun j hj => ?_
  have hj2 : j / 2 < n := by omega
  have : mid l k m (j / 2) = al n m l k (j / 2) := by
    unfold mid al
    by_cases h1 : j / 2 < m <;> simp [h1, hj2]
  unfold mc; rw [this]
theorem al_lt {n m : Nat} {l k : Nat → M} {w : World} {e : Ending} {w' : World} (h : LongEnd m n k l w e w') (hge : n < m) : AllEnd n m l k w e w' := by
  obtain ⟨v, he, ho, hb⟩ := h
  refine ⟨v, he, ?_, hb⟩
  rw [Nat.max_eq_right (by omega)]
  refine ho.congr fun j hj => ?_
  have hj2 : j / 2 < m := by omega
  have : mid k l n (j / 2) = al n m l k (j / 2) := by
    unfold mid al
    by_cases h1 : j / 2 < n <;> simp [h1, hj2, jn_comm]
  unfold mc; rw [this]
theorem joined_any (A B : Option Addr) (n c m d : Nat) (l k : Nat → M) (w : World) (hA : Rd w w.heap.size 2 A n (mc l)) (hB : Rd w w.heap.size 2 B m (mc k)) (hcA : A = none → c = 0) (hcB : B = none → d = 0) (hn : n ≤ 1000000) (hm : m ≤ 1000000) :
    Calls Try.prog 24 #[.slice A n c, .slice B m d, .func (.func 13) #[] #[]] w (AllEnd n m l k w) := by
  rcases Nat.lt_or_ge n m with h | h
  · rcases Nat.eq_zero_or_pos n with h0 | h0
    · subst h0
      exact (joined_lt0 B A m d c k l w hB hcB hm h).mono fun _ _ hh => al_lt hh h
    · exact (joined_lt B A m d n c k l w hB hA hcB hm hn h h0).mono fun _ _ hh => al_lt hh h
  · rcases Nat.eq_zero_or_pos m with h0 | h0
    · subst h0
      exact (joined_ge0 A B n c d l k w hA hcA hn).mono fun _ _ hh => al_ge hh h
    · exact (joined_ge A B n c m d l k w hA hB hcA hn hm h h0).mono fun _ _ hh => al_ge hh h

set_option maxHeartbeats 400000 in
theorem all_any (A B : Option Addr) (n c m d : Nat) (l k : Nat → M) (w : World) (hA : Rd w w.heap.size 2 A n (mc l)) (hB : Rd w w.heap.size 2 B m (mc k)) (hcA : A = none → c = 0) (hcB : B = none → d = 0) (hn : n ≤ 1000000) (hm : m ≤ 1000000) :
    Calls Try.prog 22 #[.slice A n c, .slice B m d] w (AllEnd n m l k w) := by
  have H := Lib.hid (joined_any A B n c m d l k w hA hB hcA hcB hn hm)
  clear hA hB hcA hcB
  go_enter Try.func22, Try.ntmps22
  go_wp2_with fail
  refine (Hid.out H).mono ?_
  rintro e w1 ⟨v, rfl, ho, hb⟩
  go_wp2
  go_ret
  exact ⟨v, rfl, ho, hb⟩
end Go.Proofs.Ytecehbodemiijaa
