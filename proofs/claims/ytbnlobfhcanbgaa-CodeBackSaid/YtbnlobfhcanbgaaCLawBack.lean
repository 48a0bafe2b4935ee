/- CodeBack holds: what is written is read, and with a byte more, or one fewer, it is given up. Conditions: none. -/
import Derived.Test.YtbnlobfhcanbgaaCFew
import Derived.Test.YtbnlobfhcanbgaaCAwake
import Derived.Test.YtbnlobfhcanbgaaBack
import Derived.Test.YtbnlobfhcanbgaaPBox
import Derived.Deep.RegionHeld
import Derived.Deep.Cut
namespace Go.Proofs.Ytbnlobfhcanbgaa
open Go.ChangeShapes Go.WideShapes Go.ChangeAt Go.RowKit Go.Joins Go.Deep

theorem own_snoc {w : World} {base : Nat} {v : Value} {L : List Pt} {y : Pt} (o : Own w base 28 37 v (L.length + 1) (fun j => if j < L.length * 37 then pf L j else pf [y] (j - L.length * 37))) :
    Own w base 28 37 v (L ++ [y]).length (pf (L ++ [y])) := by
  rw [List.length_append]
  exact o.congr fun j hj => pf_app L [y] j hj
theorem apart_mid {u6 u7 v8 : Value} {s : Nat} (hap : ∀ q, u6.ownBlock = some q → u7.ownBlock ≠ some q) (h6 : ∀ q, u6.ownBlock = some q → q < s) (a8 : v8.ownBlock = u7.ownBlock ∨ v8.ownBlock = some s) : v8.ownBlock = none ∨ v8.ownBlock ≠ u6.ownBlock := by
  cases h : v8.ownBlock with
  | none => exact .inl rfl
  | some q =>
    refine .inr fun e => ?_
    rcases a8 with a | a
    · exact hap q e.symm (by rw [← a, h])
    · rw [h] at a
      have := h6 q e.symm
      injection a with a
      omega
theorem apart_end {u6 v8 v9 : Value} {s : Nat} (h : v8.ownBlock = none ∨ v8.ownBlock ≠ u6.ownBlock) (h8 : ∀ q, v8.ownBlock = some q → q < s) (a9 : v9.ownBlock = u6.ownBlock ∨ v9.ownBlock = some s) : ∀ q, v9.ownBlock = some q → v8.ownBlock ≠ some q := by
  intro q hq e
  rcases a9 with a | a
  · rcases h with h | h
    · rw [h] at e; cases e
    · exact h (by rw [e, ← a, hq])
  · have := h8 q e
    rw [hq] at a
    injection a with a
    omega
theorem rangeAt_below {B b o : Nat} {w w' : World} {cs : List Value} (hb : Below B w w') (hB : b < B) (h : w.rangeAt b o cs) : w'.rangeAt b o cs := fun j v hv => (hb.cell (p := ⟨b, o + j, none⟩) hB).trans (h j v hv)
theorem asks_ok {w : World} {A : Option Addr} {c : Nat} {l : List Pt} (h : InPs w A c l) (w' : World) (B : Nat) : ∀ x ∈ asksOf l, PtOk w' B x := by
  intro x hx
  unfold asksOf at hx
  obtain ⟨y, hy, rfl⟩ := List.mem_map.1 hx
  have hf := (h.ok y (List.mem_filter.1 hy).1).fit
  refine ⟨Bs.nil, fun _ => ⟨rfl, rfl⟩, (fun _ h => by cases h), by simp [askOf, Pt.nil], ⟨?_, ?_, ?_⟩, fun _ => by simp [askOf, Pt.nil]⟩
  · show Fit 0; unfold Fit; omega
  · exact hf.1
  · show Fit (if y.kind = 2 then 300 else 9223372036854775807)
    split <;> (unfold Fit; omega)
theorem wants_bs {w : World} {A : Option Addr} {c : Nat} {l : List Pt} (h : InPs w A c l) : ∀ x ∈ wantsOf l, Bs w w.heap.size x.A x.b := by
  intro x hx
  unfold wantsOf at hx
  obtain ⟨y, hy, rfl⟩ := List.mem_map.1 hx
  have hb := (h.ok y (List.mem_filter.1 hy).1).b.bs
  unfold wantOf
  split
  · exact Bs.nil
  · split
    · exact hb
    · exact Bs.nil
theorem pown_bs {w : World} {base : Nat} {v : Value} {out : List Pt} (h : Pown w base v out) : ∀ x ∈ out, Bs w w.heap.size x.A x.b := fun x hx => Ob.bs (h.mem x hx).own
theorem pown_below {w w' : World} {base : Nat} {v : Value} {out : List Pt} (h : Pown w base v out) (hb : Below w.heap.size w w') : Pown w' base v out := h.below hb
theorem faces_key {out R : List Pt} (h : out.map Pt.face = R) : out.map key = R.map key := by
  rw [← h, List.map_map]
  exact List.map_congr_left fun x _ => (key_face x).symm
set_option maxRecDepth 100000 in
set_option maxHeartbeats 20000000 in
theorem codeBack_walk (w : World) (A : Option Addr) (c : Nat) (l : List Pt) (h : InPs w A c l) (y : Nat) (hy : y < 256) : Calls Try.prog 6 #[.slice A l.length c, .int .u8 (y : Int)] w fun e w' => e = .returned (.bool true) ∧ Below w.heap.size w w' := by
  obtain ⟨i0, hi0, hz0, hz1, hz2⟩ := info_parts info_u8
  obtain ⟨ip, hip, hpz0, hpz1, hpz2⟩ := info_parts info_pt
  have HI := Lib.hid h
  have hcm : l.length ≤ maxLen := by have := h.cap; omega
  unfold maxLen at hcm
  clear h
  go_enter Try.func6, Try.ntmps6
  go_wp2_with fail
  refine (awake_any _).mono ?_
  rintro e w1 ⟨rfl, hb1⟩
  have HB1 := Lib.hid hb1
  have HI1 := Lib.hid (HI.out.next hb1)
  clear HI hb1
  go_wp2_with fail
  refine (few_any A c l w1 HI1.out).mono ?_
  rintro e w2 ⟨rfl, rfl⟩
  cases hfew : fewB l with
  | false =>
    go_wp2_with fail
    go_ret
    exact ⟨rfl, HB1.out⟩
  | true =>
    have hlen := (fewB_yes hfew).1
    have HP3 := Lib.hid (fewB_yes hfew).2
    have HP7 := Lib.hid (show ∀ x ∈ l, x.b.length ≤ 1000 from fun x hx => by have := (fewB_yes hfew).2 x hx; omega)
    have HP := Lib.hid (HI1.out.pts HP7.out)
    clear hfew
    go_wp2_with fail
    go_loopw [6, 7, 8] (fun v6 v7 i wr => ∃ k : Nat, i = .int .i64 (k : Int) ∧ k ≤ l.length ∧ Own wr w2.heap.size 28 37 v6 (asksOf (l.take k)).length (pf (asksOf (l.take k))) ∧
        Own wr w2.heap.size 28 37 v7 (wantsOf (l.take k)).length (pf (wantsOf (l.take k))) ∧ (∀ q, v6.ownBlock = some q → v7.ownBlock ≠ some q) ∧ Below w2.heap.size w2 wr)
      (fun _ _ i _ => (l.length - intOf i).toNat)
    case atStart => exact ⟨0, rfl, Nat.zero_le _, Own.nil, Own.nil, (fun q e => by cases e), Below.refl _ _⟩
    case round =>
      obtain ⟨k, rfl, hk, ho6, ho7, hap, hbr⟩ := hrel
      have hszr := hbr.size
      by_cases hkl : k < l.length
      · obtain ⟨x, hx⟩ : ∃ x, l[k]? = some x := ⟨_, List.getElem?_eq_getElem hkl⟩
        obtain ⟨b, off, rfl, hb, hat⟩ := (HP.out.below hbr).at_ hx
        have hok := (HP.out.below hbr).ok x (List.mem_of_getElem? hx)
        have h0 := hat.f0
        have h1 := hat.f1
        have h4 := hat.f4
        have HS := Lib.hid (asksOf_snoc l k x hx)
        have HX := Lib.hid hx
        have HOK := Lib.hid hok
        have HA := Lib.hid hat
        have HBR := Lib.hid hbr
        have HO6 := Lib.hid ho6
        have HO7 := Lib.hid ho7
        have HAP := Lib.hid hap
        clear hx hok hat ho6 ho7 hap hbr
        by_cases hs : 1 ≤ x.kind ∧ x.kind ≤ 3
        · have HSel := Lib.hid (show sel x = true from by unfold sel; simpa using hs)
          obtain ⟨hs1, hs3⟩ := hs
          by_cases hk1 : x.kind = 1
          · have hb1 : (x.kind == 1) = true := by simp [hk1]
            have HK := Lib.hid hk1
            clear hk1
            go_upto_region 10 with (fail)
            obtain ⟨W1, hW1⟩ : ∃ W1, W1 = (wr.alloc (.cells (ptc Pt.nil).toArray 28)).setRow wr.heap.size (ptc { Pt.nil with kind := x.kind }).toArray := ⟨_, rfl⟩
            have HW1 := Lib.hid hW1
            clear hW1
            refine wp_region_list ?_
            repeat (first
              | (refine wpList_store_row (by rfl) 28 (.tmp 9) (.tmp 49) (by rfl) wr.heap.size (ptc { Pt.nil with kind := x.kind }).toArray (by rfl) (by rfl) 28 (ptc Pt.nil).toArray (alloc_new _ _ _ rfl) size_pt (ptsz _ _) (all_pt _) ?_
                 have hw := HW1.out
                 first
                   | rw [← hw]
                   | (change wpList _ _ _ _ _ ((wr.alloc (.cells (ptc Pt.nil).toArray 28)).setRow wr.heap.size (ptc { Pt.nil with kind := x.kind }).toArray); rw [← hw])
                 clear hw)
              | go_values | go_skip | go_guarded | go_step | go_upon)
            try simp only [Act.put]
            have HPB1 := Lib.hid (show PB W1 wr.heap.size { Pt.nil with kind := x.kind } from by rw [HW1.out]; exact PB.new _ _)
            have HBW1 := Lib.hid (show Below wr.heap.size wr W1 from by rw [HW1.out]; exact below_setRow ((Below.refl _ _).alloc (Nat.le_refl _) _) (Nat.le_refl _) _)
            have HSZ1 := Lib.hid (show W1.heap.size = wr.heap.size + 1 from by rw [HW1.out]; simp [World.setRow])
            have HSS := Lib.hid (show ∀ w', Below W1.heap.size W1 w' → (w'.cell? ⟨b, off + k * 37, none⟩ = some (.int .i64 x.kind) ∧ w'.cell? ⟨b, off + k * 37 + 1, none⟩ = some (.int .i64 x.n)) ∧ Hid (Below W1.heap.size W1 w') from fun w' hb' => by
              have hl : b < wr.heap.size := by omega
              have hbb := HBW1.out.trans (hb'.mono (by rw [HSZ1.out]; omega))
              exact ⟨⟨(hbb.cell (p := ⟨b, off + k * 37, none⟩) hl).trans h0, (hbb.cell (p := ⟨b, off + k * 37 + 1, none⟩) hl).trans h1⟩, Lib.hid hb'⟩)
            clear HW1
            refine wp_region_held_drew (S := (fun w' => (w'.cell? ⟨b, off + k * 37, none⟩ = some (.int .i64 x.kind) ∧ w'.cell? ⟨b, off + k * 37 + 1, none⟩ = some (.int .i64 x.n)) ∧ Hid (Below W1.heap.size W1 w'))) (by kernel_rfl) ?_ (fun hHeld => ?_)
            · (exact HSS.out _ (by repeat (first | exact Below.refl _ _ | refine Below.drew ?_ | refine Below.alloc ?_ (Nat.le_refl _) _ | refine below_setRow ?_ (Nat.le_refl _) _)))
            refine wpAnyH_take (i := 0) (oi := { dst := some 50, op := Op.move (Operand.tmp 0), type := 23, pos := "law.go:188", after := #[], guard := none }) (v := ?_) rfl (by kernel_rfl) (by kernel_rfl) (by kernel_rfl) (fun _ _ _ h => h) (Or.inl ⟨by rfl, ?_⟩) (by assumption) ?_
            rotate_left 1
            · intro ws hSw; (try dsimp only at hSw); go_simp; all_goals with_reducible rfl
            simp only [Act.put, List.setIfInBounds_toArray, List.set_cons_zero, List.set_cons_succ]
            refine wpAnyH_take (i := 1) (oi := { dst := some 51, op := Op.move (Operand.tmp 8), type := 3, pos := "law.go:188", after := #[], guard := none }) (v := ?_) rfl (by kernel_rfl) (by kernel_rfl) (by kernel_rfl) (fun _ _ _ h => h) (Or.inl ⟨by rfl, ?_⟩) (by assumption) ?_
            rotate_left 1
            · intro ws hSw; (try dsimp only at hSw); go_simp; all_goals with_reducible rfl
            simp only [Act.put, List.setIfInBounds_toArray, List.set_cons_zero, List.set_cons_succ]
            refine wpAnyH_take (i := 2) (oi := { dst := some 52, op := Op.indexAddr 23 (Operand.tmp 50) (Operand.tmp 51), type := 0, pos := "law.go:188", after := #[{ on := 0, ground := Ground.data }, { on := 1, ground := Ground.data }], guard := none }) (v := ?_) rfl (by kernel_rfl) (by kernel_rfl) (by kernel_rfl) (fun _ _ _ h => h) (Or.inl ⟨by rfl, ?_⟩) (by assumption) ?_
            rotate_left 1
            · intro ws hSw; (try dsimp only at hSw); go_simp; all_goals with_reducible rfl
            simp only [Act.put, List.setIfInBounds_toArray, List.set_cons_zero, List.set_cons_succ]
            refine wpAnyH_take (i := 3) (oi := { dst := some 53, op := Op.fieldAddr 28 (Operand.tmp 52) 0, type := 0, pos := "law.go:188", after := #[{ on := 2, ground := Ground.data }], guard := none }) (v := ?_) rfl (by kernel_rfl) (by kernel_rfl) (by kernel_rfl) (fun _ _ _ h => h) (Or.inl ⟨by rfl, ?_⟩) (by assumption) ?_
            rotate_left 1
            · intro ws hSw; (try dsimp only at hSw); go_simp; all_goals with_reducible rfl
            simp only [Act.put, List.setIfInBounds_toArray, List.set_cons_zero, List.set_cons_succ]
            refine wpAnyH_take (i := 4) (oi := { dst := some 54, op := Op.load 3 (Operand.tmp 53), type := 3, pos := "law.go:188", after := #[{ on := 3, ground := Ground.data }], guard := none }) (v := ?_) rfl (by kernel_rfl) (by kernel_rfl) (by kernel_rfl) (fun _ _ _ h => h) (Or.inl ⟨by rfl, ?_⟩) (by assumption) ?_
            rotate_left 1
            · intro ws hSw; (try dsimp only at hSw); go_simp; all_goals with_reducible rfl
            simp only [Act.put, List.setIfInBounds_toArray, List.set_cons_zero, List.set_cons_succ]
            refine wpAnyH_take (i := 5) (oi := { dst := some 55, op := Op.move (Operand.tmp 0), type := 23, pos := "law.go:188", after := #[], guard := none }) (v := ?_) rfl (by kernel_rfl) (by kernel_rfl) (by kernel_rfl) (fun _ _ _ h => h) (Or.inl ⟨by rfl, ?_⟩) (by assumption) ?_
            rotate_left 1
            · intro ws hSw; (try dsimp only at hSw); go_simp; all_goals with_reducible rfl
            simp only [Act.put, List.setIfInBounds_toArray, List.set_cons_zero, List.set_cons_succ]
            refine wpAnyH_take (i := 6) (oi := { dst := some 56, op := Op.move (Operand.tmp 8), type := 3, pos := "law.go:188", after := #[], guard := none }) (v := ?_) rfl (by kernel_rfl) (by kernel_rfl) (by kernel_rfl) (fun _ _ _ h => h) (Or.inl ⟨by rfl, ?_⟩) (by assumption) ?_
            rotate_left 1
            · intro ws hSw; (try dsimp only at hSw); go_simp; all_goals with_reducible rfl
            simp only [Act.put, List.setIfInBounds_toArray, List.set_cons_zero, List.set_cons_succ]
            refine wpAnyH_take (i := 7) (oi := { dst := some 57, op := Op.indexAddr 23 (Operand.tmp 55) (Operand.tmp 56), type := 0, pos := "law.go:188", after := #[{ on := 5, ground := Ground.data }, { on := 6, ground := Ground.data }], guard := none }) (v := ?_) rfl (by kernel_rfl) (by kernel_rfl) (by kernel_rfl) (fun _ _ _ h => h) (Or.inl ⟨by rfl, ?_⟩) (by assumption) ?_
            rotate_left 1
            · intro ws hSw; (try dsimp only at hSw); go_simp; all_goals with_reducible rfl
            simp only [Act.put, List.setIfInBounds_toArray, List.set_cons_zero, List.set_cons_succ]
            refine wpAnyH_take (i := 8) (oi := { dst := some 58, op := Op.fieldAddr 28 (Operand.tmp 57) 1, type := 0, pos := "law.go:188", after := #[{ on := 7, ground := Ground.data }], guard := none }) (v := ?_) rfl (by kernel_rfl) (by kernel_rfl) (by kernel_rfl) (fun _ _ _ h => h) (Or.inl ⟨by rfl, ?_⟩) (by assumption) ?_
            rotate_left 1
            · intro ws hSw; (try dsimp only at hSw); go_simp; all_goals with_reducible rfl
            simp only [Act.put, List.setIfInBounds_toArray, List.set_cons_zero, List.set_cons_succ]
            refine wpAnyH_take (i := 9) (oi := { dst := some 59, op := Op.load 2 (Operand.tmp 58), type := 2, pos := "law.go:188", after := #[{ on := 8, ground := Ground.data }], guard := none }) (v := ?_) rfl (by kernel_rfl) (by kernel_rfl) (by kernel_rfl) (fun _ _ _ h => h) (Or.inl ⟨by rfl, ?_⟩) (by assumption) ?_
            rotate_left 1
            · intro ws hSw; (try dsimp only at hSw); go_simp; all_goals with_reducible rfl
            simp only [Act.put, List.setIfInBounds_toArray, List.set_cons_zero, List.set_cons_succ]
            refine wpAnyH_take (i := 10) (oi := { dst := some 60, op := Op.build 28 #[(0, Operand.tmp 54), (2, Operand.tmp 59), (3, Operand.const (Value.int IntKind.i64 9223372036854775807))], type := 28, pos := "law.go:188", after := #[{ on := 4, ground := Ground.data }, { on := 9, ground := Ground.data }], guard := none }) (v := ?_) rfl (by kernel_rfl) (by kernel_rfl) (by kernel_rfl) (fun _ _ _ h => h) (Or.inl ⟨by rfl, ?_⟩) (by assumption) ?_
            rotate_left 1
            · intro ws hSw; (try dsimp only at hSw); go_simp; all_goals with_reducible rfl
            simp only [Act.put, List.setIfInBounds_toArray, List.set_cons_zero, List.set_cons_succ]
            refine wpAnyH_ready (rs := [11]) (by kernel_rfl) (by simp) ?_
            refine AllReadyH.cons (o := { dst := some 10, op := Op.alloc 28, type := 0, pos := "law.go:188", after := #[], guard := none }) rfl (fun K hK => ?_) AllReadyH.nil
            go_simp
            refine hK.out _ _ ?_ (fun hHeld => ?_)
            · (exact HSS.out _ (by repeat (first | exact Below.refl _ _ | refine Below.drew ?_ | refine Below.alloc ?_ (Nat.le_refl _) _ | refine below_setRow ?_ (Nat.le_refl _) _)))
            clear hK K
            try simp only [Act.put, List.setIfInBounds_toArray, List.set_cons_zero, List.set_cons_succ]
            refine wpAnyH_ready (rs := [12]) (by kernel_rfl) (by simp) ?_
            refine AllReadyH.cons (o := { dst := none, op := Op.store 28 (Operand.tmp 10) (Operand.tmp 60), type := 0, pos := "law.go:188", after := #[{ on := 11, ground := Ground.data }, { on := 10, ground := Ground.data }, { on := 0, ground := Ground.phase }, { on := 1, ground := Ground.phase }, { on := 2, ground := Ground.phase }, { on := 3, ground := Ground.phase }, { on := 4, ground := Ground.phase }, { on := 5, ground := Ground.phase }, { on := 6, ground := Ground.phase }, { on := 7, ground := Ground.phase }, { on := 8, ground := Ground.phase }, { on := 9, ground := Ground.phase }, { on := 10, ground := Ground.phase }, { on := 11, ground := Ground.phase }], guard := none }) rfl (fun K hK => ?_) AllReadyH.nil
            rw [if_pos (by rfl)]
            (refine wp_store_row 28 (.tmp 10) (.tmp 60) (by rfl) W1.heap.size (ptc { Pt.nil with kind := x.kind, least := x.n, most := 9223372036854775807 }).toArray (by rfl) (by rfl) 28 (ptc Pt.nil).toArray (alloc_new _ _ _ rfl) size_pt (ptsz _ _) (all_pt _) ?_)
            refine hK.out _ _ ?_ (fun hHeld => ?_)
            · (exact HSS.out _ (by repeat (first | exact Below.refl _ _ | refine Below.drew ?_ | refine Below.alloc ?_ (Nat.le_refl _) _ | refine below_setRow ?_ (Nat.le_refl _) _)))
            clear hK K
            try simp only [Act.put]
            refine wpAnyH_done (by kernel_rfl) ?_ _
            clear hHeld
            obtain ⟨W2, hW2⟩ : ∃ W2, W2 = (W1.alloc (.cells (ptc Pt.nil).toArray 28)).drew.setRow W1.heap.size (ptc { Pt.nil with kind := x.kind, least := x.n, most := 9223372036854775807 }).toArray := ⟨_, rfl⟩
            change Exit.then _ _ _ _ ((W1.alloc (.cells (ptc Pt.nil).toArray 28)).drew.setRow W1.heap.size (ptc { Pt.nil with kind := x.kind, least := x.n, most := 9223372036854775807 }).toArray)
            rw [← hW2]
            have hB12 : Below W1.heap.size W1 W2 := by rw [hW2]; exact below_setRow (((Below.refl _ _).alloc (Nat.le_refl _) _).drew) (Nat.le_refl _) _
            have HPA2 := Lib.hid (show PB W2 W1.heap.size { Pt.nil with kind := x.kind, least := x.n, most := 9223372036854775807 } from by rw [hW2]; exact PB.new W1 _)
            have HPB2 := Lib.hid (HPB1.out.keep (hB12.block _ HPB1.out.lt))
            have HB2 := Lib.hid (HBW1.out.trans (hB12.mono HBW1.out.size))
            clear hW2 hB12 HSS
            have c0 := (HB2.out.cell (p := ⟨b, off + k * 37, none⟩) (by show b < _; omega)).trans h0
            have c1 := (HB2.out.cell (p := ⟨b, off + k * 37 + 1, none⟩) (by show b < _; omega)).trans h1
            have c4 := (HB2.out.cell (p := ⟨b, off + k * 37 + 4, none⟩) (by show b < _; omega)).trans h4
            have d1 := HPB2.out.cell 1 rfl
            have e1 := HPB2.out.free 1
            go_upto_region 20 with (fail)
            obtain ⟨W3, hW3⟩ : ∃ W3, W3 = W2.setCell ⟨wr.heap.size, 1, none⟩ (.int .i64 x.n) := ⟨_, rfl⟩
            change Code.wp _ _ _ _ (W2.setCell ⟨wr.heap.size, 1, none⟩ (.int .i64 x.n))
            rw [← hW3]
            have HPW := Lib.hid (show PB W3 wr.heap.size { Pt.nil with kind := x.kind, n := x.n } from by rw [hW3]; exact HPB2.out.setN x.n)
            have HPA3 := Lib.hid (show PB W3 W1.heap.size { Pt.nil with kind := x.kind, least := x.n, most := 9223372036854775807 } from by rw [hW3]; exact HPA2.out.far (by show W1.heap.size ≠ wr.heap.size; rw [HSZ1.out]; omega) _)
            have HB3 := Lib.hid (show Below wr.heap.size wr W3 from by rw [hW3]; exact HB2.out.setCell (Nat.le_refl _) _)
            have HKw := Lib.hid (show wantOf x = { Pt.nil with kind := x.kind, n := x.n } from by unfold wantOf; rw [if_pos HK.out])
            have HKa := Lib.hid (show askOf x = { Pt.nil with kind := x.kind, least := x.n, most := 9223372036854775807 } from by unfold askOf; rw [if_neg (by rw [HK.out]; decide)])
            clear hW3
            obtain ⟨wx, hwx⟩ : ∃ wx : Pt, wx = { Pt.nil with kind := x.kind, n := x.n } := ⟨_, rfl⟩
            obtain ⟨ax, hax⟩ : ∃ ax : Pt, ax = { Pt.nil with kind := x.kind, least := x.n, most := 9223372036854775807 } := ⟨_, rfl⟩
            rw [← hwx] at HPW HKw
            rw [← hax] at HPA3 HKa
            clear hwx hax HPA2 HPB2 HPB1 d1 e1
            have HO6c := Lib.hid (Own.below HO6.out HB3.out)
            have HO7c := Lib.hid ((Own.below HO7.out HB3.out).alloc (.cells (ptc wx).toArray 28))
            have HPA4 := Lib.hid (HPA3.out.alloc (.cells (ptc wx).toArray 28))
            have HV7 := Lib.hid (fun q e => Own.block HO7.out q e)
            have HV6 := Lib.hid (fun q e => Own.block HO6.out q e)
            have HLa := Lib.hid (asksOf_len (l.take k))
            have hlt : (asksOf (l.take k)).length ≤ 20 ∧ (wantsOf (l.take k)).length ≤ 20 := by
              have h1 := HLa.out
              have h2 : (l.take k).length ≤ l.length := by rw [List.length_take]; omega
              omega
            obtain ⟨hlta, hltw⟩ := hlt
            have hs31 := HPA3.out.lt
            have hs3 := HB3.out.size
            have hwl := ptc_len wx
            have hwf := fold_pt wx
            have hal := ptc_len ax
            have haf := fold_pt ax
            refine wp_region_list ?_
            repeat (first
              | (refine wpList_load_row (by rfl) 28 (.tmp 9) (by rfl) wr.heap.size (by rfl) 28 (ptc wx).toArray (0, 0) _ HPW.out Try.underlying28 (by rfl) size_pt ?_)
              | (refine wpList_load_row (by rfl) 28 (.tmp 10) (by rfl) W1.heap.size (by rfl) 28 (ptc ax).toArray (0, 0) _ HPA8.out Try.underlying28 (by rfl) size_pt ?_)
              | (at_builtin
                 refine wpl_app _ rfl (.tmp 91) (.tmp 93) 23 rfl w2.heap.size 28 ip _ 37 88 Try.underlying23 hip hpz0 hpz1 hpz2 (ptc_len Pt.nil) (by omega) _ (wantsOf (l.take k)).length (pf (wantsOf (l.take k))) rfl HO7c.out (W3.heap.size + 1) (some ⟨W3.heap.size, 0, none⟩) 1 1 (pf [wx]) rfl (Rd.new (pf_one wx)) (by intro h; cases h) (pf_one1 wx) (by unfold maxLen; omega) (by omega) (by simp; omega) ?_
                 intro v8 w8 o8 g8 a8
                 have HPA8 := Lib.hid (HPA4.out.grown g8 (fun e => by have := (HV7.out _ e).2; have := HSZ1.out; omega))
                 have HO6d := Lib.hid ((Own.kept (HO6c.out.alloc (.cells (ptc wx).toArray 28)) g8 (by
                   cases hq : Value.ownBlock u6 with
                   | none => exact .inl rfl
                   | some q => exact .inr (fun e => HAP.out q hq e.symm))).alloc (.cells (ptc ax).toArray 28))
                 have HB8 := Lib.hid (((HBR.out.trans (HB3.out.mono hszr)).alloc (by omega) (.cells (ptc wx).toArray 28)).grown g8 (by simp; omega) (fun q e => (HV7.out q e).1))
                 have hs8 := HB8.out.size
                 have hs8' := g8.size
                 clear HPA4)
              | (at_builtin
                 refine wpl_app _ rfl (.tmp 95) (.tmp 97) 23 rfl w2.heap.size 28 ip _ 37 88 Try.underlying23 hip hpz0 hpz1 hpz2 (ptc_len Pt.nil) (by omega) _ (asksOf (l.take k)).length (pf (asksOf (l.take k))) rfl HO6d.out (w8.heap.size + 1) (some ⟨w8.heap.size, 0, none⟩) 1 1 (pf [ax]) rfl (Rd.new (pf_one ax)) (by intro h; cases h) (pf_one1 ax) (by unfold maxLen; omega) (by omega) (by simp; omega) ?_
                 intro v9 w9 o9 g9 a9)
              | go_values | go_skip | go_guarded | go_step | go_upon)
            have hmid := apart_mid HAP.out (fun q e => by have := (HV6.out q e).2; rw [World.size_alloc]; omega) a8
            have hend := apart_end hmid (fun q e => by have := (Own.block o8 q e).2; rw [World.size_alloc]; omega) a9
            have hk8 := Own.kept (Own.alloc o8 (.cells (ptc ax).toArray 28)) g9 hmid
            refine ⟨⟨k + 1, by go_num, by omega, ?_, ?_, hend, (HB8.out.alloc hs8 _).grown g9 (by simp; omega) (fun q e => (HV6.out q e).1)⟩, ?_⟩
            · rw [HS.out.1, HSel.out, if_pos rfl, HKa.out]; exact own_snoc o9
            · rw [HS.out.2, HSel.out, if_pos rfl, HKw.out]; exact own_snoc hk8
            · simp [intOf]; omega
          · by_cases hk2 : x.kind = 2
            · have hb1 : (x.kind == 1) = false := by simp [hk2]
              have hb2 : (x.kind == 2) = true := by simp [hk2]
              have HK := Lib.hid hk2
              clear hk1 hk2
              go_upto_region 10 with (fail)
              obtain ⟨W1, hW1⟩ : ∃ W1, W1 = (wr.alloc (.cells (ptc Pt.nil).toArray 28)).setRow wr.heap.size (ptc { Pt.nil with kind := x.kind }).toArray := ⟨_, rfl⟩
              have HW1 := Lib.hid hW1
              clear hW1
              refine wp_region_list ?_
              repeat (first
                | (refine wpList_store_row (by rfl) 28 (.tmp 9) (.tmp 49) (by rfl) wr.heap.size (ptc { Pt.nil with kind := x.kind }).toArray (by rfl) (by rfl) 28 (ptc Pt.nil).toArray (alloc_new _ _ _ rfl) size_pt (ptsz _ _) (all_pt _) ?_
                   have hw := HW1.out
                   first
                     | rw [← hw]
                     | (change wpList _ _ _ _ _ ((wr.alloc (.cells (ptc Pt.nil).toArray 28)).setRow wr.heap.size (ptc { Pt.nil with kind := x.kind }).toArray); rw [← hw])
                   clear hw)
                | go_values | go_skip | go_guarded | go_step | go_upon)
              try simp only [Act.put]
              have HPB1 := Lib.hid (show PB W1 wr.heap.size { Pt.nil with kind := x.kind } from by rw [HW1.out]; exact PB.new _ _)
              have HBW1 := Lib.hid (show Below wr.heap.size wr W1 from by rw [HW1.out]; exact below_setRow ((Below.refl _ _).alloc (Nat.le_refl _) _) (Nat.le_refl _) _)
              have HSZ1 := Lib.hid (show W1.heap.size = wr.heap.size + 1 from by rw [HW1.out]; simp [World.setRow])
              have HSS := Lib.hid (show ∀ w', Below W1.heap.size W1 w' → (w'.cell? ⟨b, off + k * 37, none⟩ = some (.int .i64 x.kind) ∧ w'.cell? ⟨b, off + k * 37 + 1, none⟩ = some (.int .i64 x.n)) ∧ Hid (Below W1.heap.size W1 w') from fun w' hb' => by
                have hl : b < wr.heap.size := by omega
                have hbb := HBW1.out.trans (hb'.mono (by rw [HSZ1.out]; omega))
                exact ⟨⟨(hbb.cell (p := ⟨b, off + k * 37, none⟩) hl).trans h0, (hbb.cell (p := ⟨b, off + k * 37 + 1, none⟩) hl).trans h1⟩, Lib.hid hb'⟩)
              clear HW1
              refine wp_region_held_drew (S := (fun w' => (w'.cell? ⟨b, off + k * 37, none⟩ = some (.int .i64 x.kind) ∧ w'.cell? ⟨b, off + k * 37 + 1, none⟩ = some (.int .i64 x.n)) ∧ Hid (Below W1.heap.size W1 w'))) (by kernel_rfl) ?_ (fun hHeld => ?_)
              · (exact HSS.out _ (by repeat (first | exact Below.refl _ _ | refine Below.drew ?_ | refine Below.alloc ?_ (Nat.le_refl _) _ | refine below_setRow ?_ (Nat.le_refl _) _)))
              refine wpAnyH_take (i := 0) (oi := { dst := some 50, op := Op.move (Operand.tmp 0), type := 23, pos := "law.go:188", after := #[], guard := none }) (v := ?_) rfl (by kernel_rfl) (by kernel_rfl) (by kernel_rfl) (fun _ _ _ h => h) (Or.inl ⟨by rfl, ?_⟩) (by assumption) ?_
              rotate_left 1
              · intro ws hSw; (try dsimp only at hSw); go_simp; all_goals with_reducible rfl
              simp only [Act.put, List.setIfInBounds_toArray, List.set_cons_zero, List.set_cons_succ]
              refine wpAnyH_take (i := 1) (oi := { dst := some 51, op := Op.move (Operand.tmp 8), type := 3, pos := "law.go:188", after := #[], guard := none }) (v := ?_) rfl (by kernel_rfl) (by kernel_rfl) (by kernel_rfl) (fun _ _ _ h => h) (Or.inl ⟨by rfl, ?_⟩) (by assumption) ?_
              rotate_left 1
              · intro ws hSw; (try dsimp only at hSw); go_simp; all_goals with_reducible rfl
              simp only [Act.put, List.setIfInBounds_toArray, List.set_cons_zero, List.set_cons_succ]
              refine wpAnyH_take (i := 2) (oi := { dst := some 52, op := Op.indexAddr 23 (Operand.tmp 50) (Operand.tmp 51), type := 0, pos := "law.go:188", after := #[{ on := 0, ground := Ground.data }, { on := 1, ground := Ground.data }], guard := none }) (v := ?_) rfl (by kernel_rfl) (by kernel_rfl) (by kernel_rfl) (fun _ _ _ h => h) (Or.inl ⟨by rfl, ?_⟩) (by assumption) ?_
              rotate_left 1
              · intro ws hSw; (try dsimp only at hSw); go_simp; all_goals with_reducible rfl
              simp only [Act.put, List.setIfInBounds_toArray, List.set_cons_zero, List.set_cons_succ]
              refine wpAnyH_take (i := 3) (oi := { dst := some 53, op := Op.fieldAddr 28 (Operand.tmp 52) 0, type := 0, pos := "law.go:188", after := #[{ on := 2, ground := Ground.data }], guard := none }) (v := ?_) rfl (by kernel_rfl) (by kernel_rfl) (by kernel_rfl) (fun _ _ _ h => h) (Or.inl ⟨by rfl, ?_⟩) (by assumption) ?_
              rotate_left 1
              · intro ws hSw; (try dsimp only at hSw); go_simp; all_goals with_reducible rfl
              simp only [Act.put, List.setIfInBounds_toArray, List.set_cons_zero, List.set_cons_succ]
              refine wpAnyH_take (i := 4) (oi := { dst := some 54, op := Op.load 3 (Operand.tmp 53), type := 3, pos := "law.go:188", after := #[{ on := 3, ground := Ground.data }], guard := none }) (v := ?_) rfl (by kernel_rfl) (by kernel_rfl) (by kernel_rfl) (fun _ _ _ h => h) (Or.inl ⟨by rfl, ?_⟩) (by assumption) ?_
              rotate_left 1
              · intro ws hSw; (try dsimp only at hSw); go_simp; all_goals with_reducible rfl
              simp only [Act.put, List.setIfInBounds_toArray, List.set_cons_zero, List.set_cons_succ]
              refine wpAnyH_take (i := 5) (oi := { dst := some 55, op := Op.move (Operand.tmp 0), type := 23, pos := "law.go:188", after := #[], guard := none }) (v := ?_) rfl (by kernel_rfl) (by kernel_rfl) (by kernel_rfl) (fun _ _ _ h => h) (Or.inl ⟨by rfl, ?_⟩) (by assumption) ?_
              rotate_left 1
              · intro ws hSw; (try dsimp only at hSw); go_simp; all_goals with_reducible rfl
              simp only [Act.put, List.setIfInBounds_toArray, List.set_cons_zero, List.set_cons_succ]
              refine wpAnyH_take (i := 6) (oi := { dst := some 56, op := Op.move (Operand.tmp 8), type := 3, pos := "law.go:188", after := #[], guard := none }) (v := ?_) rfl (by kernel_rfl) (by kernel_rfl) (by kernel_rfl) (fun _ _ _ h => h) (Or.inl ⟨by rfl, ?_⟩) (by assumption) ?_
              rotate_left 1
              · intro ws hSw; (try dsimp only at hSw); go_simp; all_goals with_reducible rfl
              simp only [Act.put, List.setIfInBounds_toArray, List.set_cons_zero, List.set_cons_succ]
              refine wpAnyH_take (i := 7) (oi := { dst := some 57, op := Op.indexAddr 23 (Operand.tmp 55) (Operand.tmp 56), type := 0, pos := "law.go:188", after := #[{ on := 5, ground := Ground.data }, { on := 6, ground := Ground.data }], guard := none }) (v := ?_) rfl (by kernel_rfl) (by kernel_rfl) (by kernel_rfl) (fun _ _ _ h => h) (Or.inl ⟨by rfl, ?_⟩) (by assumption) ?_
              rotate_left 1
              · intro ws hSw; (try dsimp only at hSw); go_simp; all_goals with_reducible rfl
              simp only [Act.put, List.setIfInBounds_toArray, List.set_cons_zero, List.set_cons_succ]
              refine wpAnyH_take (i := 8) (oi := { dst := some 58, op := Op.fieldAddr 28 (Operand.tmp 57) 1, type := 0, pos := "law.go:188", after := #[{ on := 7, ground := Ground.data }], guard := none }) (v := ?_) rfl (by kernel_rfl) (by kernel_rfl) (by kernel_rfl) (fun _ _ _ h => h) (Or.inl ⟨by rfl, ?_⟩) (by assumption) ?_
              rotate_left 1
              · intro ws hSw; (try dsimp only at hSw); go_simp; all_goals with_reducible rfl
              simp only [Act.put, List.setIfInBounds_toArray, List.set_cons_zero, List.set_cons_succ]
              refine wpAnyH_take (i := 9) (oi := { dst := some 59, op := Op.load 2 (Operand.tmp 58), type := 2, pos := "law.go:188", after := #[{ on := 8, ground := Ground.data }], guard := none }) (v := ?_) rfl (by kernel_rfl) (by kernel_rfl) (by kernel_rfl) (fun _ _ _ h => h) (Or.inl ⟨by rfl, ?_⟩) (by assumption) ?_
              rotate_left 1
              · intro ws hSw; (try dsimp only at hSw); go_simp; all_goals with_reducible rfl
              simp only [Act.put, List.setIfInBounds_toArray, List.set_cons_zero, List.set_cons_succ]
              refine wpAnyH_take (i := 10) (oi := { dst := some 60, op := Op.build 28 #[(0, Operand.tmp 54), (2, Operand.tmp 59), (3, Operand.const (Value.int IntKind.i64 9223372036854775807))], type := 28, pos := "law.go:188", after := #[{ on := 4, ground := Ground.data }, { on := 9, ground := Ground.data }], guard := none }) (v := ?_) rfl (by kernel_rfl) (by kernel_rfl) (by kernel_rfl) (fun _ _ _ h => h) (Or.inl ⟨by rfl, ?_⟩) (by assumption) ?_
              rotate_left 1
              · intro ws hSw; (try dsimp only at hSw); go_simp; all_goals with_reducible rfl
              simp only [Act.put, List.setIfInBounds_toArray, List.set_cons_zero, List.set_cons_succ]
              refine wpAnyH_ready (rs := [11]) (by kernel_rfl) (by simp) ?_
              refine AllReadyH.cons (o := { dst := some 10, op := Op.alloc 28, type := 0, pos := "law.go:188", after := #[], guard := none }) rfl (fun K hK => ?_) AllReadyH.nil
              go_simp
              refine hK.out _ _ ?_ (fun hHeld => ?_)
              · (exact HSS.out _ (by repeat (first | exact Below.refl _ _ | refine Below.drew ?_ | refine Below.alloc ?_ (Nat.le_refl _) _ | refine below_setRow ?_ (Nat.le_refl _) _)))
              clear hK K
              try simp only [Act.put, List.setIfInBounds_toArray, List.set_cons_zero, List.set_cons_succ]
              refine wpAnyH_ready (rs := [12]) (by kernel_rfl) (by simp) ?_
              refine AllReadyH.cons (o := { dst := none, op := Op.store 28 (Operand.tmp 10) (Operand.tmp 60), type := 0, pos := "law.go:188", after := #[{ on := 11, ground := Ground.data }, { on := 10, ground := Ground.data }, { on := 0, ground := Ground.phase }, { on := 1, ground := Ground.phase }, { on := 2, ground := Ground.phase }, { on := 3, ground := Ground.phase }, { on := 4, ground := Ground.phase }, { on := 5, ground := Ground.phase }, { on := 6, ground := Ground.phase }, { on := 7, ground := Ground.phase }, { on := 8, ground := Ground.phase }, { on := 9, ground := Ground.phase }, { on := 10, ground := Ground.phase }, { on := 11, ground := Ground.phase }], guard := none }) rfl (fun K hK => ?_) AllReadyH.nil
              rw [if_pos (by rfl)]
              (refine wp_store_row 28 (.tmp 10) (.tmp 60) (by rfl) W1.heap.size (ptc { Pt.nil with kind := x.kind, least := x.n, most := 9223372036854775807 }).toArray (by rfl) (by rfl) 28 (ptc Pt.nil).toArray (alloc_new _ _ _ rfl) size_pt (ptsz _ _) (all_pt _) ?_)
              refine hK.out _ _ ?_ (fun hHeld => ?_)
              · (exact HSS.out _ (by repeat (first | exact Below.refl _ _ | refine Below.drew ?_ | refine Below.alloc ?_ (Nat.le_refl _) _ | refine below_setRow ?_ (Nat.le_refl _) _)))
              clear hK K
              try simp only [Act.put]
              refine wpAnyH_done (by kernel_rfl) ?_ _
              clear hHeld
              obtain ⟨W2, hW2⟩ : ∃ W2, W2 = (W1.alloc (.cells (ptc Pt.nil).toArray 28)).drew.setRow W1.heap.size (ptc { Pt.nil with kind := x.kind, least := x.n, most := 9223372036854775807 }).toArray := ⟨_, rfl⟩
              change Exit.then _ _ _ _ ((W1.alloc (.cells (ptc Pt.nil).toArray 28)).drew.setRow W1.heap.size (ptc { Pt.nil with kind := x.kind, least := x.n, most := 9223372036854775807 }).toArray)
              rw [← hW2]
              have hB12 : Below W1.heap.size W1 W2 := by rw [hW2]; exact below_setRow (((Below.refl _ _).alloc (Nat.le_refl _) _).drew) (Nat.le_refl _) _
              have HPA2 := Lib.hid (show PB W2 W1.heap.size { Pt.nil with kind := x.kind, least := x.n, most := 9223372036854775807 } from by rw [hW2]; exact PB.new W1 _)
              have HPB2 := Lib.hid (HPB1.out.keep (hB12.block _ HPB1.out.lt))
              have HB2 := Lib.hid (HBW1.out.trans (hB12.mono HBW1.out.size))
              clear hW2 hB12 HSS
              have c0 := (HB2.out.cell (p := ⟨b, off + k * 37, none⟩) (by show b < _; omega)).trans h0
              have c1 := (HB2.out.cell (p := ⟨b, off + k * 37 + 1, none⟩) (by show b < _; omega)).trans h1
              have c4 := (HB2.out.cell (p := ⟨b, off + k * 37 + 4, none⟩) (by show b < _; omega)).trans h4
              have d1 := HPB2.out.cell 4 rfl
              have e1 := HPB2.out.free 4
              go_upto_region 17 with (fail)
              obtain ⟨W5, hW5⟩ : ∃ W5, W5 = W2.setCell ⟨wr.heap.size, 4, none⟩ (.slice x.A x.b.length x.c) := ⟨_, rfl⟩
              change Code.wp _ _ _ _ (W2.setCell ⟨wr.heap.size, 4, none⟩ (.slice x.A x.b.length x.c))
              rw [← hW5]
              clear d1 e1
              have HPB5 := Lib.hid (show PB W5 wr.heap.size { Pt.nil with kind := x.kind, A := x.A, b := x.b, c := x.c } from by rw [hW5]; exact HPB2.out.setB x.A x.b x.c)
              have HPA5 := Lib.hid (show PB W5 W1.heap.size { Pt.nil with kind := x.kind, least := x.n, most := 9223372036854775807 } from by rw [hW5]; exact HPA2.out.far (by show W1.heap.size ≠ wr.heap.size; rw [HSZ1.out]; omega) _)
              have HB5 := Lib.hid (show Below wr.heap.size wr W5 from by rw [hW5]; exact HB2.out.setCell (Nat.le_refl _) _)
              clear hW5 c0 c1 c4
              have d1 := HPA5.out.cell 3 rfl
              have e1 := HPA5.out.free 3
              go_upto_region 20 with (fail)
              obtain ⟨W3, hW3⟩ : ∃ W3, W3 = W5.setCell ⟨W1.heap.size, 3, none⟩ (.int .i64 300) := ⟨_, rfl⟩
              change Code.wp _ _ _ _ (W5.setCell ⟨W1.heap.size, 3, none⟩ (.int .i64 300))
              rw [← hW3]
              have HPW := Lib.hid (show PB W3 wr.heap.size { Pt.nil with kind := x.kind, A := x.A, c := x.c, b := x.b } from by rw [hW3]; exact HPB5.out.far (by show wr.heap.size ≠ W1.heap.size; rw [HSZ1.out]; omega) _)
              have HPA3 := Lib.hid (show PB W3 W1.heap.size { Pt.nil with kind := x.kind, least := x.n, most := 300 } from by rw [hW3]; exact HPA5.out.setMost 300)
              have HB3 := Lib.hid (show Below wr.heap.size wr W3 from by rw [hW3]; exact HB5.out.setCell (by show wr.heap.size ≤ W1.heap.size; rw [HSZ1.out]; omega) _)
              have HKw := Lib.hid (show wantOf x = { Pt.nil with kind := x.kind, A := x.A, c := x.c, b := x.b } from by unfold wantOf; rw [if_neg (by rw [HK.out]; decide), if_pos HK.out])
              have HKa := Lib.hid (show askOf x = { Pt.nil with kind := x.kind, least := x.n, most := 300 } from by unfold askOf; rw [if_pos HK.out])
              clear hW3
              obtain ⟨wx, hwx⟩ : ∃ wx : Pt, wx = { Pt.nil with kind := x.kind, A := x.A, c := x.c, b := x.b } := ⟨_, rfl⟩
              obtain ⟨ax, hax⟩ : ∃ ax : Pt, ax = { Pt.nil with kind := x.kind, least := x.n, most := 300 } := ⟨_, rfl⟩
              rw [← hwx] at HPW HKw
              rw [← hax] at HPA3 HKa
              clear hwx hax HPA2 HPB2 HPB1 HPA5 HPB5 d1 e1
              have HO6c := Lib.hid (Own.below HO6.out HB3.out)
              have HO7c := Lib.hid ((Own.below HO7.out HB3.out).alloc (.cells (ptc wx).toArray 28))
              have HPA4 := Lib.hid (HPA3.out.alloc (.cells (ptc wx).toArray 28))
              have HV7 := Lib.hid (fun q e => Own.block HO7.out q e)
              have HV6 := Lib.hid (fun q e => Own.block HO6.out q e)
              have HLa := Lib.hid (asksOf_len (l.take k))
              have hlt : (asksOf (l.take k)).length ≤ 20 ∧ (wantsOf (l.take k)).length ≤ 20 := by
                have h1 := HLa.out
                have h2 : (l.take k).length ≤ l.length := by rw [List.length_take]; omega
                omega
              obtain ⟨hlta, hltw⟩ := hlt
              have hs31 := HPA3.out.lt
              have hs3 := HB3.out.size
              have hwl := ptc_len wx
              have hwf := fold_pt wx
              have hal := ptc_len ax
              have haf := fold_pt ax
              refine wp_region_list ?_
              repeat (first
                | (refine wpList_load_row (by rfl) 28 (.tmp 9) (by rfl) wr.heap.size (by rfl) 28 (ptc wx).toArray (0, 0) _ HPW.out Try.underlying28 (by rfl) size_pt ?_)
                | (refine wpList_load_row (by rfl) 28 (.tmp 10) (by rfl) W1.heap.size (by rfl) 28 (ptc ax).toArray (0, 0) _ HPA8.out Try.underlying28 (by rfl) size_pt ?_)
                | (at_builtin
                   refine wpl_app _ rfl (.tmp 91) (.tmp 93) 23 rfl w2.heap.size 28 ip _ 37 88 Try.underlying23 hip hpz0 hpz1 hpz2 (ptc_len Pt.nil) (by omega) _ (wantsOf (l.take k)).length (pf (wantsOf (l.take k))) rfl HO7c.out (W3.heap.size + 1) (some ⟨W3.heap.size, 0, none⟩) 1 1 (pf [wx]) rfl (Rd.new (pf_one wx)) (by intro h; cases h) (pf_one1 wx) (by unfold maxLen; omega) (by omega) (by simp; omega) ?_
                   intro v8 w8 o8 g8 a8
                   have HPA8 := Lib.hid (HPA4.out.grown g8 (fun e => by have := (HV7.out _ e).2; have := HSZ1.out; omega))
                   have HO6d := Lib.hid ((Own.kept (HO6c.out.alloc (.cells (ptc wx).toArray 28)) g8 (by
                     cases hq : Value.ownBlock u6 with
                     | none => exact .inl rfl
                     | some q => exact .inr (fun e => HAP.out q hq e.symm))).alloc (.cells (ptc ax).toArray 28))
                   have HB8 := Lib.hid (((HBR.out.trans (HB3.out.mono hszr)).alloc (by omega) (.cells (ptc wx).toArray 28)).grown g8 (by simp; omega) (fun q e => (HV7.out q e).1))
                   have hs8 := HB8.out.size
                   have hs8' := g8.size
                   clear HPA4)
                | (at_builtin
                   refine wpl_app _ rfl (.tmp 95) (.tmp 97) 23 rfl w2.heap.size 28 ip _ 37 88 Try.underlying23 hip hpz0 hpz1 hpz2 (ptc_len Pt.nil) (by omega) _ (asksOf (l.take k)).length (pf (asksOf (l.take k))) rfl HO6d.out (w8.heap.size + 1) (some ⟨w8.heap.size, 0, none⟩) 1 1 (pf [ax]) rfl (Rd.new (pf_one ax)) (by intro h; cases h) (pf_one1 ax) (by unfold maxLen; omega) (by omega) (by simp; omega) ?_
                   intro v9 w9 o9 g9 a9)
                | go_values | go_skip | go_guarded | go_step | go_upon)
              have hmid := apart_mid HAP.out (fun q e => by have := (HV6.out q e).2; rw [World.size_alloc]; omega) a8
              have hend := apart_end hmid (fun q e => by have := (Own.block o8 q e).2; rw [World.size_alloc]; omega) a9
              have hk8 := Own.kept (Own.alloc o8 (.cells (ptc ax).toArray 28)) g9 hmid
              refine ⟨⟨k + 1, by go_num, by omega, ?_, ?_, hend, (HB8.out.alloc hs8 _).grown g9 (by simp; omega) (fun q e => (HV6.out q e).1)⟩, ?_⟩
              · rw [HS.out.1, HSel.out, if_pos rfl, HKa.out]; exact own_snoc o9
              · rw [HS.out.2, HSel.out, if_pos rfl, HKw.out]; exact own_snoc hk8
              · simp [intOf]; omega
            · have hb1 : (x.kind == 1) = false := by simp [hk1]
              have hb2 : (x.kind == 2) = false := by simp [hk2]
              have hb3 : (x.kind == 3) = true := by rw [beq_iff_eq]; omega
              have HK1 := Lib.hid hk1
              have HK2 := Lib.hid hk2
              clear hk1 hk2
              go_upto_region 10 with (fail)
              obtain ⟨W1, hW1⟩ : ∃ W1, W1 = (wr.alloc (.cells (ptc Pt.nil).toArray 28)).setRow wr.heap.size (ptc { Pt.nil with kind := x.kind }).toArray := ⟨_, rfl⟩
              have HW1 := Lib.hid hW1
              clear hW1
              refine wp_region_list ?_
              repeat (first
                | (refine wpList_store_row (by rfl) 28 (.tmp 9) (.tmp 49) (by rfl) wr.heap.size (ptc { Pt.nil with kind := x.kind }).toArray (by rfl) (by rfl) 28 (ptc Pt.nil).toArray (alloc_new _ _ _ rfl) size_pt (ptsz _ _) (all_pt _) ?_
                   have hw := HW1.out
                   first
                     | rw [← hw]
                     | (change wpList _ _ _ _ _ ((wr.alloc (.cells (ptc Pt.nil).toArray 28)).setRow wr.heap.size (ptc { Pt.nil with kind := x.kind }).toArray); rw [← hw])
                   clear hw)
                | go_values | go_skip | go_guarded | go_step | go_upon)
              try simp only [Act.put]
              have HPB1 := Lib.hid (show PB W1 wr.heap.size { Pt.nil with kind := x.kind } from by rw [HW1.out]; exact PB.new _ _)
              have HBW1 := Lib.hid (show Below wr.heap.size wr W1 from by rw [HW1.out]; exact below_setRow ((Below.refl _ _).alloc (Nat.le_refl _) _) (Nat.le_refl _) _)
              have HSZ1 := Lib.hid (show W1.heap.size = wr.heap.size + 1 from by rw [HW1.out]; simp [World.setRow])
              have HSS := Lib.hid (show ∀ w', Below W1.heap.size W1 w' → (w'.cell? ⟨b, off + k * 37, none⟩ = some (.int .i64 x.kind) ∧ w'.cell? ⟨b, off + k * 37 + 1, none⟩ = some (.int .i64 x.n)) ∧ Hid (Below W1.heap.size W1 w') from fun w' hb' => by
                have hl : b < wr.heap.size := by omega
                have hbb := HBW1.out.trans (hb'.mono (by rw [HSZ1.out]; omega))
                exact ⟨⟨(hbb.cell (p := ⟨b, off + k * 37, none⟩) hl).trans h0, (hbb.cell (p := ⟨b, off + k * 37 + 1, none⟩) hl).trans h1⟩, Lib.hid hb'⟩)
              clear HW1
              refine wp_region_held_drew (S := (fun w' => (w'.cell? ⟨b, off + k * 37, none⟩ = some (.int .i64 x.kind) ∧ w'.cell? ⟨b, off + k * 37 + 1, none⟩ = some (.int .i64 x.n)) ∧ Hid (Below W1.heap.size W1 w'))) (by kernel_rfl) ?_ (fun hHeld => ?_)
              · (exact HSS.out _ (by repeat (first | exact Below.refl _ _ | refine Below.drew ?_ | refine Below.alloc ?_ (Nat.le_refl _) _ | refine below_setRow ?_ (Nat.le_refl _) _)))
              refine wpAnyH_take (i := 0) (oi := { dst := some 50, op := Op.move (Operand.tmp 0), type := 23, pos := "law.go:188", after := #[], guard := none }) (v := ?_) rfl (by kernel_rfl) (by kernel_rfl) (by kernel_rfl) (fun _ _ _ h => h) (Or.inl ⟨by rfl, ?_⟩) (by assumption) ?_
              rotate_left 1
              · intro ws hSw; (try dsimp only at hSw); go_simp; all_goals with_reducible rfl
              simp only [Act.put, List.setIfInBounds_toArray, List.set_cons_zero, List.set_cons_succ]
              refine wpAnyH_take (i := 1) (oi := { dst := some 51, op := Op.move (Operand.tmp 8), type := 3, pos := "law.go:188", after := #[], guard := none }) (v := ?_) rfl (by kernel_rfl) (by kernel_rfl) (by kernel_rfl) (fun _ _ _ h => h) (Or.inl ⟨by rfl, ?_⟩) (by assumption) ?_
              rotate_left 1
              · intro ws hSw; (try dsimp only at hSw); go_simp; all_goals with_reducible rfl
              simp only [Act.put, List.setIfInBounds_toArray, List.set_cons_zero, List.set_cons_succ]
              refine wpAnyH_take (i := 2) (oi := { dst := some 52, op := Op.indexAddr 23 (Operand.tmp 50) (Operand.tmp 51), type := 0, pos := "law.go:188", after := #[{ on := 0, ground := Ground.data }, { on := 1, ground := Ground.data }], guard := none }) (v := ?_) rfl (by kernel_rfl) (by kernel_rfl) (by kernel_rfl) (fun _ _ _ h => h) (Or.inl ⟨by rfl, ?_⟩) (by assumption) ?_
              rotate_left 1
              · intro ws hSw; (try dsimp only at hSw); go_simp; all_goals with_reducible rfl
              simp only [Act.put, List.setIfInBounds_toArray, List.set_cons_zero, List.set_cons_succ]
              refine wpAnyH_take (i := 3) (oi := { dst := some 53, op := Op.fieldAddr 28 (Operand.tmp 52) 0, type := 0, pos := "law.go:188", after := #[{ on := 2, ground := Ground.data }], guard := none }) (v := ?_) rfl (by kernel_rfl) (by kernel_rfl) (by kernel_rfl) (fun _ _ _ h => h) (Or.inl ⟨by rfl, ?_⟩) (by assumption) ?_
              rotate_left 1
              · intro ws hSw; (try dsimp only at hSw); go_simp; all_goals with_reducible rfl
              simp only [Act.put, List.setIfInBounds_toArray, List.set_cons_zero, List.set_cons_succ]
              refine wpAnyH_take (i := 4) (oi := { dst := some 54, op := Op.load 3 (Operand.tmp 53), type := 3, pos := "law.go:188", after := #[{ on := 3, ground := Ground.data }], guard := none }) (v := ?_) rfl (by kernel_rfl) (by kernel_rfl) (by kernel_rfl) (fun _ _ _ h => h) (Or.inl ⟨by rfl, ?_⟩) (by assumption) ?_
              rotate_left 1
              · intro ws hSw; (try dsimp only at hSw); go_simp; all_goals with_reducible rfl
              simp only [Act.put, List.setIfInBounds_toArray, List.set_cons_zero, List.set_cons_succ]
              refine wpAnyH_take (i := 5) (oi := { dst := some 55, op := Op.move (Operand.tmp 0), type := 23, pos := "law.go:188", after := #[], guard := none }) (v := ?_) rfl (by kernel_rfl) (by kernel_rfl) (by kernel_rfl) (fun _ _ _ h => h) (Or.inl ⟨by rfl, ?_⟩) (by assumption) ?_
              rotate_left 1
              · intro ws hSw; (try dsimp only at hSw); go_simp; all_goals with_reducible rfl
              simp only [Act.put, List.setIfInBounds_toArray, List.set_cons_zero, List.set_cons_succ]
              refine wpAnyH_take (i := 6) (oi := { dst := some 56, op := Op.move (Operand.tmp 8), type := 3, pos := "law.go:188", after := #[], guard := none }) (v := ?_) rfl (by kernel_rfl) (by kernel_rfl) (by kernel_rfl) (fun _ _ _ h => h) (Or.inl ⟨by rfl, ?_⟩) (by assumption) ?_
              rotate_left 1
              · intro ws hSw; (try dsimp only at hSw); go_simp; all_goals with_reducible rfl
              simp only [Act.put, List.setIfInBounds_toArray, List.set_cons_zero, List.set_cons_succ]
              refine wpAnyH_take (i := 7) (oi := { dst := some 57, op := Op.indexAddr 23 (Operand.tmp 55) (Operand.tmp 56), type := 0, pos := "law.go:188", after := #[{ on := 5, ground := Ground.data }, { on := 6, ground := Ground.data }], guard := none }) (v := ?_) rfl (by kernel_rfl) (by kernel_rfl) (by kernel_rfl) (fun _ _ _ h => h) (Or.inl ⟨by rfl, ?_⟩) (by assumption) ?_
              rotate_left 1
              · intro ws hSw; (try dsimp only at hSw); go_simp; all_goals with_reducible rfl
              simp only [Act.put, List.setIfInBounds_toArray, List.set_cons_zero, List.set_cons_succ]
              refine wpAnyH_take (i := 8) (oi := { dst := some 58, op := Op.fieldAddr 28 (Operand.tmp 57) 1, type := 0, pos := "law.go:188", after := #[{ on := 7, ground := Ground.data }], guard := none }) (v := ?_) rfl (by kernel_rfl) (by kernel_rfl) (by kernel_rfl) (fun _ _ _ h => h) (Or.inl ⟨by rfl, ?_⟩) (by assumption) ?_
              rotate_left 1
              · intro ws hSw; (try dsimp only at hSw); go_simp; all_goals with_reducible rfl
              simp only [Act.put, List.setIfInBounds_toArray, List.set_cons_zero, List.set_cons_succ]
              refine wpAnyH_take (i := 9) (oi := { dst := some 59, op := Op.load 2 (Operand.tmp 58), type := 2, pos := "law.go:188", after := #[{ on := 8, ground := Ground.data }], guard := none }) (v := ?_) rfl (by kernel_rfl) (by kernel_rfl) (by kernel_rfl) (fun _ _ _ h => h) (Or.inl ⟨by rfl, ?_⟩) (by assumption) ?_
              rotate_left 1
              · intro ws hSw; (try dsimp only at hSw); go_simp; all_goals with_reducible rfl
              simp only [Act.put, List.setIfInBounds_toArray, List.set_cons_zero, List.set_cons_succ]
              refine wpAnyH_take (i := 10) (oi := { dst := some 60, op := Op.build 28 #[(0, Operand.tmp 54), (2, Operand.tmp 59), (3, Operand.const (Value.int IntKind.i64 9223372036854775807))], type := 28, pos := "law.go:188", after := #[{ on := 4, ground := Ground.data }, { on := 9, ground := Ground.data }], guard := none }) (v := ?_) rfl (by kernel_rfl) (by kernel_rfl) (by kernel_rfl) (fun _ _ _ h => h) (Or.inl ⟨by rfl, ?_⟩) (by assumption) ?_
              rotate_left 1
              · intro ws hSw; (try dsimp only at hSw); go_simp; all_goals with_reducible rfl
              simp only [Act.put, List.setIfInBounds_toArray, List.set_cons_zero, List.set_cons_succ]
              refine wpAnyH_ready (rs := [11]) (by kernel_rfl) (by simp) ?_
              refine AllReadyH.cons (o := { dst := some 10, op := Op.alloc 28, type := 0, pos := "law.go:188", after := #[], guard := none }) rfl (fun K hK => ?_) AllReadyH.nil
              go_simp
              refine hK.out _ _ ?_ (fun hHeld => ?_)
              · (exact HSS.out _ (by repeat (first | exact Below.refl _ _ | refine Below.drew ?_ | refine Below.alloc ?_ (Nat.le_refl _) _ | refine below_setRow ?_ (Nat.le_refl _) _)))
              clear hK K
              try simp only [Act.put, List.setIfInBounds_toArray, List.set_cons_zero, List.set_cons_succ]
              refine wpAnyH_ready (rs := [12]) (by kernel_rfl) (by simp) ?_
              refine AllReadyH.cons (o := { dst := none, op := Op.store 28 (Operand.tmp 10) (Operand.tmp 60), type := 0, pos := "law.go:188", after := #[{ on := 11, ground := Ground.data }, { on := 10, ground := Ground.data }, { on := 0, ground := Ground.phase }, { on := 1, ground := Ground.phase }, { on := 2, ground := Ground.phase }, { on := 3, ground := Ground.phase }, { on := 4, ground := Ground.phase }, { on := 5, ground := Ground.phase }, { on := 6, ground := Ground.phase }, { on := 7, ground := Ground.phase }, { on := 8, ground := Ground.phase }, { on := 9, ground := Ground.phase }, { on := 10, ground := Ground.phase }, { on := 11, ground := Ground.phase }], guard := none }) rfl (fun K hK => ?_) AllReadyH.nil
              rw [if_pos (by rfl)]
              (refine wp_store_row 28 (.tmp 10) (.tmp 60) (by rfl) W1.heap.size (ptc { Pt.nil with kind := x.kind, least := x.n, most := 9223372036854775807 }).toArray (by rfl) (by rfl) 28 (ptc Pt.nil).toArray (alloc_new _ _ _ rfl) size_pt (ptsz _ _) (all_pt _) ?_)
              refine hK.out _ _ ?_ (fun hHeld => ?_)
              · (exact HSS.out _ (by repeat (first | exact Below.refl _ _ | refine Below.drew ?_ | refine Below.alloc ?_ (Nat.le_refl _) _ | refine below_setRow ?_ (Nat.le_refl _) _)))
              clear hK K
              try simp only [Act.put]
              refine wpAnyH_done (by kernel_rfl) ?_ _
              clear hHeld
              obtain ⟨W2, hW2⟩ : ∃ W2, W2 = (W1.alloc (.cells (ptc Pt.nil).toArray 28)).drew.setRow W1.heap.size (ptc { Pt.nil with kind := x.kind, least := x.n, most := 9223372036854775807 }).toArray := ⟨_, rfl⟩
              change Exit.then _ _ _ _ ((W1.alloc (.cells (ptc Pt.nil).toArray 28)).drew.setRow W1.heap.size (ptc { Pt.nil with kind := x.kind, least := x.n, most := 9223372036854775807 }).toArray)
              rw [← hW2]
              have hB12 : Below W1.heap.size W1 W2 := by rw [hW2]; exact below_setRow (((Below.refl _ _).alloc (Nat.le_refl _) _).drew) (Nat.le_refl _) _
              have HPA2 := Lib.hid (show PB W2 W1.heap.size { Pt.nil with kind := x.kind, least := x.n, most := 9223372036854775807 } from by rw [hW2]; exact PB.new W1 _)
              have HPB2 := Lib.hid (HPB1.out.keep (hB12.block _ HPB1.out.lt))
              have HB2 := Lib.hid (HBW1.out.trans (hB12.mono HBW1.out.size))
              clear hW2 hB12 HSS
              have c0 := (HB2.out.cell (p := ⟨b, off + k * 37, none⟩) (by show b < _; omega)).trans h0
              have c1 := (HB2.out.cell (p := ⟨b, off + k * 37 + 1, none⟩) (by show b < _; omega)).trans h1
              have c4 := (HB2.out.cell (p := ⟨b, off + k * 37 + 4, none⟩) (by show b < _; omega)).trans h4
              have HF5 := Lib.hid (rangeAt_below HB2.out (by omega) HA.out.f5)
              have HTH := Lib.hid (show W2.there wr.heap.size 5 (hc x.h).size from by rw [hc_size]; exact HPB2.out.there)
              go_upto_region 19 with (fail)
              obtain ⟨W3, hW3'⟩ : ∃ W3, W3 = W2.setCells wr.heap.size 5 (hc x.h).toList := ⟨_, rfl⟩
              have HW3 := Lib.hid hW3'
              clear hW3'
              have HPW := Lib.hid (show PB W3 wr.heap.size { Pt.nil with kind := x.kind, h := x.h } from by rw [HW3.out]; exact HPB2.out.setH x.h)
              have HPA3 := Lib.hid (show PB W3 W1.heap.size { Pt.nil with kind := x.kind, least := x.n, most := 9223372036854775807 } from by rw [HW3.out]; exact HPA2.out.keep (World.heap_setCells_other W2 _ _ _ HPA2.out.lt (by rw [HSZ1.out]; omega)))
              have HB3 := Lib.hid (show Below wr.heap.size wr W3 from by rw [HW3.out]; exact setCells_below (Nat.le_refl _) _ _ HB2.out)
              have HKw := Lib.hid (show wantOf x = { Pt.nil with kind := x.kind, h := x.h } from by unfold wantOf; rw [if_neg HK1.out, if_neg HK2.out])
              have HKa := Lib.hid (show askOf x = { Pt.nil with kind := x.kind, least := x.n, most := 9223372036854775807 } from by unfold askOf; rw [if_neg HK2.out])
              obtain ⟨wx, hwx⟩ : ∃ wx : Pt, wx = { Pt.nil with kind := x.kind, h := x.h } := ⟨_, rfl⟩
              obtain ⟨ax, hax⟩ : ∃ ax : Pt, ax = { Pt.nil with kind := x.kind, least := x.n, most := 9223372036854775807 } := ⟨_, rfl⟩
              rw [← hwx] at HPW HKw
              rw [← hax] at HPA3 HKa
              clear hwx hax HPA2 HPB2 HPB1
              have HO6c := Lib.hid (Own.below HO6.out HB3.out)
              have HO7c := Lib.hid ((Own.below HO7.out HB3.out).alloc (.cells (ptc wx).toArray 28))
              have HPA4 := Lib.hid (HPA3.out.alloc (.cells (ptc wx).toArray 28))
              have HV7 := Lib.hid (fun q e => Own.block HO7.out q e)
              have HV6 := Lib.hid (fun q e => Own.block HO6.out q e)
              have HLa := Lib.hid (asksOf_len (l.take k))
              have hlt : (asksOf (l.take k)).length ≤ 20 ∧ (wantsOf (l.take k)).length ≤ 20 := by
                have h1 := HLa.out
                have h2 : (l.take k).length ≤ l.length := by rw [List.length_take]; omega
                omega
              obtain ⟨hlta, hltw⟩ := hlt
              have hs31 := HPA3.out.lt
              have hs3 := HB3.out.size
              have hwl := ptc_len wx
              have hwf := fold_pt wx
              have hal := ptc_len ax
              have haf := fold_pt ax
              refine wp_region_list ?_
              repeat (first
                | (refine wpList_load_row (by rfl) 28 (.tmp 9) (by rfl) wr.heap.size (by rfl) 28 (ptc wx).toArray (0, 0) _ HPW.out Try.underlying28 (by rfl) size_pt ?_)
                | (refine wpList_load_row (by rfl) 28 (.tmp 10) (by rfl) W1.heap.size (by rfl) 28 (ptc ax).toArray (0, 0) _ HPA8.out Try.underlying28 (by rfl) size_pt ?_)
                | (refine wpList_load_mid (by rfl) 26 (.tmp 88) (by rfl) b (off + k * 37 + 5) (by rfl) (hc x.h).toList _ HF5.out Try.underlying26 (by rfl) (by rw [Array.length_toList]; exact size_hc) ?_; rw [Array.toArray_toList])
                | (refine wpList_store_mid (by rfl) 26 (.tmp 90) (.tmp 89) (by rfl) wr.heap.size 5 (hc x.h) (by rfl) (by rfl) HTH.out size_hc (hc_all _) ?_
                   have hw := HW3.out
                   rw [← hw]
                   clear hw)
                | (at_builtin
                   refine wpl_app _ rfl (.tmp 91) (.tmp 93) 23 rfl w2.heap.size 28 ip _ 37 88 Try.underlying23 hip hpz0 hpz1 hpz2 (ptc_len Pt.nil) (by omega) _ (wantsOf (l.take k)).length (pf (wantsOf (l.take k))) rfl HO7c.out (W3.heap.size + 1) (some ⟨W3.heap.size, 0, none⟩) 1 1 (pf [wx]) rfl (Rd.new (pf_one wx)) (by intro h; cases h) (pf_one1 wx) (by unfold maxLen; omega) (by omega) (by simp; omega) ?_
                   intro v8 w8 o8 g8 a8
                   have HPA8 := Lib.hid (HPA4.out.grown g8 (fun e => by have := (HV7.out _ e).2; have := HSZ1.out; omega))
                   have HO6d := Lib.hid ((Own.kept (HO6c.out.alloc (.cells (ptc wx).toArray 28)) g8 (by
                     cases hq : Value.ownBlock u6 with
                     | none => exact .inl rfl
                     | some q => exact .inr (fun e => HAP.out q hq e.symm))).alloc (.cells (ptc ax).toArray 28))
                   have HB8 := Lib.hid (((HBR.out.trans (HB3.out.mono hszr)).alloc (by omega) (.cells (ptc wx).toArray 28)).grown g8 (by simp; omega) (fun q e => (HV7.out q e).1))
                   have hs8 := HB8.out.size
                   have hs8' := g8.size
                   clear HPA4)
                | (at_builtin
                   refine wpl_app _ rfl (.tmp 95) (.tmp 97) 23 rfl w2.heap.size 28 ip _ 37 88 Try.underlying23 hip hpz0 hpz1 hpz2 (ptc_len Pt.nil) (by omega) _ (asksOf (l.take k)).length (pf (asksOf (l.take k))) rfl HO6d.out (w8.heap.size + 1) (some ⟨w8.heap.size, 0, none⟩) 1 1 (pf [ax]) rfl (Rd.new (pf_one ax)) (by intro h; cases h) (pf_one1 ax) (by unfold maxLen; omega) (by omega) (by simp; omega) ?_
                   intro v9 w9 o9 g9 a9)
                | go_values | go_skip | go_guarded | go_step | go_upon)
              have hmid := apart_mid HAP.out (fun q e => by have := (HV6.out q e).2; rw [World.size_alloc]; omega) a8
              have hend := apart_end hmid (fun q e => by have := (Own.block o8 q e).2; rw [World.size_alloc]; omega) a9
              have hk8 := Own.kept (Own.alloc o8 (.cells (ptc ax).toArray 28)) g9 hmid
              refine ⟨⟨k + 1, by go_num, by omega, ?_, ?_, hend, (HB8.out.alloc hs8 _).grown g9 (by simp; omega) (fun q e => (HV6.out q e).1)⟩, ?_⟩
              · rw [HS.out.1, HSel.out, if_pos rfl, HKa.out]; exact own_snoc o9
              · rw [HS.out.2, HSel.out, if_pos rfl, HKw.out]; exact own_snoc hk8
              · simp [intOf]; omega
        · have hsel : sel x = false := by unfold sel; simpa using hs
          have HSel := Lib.hid hsel
          clear hsel
          have HR := Lib.hid (show Own wr w2.heap.size 28 37 u6 (asksOf (l.take (k + 1))).length (pf (asksOf (l.take (k + 1)))) ∧ Own wr w2.heap.size 28 37 u7 (wantsOf (l.take (k + 1))).length (pf (wantsOf (l.take (k + 1)))) from by
            have h1 := HS.out.1
            have h2 := HS.out.2
            rw [HSel.out, if_neg (by decide), List.append_nil] at h1 h2
            rw [h1, h2]
            exact ⟨HO6.out, HO7.out⟩)
          by_cases hs1 : x.kind < 1
          · clear hs
            go_wp2_with fail
            go_roundw
            case rel => exact ⟨k + 1, by go_num, by omega, HR.out.1, HR.out.2, HAP.out, HBR.out⟩
            case measure => simp [intOf]; omega
          · have hs3 : 3 < x.kind := by omega
            clear hs
            go_wp2_with fail
            go_roundw
            case rel => exact ⟨k + 1, by go_num, by omega, HR.out.1, HR.out.2, HAP.out, HBR.out⟩
            case measure => simp [intOf]; omega
      · obtain rfl : k = l.length := by omega
        rw [List.take_length] at ho6 ho7
        have hll := asksOf_len l
        obtain ⟨A6, c6, rfl, hcap6, hcm6, hz6⟩ := Own.shape ho6
        obtain ⟨A7, c7, rfl, hcap7, hcm7, hz7⟩ := Own.shape ho7
        have hok := fun x hx => And.intro (HI1.out.ok x hx).fit.1 (HP3.out x hx)
        have HOK := Lib.hid (show ∀ x ∈ l, Fit x.n ∧ x.b.length ≤ 300 from hok)
        have HO6 := Lib.hid ho6
        have HO7 := Lib.hid ho7
        have HBR := Lib.hid hbr
        have HPr := Lib.hid ((HI1.out.next hbr).pts HP7.out)
        have HZ6 := Lib.hid (show A6 = none → c6 = 0 from fun e => (hz6 e).2)
        obtain ⟨X, hX⟩ : ∃ X, X = wrs l := ⟨_, rfl⟩
        have HX := Lib.hid hX
        have hXl : X.length ≤ 30000 := by have := wrs_len l HP.out.ok; rw [hX]; omega
        have hla : (asksOf l).length ≤ 20 ∧ (wantsOf l).length ≤ 20 := by omega
        obtain ⟨hlasks, hlwants⟩ := hla
        clear hll ho6 ho7 hbr hap hz6 hz7 hok hX hcap6 hcm6 hcap7 hcm7
        go_wp2_with fail
        refine (written_any A c l wr HPr.out (by omega)).mono ?_
        rintro e w4 ⟨A4, c4, rfl, b4, z4, o4, l4⟩
        rw [← HX.out] at b4 o4 ⊢
        obtain ⟨_, _, hv4, hcap4, hcm4, hz4⟩ := Own.shape o4
        obtain ⟨rfl, -, rfl⟩ := Value.slice.inj hv4
        have HXB := Lib.hid (show Byt X from by rw [HX.out]; exact wrs_byt l HP.out.ok)
        have HS4 := Lib.hid b4
        have HZ4 := Lib.hid (show A4 = none → X.length = 0 ∧ c4 = 0 from hz4)
        have HB4 := Lib.hid (below_chain HBR.out l4)
        have HO64 := Lib.hid (Own.below HO6.out l4)
        have HO74 := Lib.hid (Own.below HO7.out l4)
        clear b4 z4 o4 l4 hv4 hz4 HO6 HO7 HPr
        have HPA := Lib.hid (show ∀ w' : World, ∀ base, Own w' base 28 37 (.slice A6 (asksOf l).length c6) (asksOf l).length (pf (asksOf l)) → Pts w' w'.heap.size A6 c6 (asksOf l) from fun w' base ho => ⟨Own.rd ho, HZ6.out, asks_ok HI1.out w' _⟩)
        go_wp2_with fail
        refine (read_any A4 c4 X A6 c6 (asksOf l) w4 HS4.out ⟨hcap4, hcm4⟩ HZ4.out HXB.out (by omega) (HPA.out _ _ HO64.out) (by omega)).mono ?_
        rintro e w5 ⟨A5, c5, out5, rfl, f5, p5, l5⟩
        have hr0 := readR_back l HOK.out []
        rw [List.append_nil, ← HX.out] at hr0
        rw [hr0.1]
        have HKEY := Lib.hid ((faces_key f5).trans hr0.2)
        have hlo5 : out5.length = (wantsOf l).length := by have := congrArg List.length HKEY.out; simpa using this
        have HLO5 := Lib.hid hlo5
        have HP5 := Lib.hid p5
        have HB5 := Lib.hid (below_chain HB4.out l5)
        have HS5 := Lib.hid (HS4.out.next l5)
        have HO65 := Lib.hid (Own.below HO64.out l5)
        have HO75 := Lib.hid (Own.below HO74.out l5)
        clear f5 p5 l5 hr0 hlo5 HS4 HO64 HO74
        simp only [doneR]
        have HO1 := Lib.hid (show Own (w5.alloc (.cells #[] 5)) w5.heap.size 5 1 (.slice (some ⟨w5.heap.size, 0, none⟩) 0 0) 0 (bf []) from Own.made _ _ _ (Nat.le_refl _) (Nat.zero_le _) rfl)
        go_wp2_with (first
          | (at_builtin
             refine wpl_app _ rfl (.tmp 108) (.tmp 109) 25 rfl w5.heap.size 5 i0 _ 1 1 Try.underlying25 hi0 hz0 hz1 hz2 rfl (by omega) _ 0 (bf []) rfl HO1.out w5.heap.size A4 X.length c4 (bf X) rfl (Rd.alloc HS5.out (Nat.le_refl _) _) (fun e => (HZ4.out e).2) (fun j _ => bf_one _ j) (by unfold maxLen; omega) (by omega) (by simp) ?_
             intro v6 w6 o6 g6 a6
             have HO6b := Lib.hid ((show Ob w6 w5.heap.size v6 X from Ob.app (l := []) o6).alloc (.cells #[.int .u8 (y : Int)] 5))
             have HB6 := Lib.hid (((Below.refl w5.heap.size w5).alloc (Nat.le_refl _) (.cells #[] 5)).grown g6 (by simp) (by intro q e; cases e; exact Nat.le_refl _))
             have hs6 := HB6.out.size
             clear o6 g6 a6)
          | (at_builtin
             refine wpl_app _ rfl (.tmp 110) (.tmp 112) 25 rfl w5.heap.size 5 i0 _ 1 1 Try.underlying25 hi0 hz0 hz1 hz2 rfl (by omega) _ X.length (bf X) rfl HO6b.out (w6.heap.size + 1) (some ⟨w6.heap.size, 0, none⟩) 1 1 (bf [y]) rfl (Rd.new fun j hj => by cases (Nat.lt_one_iff.1 hj); rfl) (by intro h; cases h) (fun j _ => bf_one _ j) (by unfold maxLen; omega) (by omega) (by simp; omega) ?_
             intro v7 w7 o7 g7 a7
             have HO7b := Lib.hid (show Ob w7 w5.heap.size v7 (X ++ [y]) from Ob.app o7)
             have HB7 := Lib.hid ((HB6.out.alloc hs6 (.cells #[.int .u8 (y : Int)] 5)).grown g7 (by simp; omega) (fun q e => (Own.block HO6b.out q e).1))
             obtain ⟨A8, c8, rfl, hcap8, hcm8, hz8⟩ := Own.shape HO7b.out
             have HZ8 := Lib.hid hz8
             clear o7 g7 a7 hz8)
          | fail)
        have HO67 := Lib.hid (Own.below HO65.out HB7.out)
        have hXy : (X ++ [y]).length ≤ 30001 := by rw [List.length_append]; show X.length + 1 ≤ _; omega
        have HC7 := Lib.hid (read_any A8 c8 (X ++ [y]) A6 c6 (asksOf l) w7 (Ob.bs HO7b.out) ⟨hcap8, hcm8⟩ HZ8.out (HXB.out.app (by intro z hz; rw [List.mem_singleton] at hz; omega)) (by omega) (HPA.out _ _ HO67.out) (by omega))
        rw [show (X ++ [y]).length = X.length + 1 from by rw [List.length_append]; rfl] at HC7
        refine (Hid.out HC7).mono ?_
        rintro e w9 ⟨A9, c9, out9, rfl, f9, p9, l9⟩
        have hr1 := readR_back l HOK.out [y]
        rw [← HX.out] at hr1
        rw [hr1.1]
        simp only [doneR]
        have HB59 := Lib.hid (below_chain HB7.out l9)
        clear f9 p9 l9 hr1 HO67 HO7b HZ8 HC7 hXy
        have HP9 := Lib.hid (pown_below HP5.out HB59.out)
        have HO79 := Lib.hid (Own.below HO75.out HB59.out)
        have HO69 := Lib.hid (Own.below HO65.out HB59.out)
        have HS9 := Lib.hid (HS5.out.next HB59.out)
        have HB9 := Lib.hid (below_chain HB5.out HB59.out)
        go_wp2_with fail
        have hsame := same_yes A5 c5 out5 A7 c7 (wantsOf l) w9 ⟨Own.rd HP9.out.own, pown_bs HP9.out⟩ ⟨Own.rd HO79.out, wants_bs (HI1.out.next HB9.out)⟩ (by rw [HLO5.out]; omega) HKEY.out
        refine hsame.mono ?_
        rintro e w10 ⟨rfl, l10⟩
        have HB10 := Lib.hid (below_chain HB9.out l10)
        have HS10 := Lib.hid (HS9.out.next l10)
        have HO610 := Lib.hid (Own.below HO69.out l10)
        clear l10 hsame
        by_cases hX0 : X.length = 0
        · have hX0b : ((X.length : Int) == 0) = true := by rw [hX0]; rfl
          go_wp2_with fail
          go_ret
          exact ⟨rfl, below_chain HB1.out HB10.out⟩
        · have hX0b : ((X.length : Int) == 0) = false := by rw [beq_eq_false_iff_ne]; omega
          have hsub : ((X.length : Int) - 1) = ((X.length - 1 : Nat) : Int) := by omega
          go_wp2_with fail
          have hYl : (X.take (X.length - 1)).length = X.length - 1 := by rw [List.length_take]; omega
          have HC8 := Lib.hid (read_any A4 c4 (X.take (X.length - 1)) A6 c6 (asksOf l) w10 (HS10.out.take _) ⟨by omega, hcm4⟩ (fun e => by have := (HZ4.out e); omega) (HXB.out.take _) (by omega) (HPA.out _ _ HO610.out) (by omega))
          rw [hYl] at HC8
          refine (Hid.out HC8).mono ?_
          rintro e w11 ⟨A11, c11, out11, rfl, f11, p11, l11⟩
          have hr2 := readR_fewer l HOK.out (by rw [← HX.out]; intro e; rw [e] at hX0; exact hX0 rfl)
          rw [← HX.out] at hr2
          rw [hr2]
          have HB11 := Lib.hid (below_chain HB10.out l11)
          clear f11 p11 l11 hr2 HC8 hYl hsub
          go_wp2_with fail
          go_ret
          exact ⟨rfl, below_chain HB1.out HB11.out⟩

set_option maxRecDepth 100000 in
theorem codeBack_lifted (os : Os) (started : os.Started) (H : Type) (enc : TypeId × Value → H) :
    ReturnsInHanded {} Try.checked os 6 .any (Rows.codeBackSpec.pre6 enc Try.prog Try.f6 Rows.codeBackRow.domain false) (Rows.codeBackSpec.post enc Try.prog Try.f6 false true false false) := by
  refine returnsInHanded_of_change (C := Try.checked) own started (by kernel_rfl) Try.func6
    (ChangeSpec.witness6 (enc := enc) (C := Try.checked) false ⟨#[], #[.slice none 0 0, .int .u8 0], []⟩ 8 (by kernel_rfl) (by kernel_rfl) (by kernel_rfl) (by kernel_rfl)) ?_
  intro W base args ds gs before hval0 hW _ _
  have hval : ∀ (j : Nat) t v, Try.f6.params[j]? = some t → args[j]? = some v → Value.okWide Try.prog W .any base t v := hval0
  have hW' := hW
  obtain ⟨p, q, hA0, hV, rfl, _, _⟩ := hW
  have hA : DataW.TrodAll enc Try.prog W 0 (fun _ => true) true Try.f6.params.toList args.toList ds p := hA0
  rw [Try.params6] at hA hval
  obtain ⟨v0, vs0, d0, ds0, p0, q0, hargs, rfl, rfl, h0, r0⟩ := trodAll_cons hA
  obtain ⟨v1, vs1, d1, ds1, p1, q1, rfl, rfl, rfl, h1, r1⟩ := trodAll_cons r0
  obtain ⟨rfl, rfl, rfl⟩ := trodAll_nil r1
  obtain rfl : args = #[v0, v1] := by cases args; simp_all
  obtain ⟨rfl, rfl⟩ := trodVars_none hV
  have k0 := h0
  have lt0 : ∀ x ∈ p0, x.block < W.heap.size := by obtain ⟨m, hm⟩ := k0; exact DataW.trod_lt m _ _ _ hm
  obtain ⟨A0, c0, l0, rfl, b0⟩ := open_Ps (hval 0 23 v0 rfl rfl) h0
  have k1 := h1
  have lt1 : ∀ x ∈ p1, x.block < W.heap.size := by obtain ⟨m, hm⟩ := k1; exact DataW.trod_lt m _ _ _ hm
  obtain ⟨n1, rfl, f1⟩ := open_u8 (hval 1 5 v1 rfl rfl) h1
  clear hA0 hval0 hval
  refine (codeBack_walk W A0 c0 l0 b0 n1 f1).mono fun e W' ⟨he, bel⟩ => ?_
  subst he
  exact ⟨_, rfl, _, _, _, [], _, [], hW', trodAll_mk1 (shut_bool Try.underlying4 _), (trodAll_cons_mk (Below.trod laidOut (by kernel_rfl) (of_decide_eq_true (by kernel_rfl)) k0 bel lt0) (trodAll_cons_mk (Below.trod laidOut (by kernel_rfl) (of_decide_eq_true (by kernel_rfl)) k1 bel lt1) trodAll_mk0)), rfl, bel.frame _, fun h => by cases h⟩

theorem codeBack_holds : Rows.CodeBackSaid :=
  OpenClaim.holds_of_wide 6 Try.f6 rfl rfl rfl rfl rfl rfl rfl ⟨rfl, rfl, rfl, rfl, rfl⟩ rfl rfl rfl rfl rfl (by kernel_rfl) Try.func6 (by kernel_rfl)
    (of_decide_eq_true (by kernel_rfl)) (by unfold Func.isWrapper; first | (rw [if_pos (by decide +kernel)]; kernel_rfl) | (rw [if_neg (by decide +kernel)]; exact ⟨rfl, rfl⟩))
    (fun os started H enc _ => codeBack_lifted os started H enc)
#print axioms codeBack_holds
end Go.Proofs.Ytbnlobfhcanbgaa
