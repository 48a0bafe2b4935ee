/- take's contract (of the statements' package). -/
import Derived.Test.YtbnlobfhcanbgaaWritten
namespace Go.Proofs.Ytbnlobfhcanbgaa
open Go Go.RowKit

/-- What a part says, wherever its bytes lie. -/
def Pt.face (x : Pt) : Pt := { x with A := none, c := 0 }
/-- What a reader answers to a part, and what it has left. -/
def takeR (x : Pt) (s : Option (List Nat)) : Option Pt × Option (List Nat) :=
  if x.kind = 1 then (some { Pt.nil with kind := 1, n := (intR x.least x.most s).1 }, (intR x.least x.most s).2)
  else if x.kind = 2 then (some { Pt.nil with kind := 2, b := (textR (x.most.tmod 100000) s).1 }, (textR (x.most.tmod 100000) s).2)
  else if x.kind = 3 then (some { Pt.nil with kind := 3, h := (hashR s).1 }, (hashR s).2)
  else (none, s)
/-- A part's bytes lie in memory of the call's own (blocks from base on). -/
structure PtMem (w : World) (base : Nat) (x : Pt) : Prop where
  own : Ob w base (.slice x.A x.b.length x.c) x.b
  none_ : x.A = none → x.c = 0
section
variable {w w' : World} {base p : Nat} {x : Pt}
theorem PtMem.grown (h : PtMem w base x) (hg : w.grownBy w' (some p)) (hp : p < base) : PtMem w' base x :=
  ⟨Own.kept h.own hg (.inr fun e => by have := (Own.block h.own _ e).1; omega), h.none_⟩
theorem PtMem.below (h : PtMem w base x) (hb : Below w.heap.size w w') : PtMem w' base x := ⟨Own.below h.own hb, h.none_⟩
theorem PtMem.mono {base' : Nat} (h : PtMem w base x) (hb : base' ≤ base) : PtMem w base' x := ⟨Own.mono h.own hb, h.none_⟩
end
/-- How take ends. -/
def TkEnd (p : Nat) (r : Option Pt × Option (List Nat)) (w : World) (e : Ending) (w' : World) : Prop :=
  ∃ y, e = .returned (.tuple #[.agg (ptc y).toArray, .bool r.1.isSome]) ∧ (∀ z, r.1 = some z → y.face = z) ∧ PtMem w' w.heap.size y ∧ w.grownBy w' (some p) ∧ RS w' p r.2
theorem results_cell_tmp {P : Program} {fn : Func} {p t : Tmp} {ty : TypeId} (h : fn.results = #[.cell p ty, .tmp t]) (tmps : Array Value) (w : World) (g : Nat) (u : TypeId) (cs : Array Value) (fr : Nat × Nat) (d : TypeDesc)
    (hp : tmps.getD p undef = .pointer (some ⟨g, 0, none⟩)) (hg : w.heap[g]? = some (.cells cs u fr))
    (hu : P.underlying ty = some d) (hd : (match d with | .struct _ | .array _ _ => true | _ => false) = true) (hi : (P.info? ty).map (·.size) = some cs.size) :
    (results fn tmps).run P w = .ok (.tuple #[.agg cs, tmps.getD t undef]) w := by
  have hp' : tmps[p]?.getD undef = .pointer (some ⟨g, 0, none⟩) := by simpa using hp
  simp [results, h, hp', asAddr, run_loadVar_row w g u ty cs fr d hg hu hd hi]
theorem size_pt {x : Pt} : (Try.prog.info? 28).map (·.size) = some (ptc x).toArray.size := by rw [List.size_toArray, ptc_len]; kernel_rfl
theorem all_pt (x : Pt) : (ptc x).toArray.all (·.oneCell') = true := by
  refine Array.all_eq_true_iff_forall_mem.2 fun v hv => ?_
  have hv' : v ∈ ptc x := by simpa using hv
  unfold ptc at hv'
  rcases List.mem_append.1 hv' with h | h
  · simp at h; rcases h with rfl | rfl | rfl | rfl | rfl <;> rfl
  · exact hc_one _ v h
theorem ptsz (x y : Pt) : (ptc x).toArray.size = (ptc y).toArray.size := by rw [List.size_toArray, List.size_toArray, ptc_len, ptc_len]
theorem row_grown (w : World) (g : Nat) (cs : Array Value) : w.grownBy (w.setRow g cs) (some g) :=
  ⟨rfl, rfl, rfl, by simp [World.setRow], fun i _ hne => setRow_other w g i cs (fun e => hne (by rw [e]))⟩
/-- The end of take, when the part y lies in its result. -/
theorem tk_end {p : Nat} {r : Option Pt × Option (List Nat)} {a w3 : World} {y : Pt} (ha : a.grownBy w3 (some p)) (hp : p < a.heap.size) (hr : RS w3 p r.2) (hy : ∀ z, r.1 = some z → y.face = z) (hm : PtMem (w3.setRow (a.heap.size + 1) (ptc y).toArray) a.heap.size y) :
    TkEnd p r a (.returned (.tuple #[.agg (ptc y).toArray, .bool r.1.isSome])) (w3.setRow (a.heap.size + 1) (ptc y).toArray) := by
  have hb2 := below_setRow (g := a.heap.size + 1) (Below.refl (a.heap.size + 1) w3) (Nat.le_refl _) (ptc y).toArray
  refine ⟨y, rfl, hy, hm, ?_, hr.belowB (by omega) hb2⟩
  exact ⟨hb2.os.trans ha.os, hb2.tape.trans ha.tape, hb2.output.trans ha.output, Nat.le_trans ha.size hb2.size, fun i hi hne => (hb2.block i (by omega)).trans (ha.block i hi hne)⟩
theorem PtMem.zero {w : World} {base : Nat} {k n : Int} {h : Nat → Nat} : PtMem w base { Pt.nil with kind := k, n := n, h := h } := ⟨Ob.nil, fun _ => rfl⟩
theorem fold_set (l : List Value) : ∀ (k : Nat) (A B : List Value), A.length = 5 + k → B.length = l.length → (l.zipIdx k).foldl (fun (cs : Array Value) (x : Value × Nat) => cs.setIfInBounds (5 + x.2) x.1) (A ++ B).toArray = (A ++ l).toArray := by
  induction l with
  | nil => intro k A B _ hB; rw [List.eq_nil_of_length_eq_zero hB]; rfl
  | cons v l ih =>
    intro k A B hA hB
    cases B with
    | nil => simp at hB
    | cons b B =>
      rw [List.zipIdx_cons, List.foldl_cons]
      have h1 : (A ++ b :: B).toArray.setIfInBounds (5 + k) v = ((A ++ [v]) ++ B).toArray := by
        rw [List.setIfInBounds_toArray, ← hA, List.set_append_right _ _ (Nat.le_refl _)]
        simp
      simp only [h1]
      rw [ih (k + 1) (A ++ [v]) B (by simp; omega) (by simpa using hB)]
      simp
theorem fold_hc (h : Nat → Nat) : Array.foldl (fun (cs : Array Value) (x : Value × Nat) => cs.setIfInBounds (5 + x.2) x.1) (ptc { Pt.nil with kind := 3 }).toArray ((hc h).zipIdx) 0 32 = (ptc { Pt.nil with kind := 3, h := h }).toArray := by
  have hsz : ((hc h).zipIdx).size = 32 := by simp [hc]
  have h1 := Array.foldl_toList (fun (cs : Array Value) (x : Value × Nat) => cs.setIfInBounds (5 + x.2) x.1) (init := (ptc { Pt.nil with kind := 3 }).toArray) (xs := (hc h).zipIdx)
  rw [hsz] at h1
  rw [← h1, Array.toList_zipIdx]
  exact fold_set _ 0 [.int .i64 3, .int .i64 0, .int .i64 0, .int .i64 0, .slice none 0 0] _ rfl (by simp [hc])
set_option maxHeartbeats 4000000 in
theorem take_k1 (p : Nat) (s : Option (List Nat)) (x : Pt) (w : World) (h : RS w p s) (hl : ∀ l, s = some l → l.length ≤ 1000000) (hf1 : Fit x.least) (hf2 : Fit x.most) (hk1 : x.kind = 1) :
    Calls Try.prog 30 #[.pointer (some ⟨p, 0, none⟩), .agg (ptc x).toArray] w (TkEnd p (takeR x s) w) := by
  have hp := h.lt
  have HL := Lib.hid hl
  clear hl
  obtain ⟨P, hP⟩ : ∃ P, P = (ptc x).toArray := ⟨_, rfl⟩
  have hsz : P.size = 37 := by rw [hP, List.size_toArray, ptc_len]
  have h0 : P[0]'(by omega) = .int .i64 x.kind := by subst hP; rfl
  have h2 : P[2]'(by omega) = .int .i64 x.least := by subst hP; rfl
  have h3 : P[3]'(by omega) = .int .i64 x.most := by subst hP; rfl
  rw [← hP]
  clear hP
  have hb1 : (x.kind == 1) = true := by simp [hk1]
  go_enter Try.func30, Try.ntmps30
  go_upto_region 3 with (fail)
  refine wp_region_list ?_
  repeat (first | go_values | go_skip | go_guarded | go_step | go_upon)
  refine (int_any p s x.least x.most _ ((h.alloc _).alloc _) HL.out hf1 hf2).mono ?_
  rintro e w3 ⟨rfl, hg, hr⟩
  have hblk : w3.heap[w.heap.size + 1]? = some (.cells (ptc Pt.nil).toArray 28 (0, 0)) :=
    (hg.block (w.heap.size + 1) (by simp) (fun e => by injection e with e; omega)).trans (alloc_new _ _ _ (by simp))
  have HG := Lib.hid (only_trans (only_trans (grown_alloc w _ _) (grown_alloc _ _ _)) hg)
  have HR := Lib.hid hr
  have HB := Lib.hid hblk
  have HT := Lib.hid (show takeR x s = (some { Pt.nil with kind := 1, n := (intR x.least x.most s).1 }, (intR x.least x.most s).2) from by unfold takeR; rw [if_pos hk1])
  clear hg hr hblk hk1
  generalize intR x.least x.most s = R at *
  simp only []
  go_at_K
  repeat (first
    | refine wpList_store_row (by rfl) 28 (.tmp 4) (.tmp 16) (by rfl) (w.heap.size + 1) (ptc { Pt.nil with kind := 1, n := R.1 }).toArray (by rfl) (by rfl) 28 _ HB.out size_pt (ptsz _ _) (all_pt _) ?_
    | go_values | go_skip | go_guarded | go_step | go_upon)
  go_wp2
  refine bodyPost_ret (v := .tuple #[.agg (ptc { Pt.nil with kind := 1, n := R.1 }).toArray, .bool true]) (results_cell_tmp (p := 4) (t := 5) rfl _ _ (w.heap.size + 1) 28 _ (0, 0) _ rfl (setRow_heap _ _ _ _ _ _ HB.out) Try.underlying28 rfl size_pt) rfl ?_
  rw [HT.out]
  exact tk_end HG.out hp HR.out (by rintro z h; cases h; rfl) PtMem.zero
set_option maxHeartbeats 4000000 in
theorem take_k2 (p : Nat) (s : Option (List Nat)) (x : Pt) (w : World) (h : RS w p s) (hl : ∀ l, s = some l → l.length ≤ 1000000) (_hf1 : Fit x.least) (_hf2 : Fit x.most) (hk1 : ¬ x.kind = 1) (hk2 : x.kind = 2) :
    Calls Try.prog 30 #[.pointer (some ⟨p, 0, none⟩), .agg (ptc x).toArray] w (TkEnd p (takeR x s) w) := by
  have hp := h.lt
  have HL := Lib.hid hl
  clear hl
  obtain ⟨P, hP⟩ : ∃ P, P = (ptc x).toArray := ⟨_, rfl⟩
  have hsz : P.size = 37 := by rw [hP, List.size_toArray, ptc_len]
  have h0 : P[0]'(by omega) = .int .i64 x.kind := by subst hP; rfl
  have h2 : P[2]'(by omega) = .int .i64 x.least := by subst hP; rfl
  have h3 : P[3]'(by omega) = .int .i64 x.most := by subst hP; rfl
  rw [← hP]
  clear hP
  have hb1 : (x.kind == 1) = false := by simp [hk1]
  have hb2 : (x.kind == 2) = true := by simp [hk2]
  have hft : Fit (x.most.tmod 100000) := by have h1 : (x.most.tmod 100000).natAbs = x.most.natAbs % 100000 := Int.natAbs_tmod _ _; unfold Fit; omega
  go_enter Try.func30, Try.ntmps30
  go_upto_region 5 with (fail)
  refine wp_region_list ?_
  repeat (first | go_values | go_skip | go_guarded | go_step | go_upon)
  refine (text_any p s (x.most.tmod 100000) _ ((h.alloc _).alloc _) HL.out hft).mono ?_
  rintro e w3 ⟨A, c, rfl, hg, hr, ho, hz⟩
  have hblk : w3.heap[w.heap.size + 1]? = some (.cells (ptc Pt.nil).toArray 28 (0, 0)) :=
    (hg.block (w.heap.size + 1) (by simp) (fun e => by injection e with e; omega)).trans (alloc_new _ _ _ (by simp))
  have HG := Lib.hid (only_trans (only_trans (grown_alloc w _ _) (grown_alloc _ _ _)) hg)
  have HR := Lib.hid hr
  have HB := Lib.hid hblk
  have HT := Lib.hid (show takeR x s = (some { Pt.nil with kind := 2, b := (textR (x.most.tmod 100000) s).1 }, (textR (x.most.tmod 100000) s).2) from by unfold takeR; rw [if_neg hk1, if_pos hk2])
  have HO := Lib.hid ho
  have HZ := Lib.hid hz
  clear hg hr hblk hk1 hk2 ho hz
  generalize textR (x.most.tmod 100000) s = R at *
  simp only []
  go_at_K
  repeat (first
    | refine wpList_store_row (by rfl) 28 (.tmp 4) (.tmp 24) (by rfl) (w.heap.size + 1) (ptc { Pt.nil with kind := 2, A := A, c := c, b := R.1 }).toArray (by rfl) (by rfl) 28 _ HB.out size_pt (ptsz _ _) (all_pt _) ?_
    | go_values | go_skip | go_guarded | go_step | go_upon)
  go_wp2
  refine bodyPost_ret (v := .tuple #[.agg (ptc { Pt.nil with kind := 2, A := A, c := c, b := R.1 }).toArray, .bool true]) (results_cell_tmp (p := 4) (t := 5) rfl _ _ (w.heap.size + 1) 28 _ (0, 0) _ rfl (setRow_heap _ _ _ _ _ _ HB.out) Try.underlying28 rfl size_pt) rfl ?_
  rw [HT.out]
  exact tk_end HG.out hp HR.out (by rintro z h; cases h; rfl) ⟨Own.mono (Own.kept HO.out (row_grown w3 (w.heap.size + 1) _) (.inr (fun e => by have := (Own.block HO.out _ e).1; simp at this; omega))) (by simp; omega), HZ.out⟩
set_option maxHeartbeats 4000000 in
theorem take_k3 (p : Nat) (s : Option (List Nat)) (x : Pt) (w : World) (h : RS w p s) (hl : ∀ l, s = some l → l.length ≤ 1000000) (_hf1 : Fit x.least) (_hf2 : Fit x.most) (hk1 : ¬ x.kind = 1) (hk2 : ¬ x.kind = 2) (hk3 : x.kind = 3) :
    Calls Try.prog 30 #[.pointer (some ⟨p, 0, none⟩), .agg (ptc x).toArray] w (TkEnd p (takeR x s) w) := by
  have hp := h.lt
  have HL := Lib.hid hl
  clear hl
  obtain ⟨P, hP⟩ : ∃ P, P = (ptc x).toArray := ⟨_, rfl⟩
  have hsz : P.size = 37 := by rw [hP, List.size_toArray, ptc_len]
  have h0 : P[0]'(by omega) = .int .i64 x.kind := by subst hP; rfl
  have h2 : P[2]'(by omega) = .int .i64 x.least := by subst hP; rfl
  have h3 : P[3]'(by omega) = .int .i64 x.most := by subst hP; rfl
  rw [← hP]
  clear hP
  have hb1 : (x.kind == 1) = false := by simp [hk1]
  have hb2 : (x.kind == 2) = false := by simp [hk2]
  have hb3 : (x.kind == 3) = true := by simp [hk3]
  go_enter Try.func30, Try.ntmps30
  go_upto_region 7 with (fail)
  refine wp_region_list ?_
  repeat (first | go_values | go_skip | go_guarded | go_step | go_upon)
  refine (hash_any p s _ ((h.alloc _).alloc _) HL.out).mono ?_
  rintro e w3 ⟨rfl, hg, hr⟩
  have hblk : w3.heap[w.heap.size + 1]? = some (.cells (ptc Pt.nil).toArray 28 (0, 0)) :=
    (hg.block (w.heap.size + 1) (by simp) (fun e => by injection e with e; omega)).trans (alloc_new _ _ _ (by simp))
  have HG := Lib.hid (only_trans (only_trans (grown_alloc w _ _) (grown_alloc _ _ _)) hg)
  have HR := Lib.hid hr
  have HB := Lib.hid hblk
  have HT := Lib.hid (show takeR x s = (some { Pt.nil with kind := 3, h := (hashR s).1 }, (hashR s).2) from by unfold takeR; rw [if_neg hk1, if_neg hk2, if_pos hk3])
  clear hg hr hblk hk1 hk2 hk3
  generalize hashR s = R at *
  have hsz3 := hc_size R.1
  simp only []
  go_at_K
  repeat (first
    | refine wpList_store_row (by rfl) 28 (.tmp 4) (.tmp 29) (by rfl) (w.heap.size + 1) (ptc { Pt.nil with kind := 3, h := R.1 }).toArray (by rfl) (congrArg Value.agg (fold_hc R.1)) 28 _ HB.out size_pt (ptsz _ _) (all_pt _) ?_
    | go_values | go_skip | go_guarded | go_step | go_upon)
  go_wp2
  refine bodyPost_ret (v := .tuple #[.agg (ptc { Pt.nil with kind := 3, h := R.1 }).toArray, .bool true]) (results_cell_tmp (p := 4) (t := 5) rfl _ _ (w.heap.size + 1) 28 _ (0, 0) _ rfl (setRow_heap _ _ _ _ _ _ HB.out) Try.underlying28 rfl size_pt) rfl ?_
  rw [HT.out]
  exact tk_end HG.out hp HR.out (by rintro z h; cases h; rfl) PtMem.zero
set_option maxHeartbeats 4000000 in
theorem take_k4 (p : Nat) (s : Option (List Nat)) (x : Pt) (w : World) (h : RS w p s) (hl : ∀ l, s = some l → l.length ≤ 1000000) (_hf1 : Fit x.least) (_hf2 : Fit x.most) (hk1 : ¬ x.kind = 1) (hk2 : ¬ x.kind = 2) (hk3 : ¬ x.kind = 3) :
    Calls Try.prog 30 #[.pointer (some ⟨p, 0, none⟩), .agg (ptc x).toArray] w (TkEnd p (takeR x s) w) := by
  have hp := h.lt
  have HL := Lib.hid hl
  clear hl
  obtain ⟨P, hP⟩ : ∃ P, P = (ptc x).toArray := ⟨_, rfl⟩
  have hsz : P.size = 37 := by rw [hP, List.size_toArray, ptc_len]
  have h0 : P[0]'(by omega) = .int .i64 x.kind := by subst hP; rfl
  have h2 : P[2]'(by omega) = .int .i64 x.least := by subst hP; rfl
  have h3 : P[3]'(by omega) = .int .i64 x.most := by subst hP; rfl
  rw [← hP]
  clear hP
  have hb1 : (x.kind == 1) = false := by simp [hk1]
  have hb2 : (x.kind == 2) = false := by simp [hk2]
  have hb3 : (x.kind == 3) = false := by simp [hk3]
  go_enter Try.func30, Try.ntmps30
  go_upto_region 8 with (fail)
  obtain ⟨w3, hw3⟩ : ∃ w3, w3 = (w.alloc (.cells P 28)).alloc (.cells (ptc Pt.nil).toArray 28) := ⟨_, rfl⟩
  have hg : w.grownBy w3 (some p) := by rw [hw3]; exact only_trans (grown_alloc w _ _) (grown_alloc _ _ _)
  have hr : RS w3 p s := by rw [hw3]; exact (h.alloc _).alloc _
  have hblk : w3.heap[w.heap.size + 1]? = some (.cells (ptc Pt.nil).toArray 28 (0, 0)) := by rw [hw3]; exact alloc_new _ _ _ (by simp)
  have HG := Lib.hid hg
  have HR := Lib.hid hr
  have HB := Lib.hid hblk
  have HT := Lib.hid (show takeR x s = (none, s) from by unfold takeR; rw [if_neg hk1, if_neg hk2, if_neg hk3])
  clear hg hr hblk hk1 hk2 hk3
  refine wp_region_list ?_
  change wpList _ _ _ _ _ ((w.alloc (.cells P 28)).alloc (.cells (ptc Pt.nil).toArray 28))
  rw [← hw3]
  clear hw3
  repeat (first
    | refine wpList_store_row (by rfl) 28 (.tmp 4) (.tmp 30) (by rfl) (w.heap.size + 1) (ptc Pt.nil).toArray (by rfl) (by rfl) 28 _ HB.out size_pt (ptsz _ _) (all_pt _) ?_
    | go_values | go_skip | go_guarded | go_step | go_upon)
  go_wp2
  refine bodyPost_ret (v := .tuple #[.agg (ptc Pt.nil).toArray, .bool false]) (results_cell_tmp (p := 4) (t := 5) rfl _ _ (w.heap.size + 1) 28 _ (0, 0) _ rfl (setRow_heap _ _ _ _ _ _ HB.out) Try.underlying28 rfl size_pt) rfl ?_
  rw [HT.out]
  exact tk_end HG.out hp HR.out (by rintro z h; cases h) PtMem.zero
set_option maxHeartbeats 4000000 in
theorem take_law (p : Nat) (s : Option (List Nat)) (x : Pt) (w : World) (h : RS w p s) (hl : ∀ l, s = some l → l.length ≤ 1000000) (hf1 : Fit x.least) (hf2 : Fit x.most) :
    Calls Try.prog 30 #[.pointer (some ⟨p, 0, none⟩), .agg (ptc x).toArray] w (TkEnd p (takeR x s) w) := by
  by_cases hk1 : x.kind = 1
  · exact take_k1 p s x w h hl hf1 hf2 hk1
  · by_cases hk2 : x.kind = 2
    · exact take_k2 p s x w h hl hf1 hf2 hk1 hk2
    · by_cases hk3 : x.kind = 3
      · exact take_k3 p s x w h hl hf1 hf2 hk1 hk2 hk3
      · exact take_k4 p s x w h hl hf1 hf2 hk1 hk2 hk3
end Go.Proofs.Ytbnlobfhcanbgaa
