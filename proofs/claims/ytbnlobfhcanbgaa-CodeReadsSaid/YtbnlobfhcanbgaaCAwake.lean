/- awake answers true. -/
import Derived.Test.YtbnlobfhcanbgaaStr
import Derived.Lib.SlBytesConst
namespace Go.Proofs.Ytbnlobfhcanbgaa
open Go Go.RowKit
/-- The cells of parts, one part behind the other. -/
theorem pf_flat (l : List Pt) (j : Nat) (hj : j < l.length * 37) : (l.map ptc).flatten[j]? = some (pf l j) := by
  induction l generalizing j with
  | nil => simp at hj
  | cons x l ih =>
    rw [List.map_cons, List.flatten_cons]
    by_cases h : j < 37
    · rw [List.getElem?_append_left (by rw [ptc_len]; exact h)]
      unfold pf
      rw [show j / 37 = 0 from by omega, show j % 37 = j from by omega]
      simp [List.getElem?_eq_getElem (show j < (ptc x).length by rw [ptc_len]; exact h)]
    · rw [List.getElem?_append_right (by rw [ptc_len]; omega), ptc_len, ih (j - 37) (by simp at hj; omega)]
      unfold pf
      rw [show j / 37 = (j - 37) / 37 + 1 from by omega, show (j - 37) % 37 = j % 37 from by omega, List.getElem?_cons_succ]
theorem pts_new {w : World} {e : TypeId} {cs : Array Value} {l : List Pt} (hcs : cs = ((l.map ptc).flatten).toArray) : Rd (w.alloc (.cells cs e)) (w.heap.size + 1) 37 (some ⟨w.heap.size, 0, none⟩) l.length (pf l) :=
  Rd.new fun j hj => by rw [hcs, List.getElem?_toArray]; exact pf_flat l j hj
/-- The parts of awake's first call. -/
def aw1 (g : Nat) : List Pt := [{ Pt.nil with kind := 1 }, { Pt.nil with kind := 1, n := -1 }, { Pt.nil with kind := 1, n := 64 }, { Pt.nil with kind := 2, A := some ⟨g, 0, none⟩, c := 2, b := [97, 98] }]
theorem aw1_wrs (g : Nat) : wrs (aw1 g) = [0, 1, 129, 0, 4, 97, 98] := by
  have e0 : enc 0 = [0] := by decide
  have e1 : enc (-1) = [1] := by decide
  have e2 : enc 64 = [129, 0] := by decide
  have e3 : enc 2 = [4] := by decide
  simp [wrs, aw1, wr1, Pt.nil, e0, e1, e2, e3]
theorem ptok_num {w : World} {B : Nat} {k n least most : Int} (h1 : Fit n) (h2 : Fit least) (h3 : Fit most) : PtOk w B { Pt.nil with kind := k, n := n, least := least, most := most } :=
  ⟨Bs.nil, fun _ => ⟨rfl, rfl⟩, (fun _ h => by cases h), by simp [Pt.nil], ⟨h1, h2, h3⟩, fun _ => by simp [Pt.nil]⟩
theorem aw1_pts (w w1 : World) (hw1 : w1 = w.alloc (.cells #[.int .u8 97, .int .u8 98] 5 (2, 3))) (cs : Array Value) (hcs : cs = (((aw1 w.heap.size).map ptc).flatten).toArray) :
    Pts (w1.alloc (.cells cs 28)) (w1.alloc (.cells cs 28)).heap.size (some ⟨w1.heap.size, 0, none⟩) 4 (aw1 w.heap.size) := by
  refine ⟨(pts_new hcs).more (by simp), (by intro h; cases h), ?_⟩
  intro x hx
  simp only [aw1, List.mem_cons, List.not_mem_nil, or_false] at hx
  rcases hx with rfl | rfl | rfl | rfl
  · exact ptok_num (by unfold Fit; decide) (by unfold Fit; decide) (by unfold Fit; decide)
  · exact ptok_num (by unfold Fit; decide) (by unfold Fit; decide) (by unfold Fit; decide)
  · exact ptok_num (by unfold Fit; decide) (by unfold Fit; decide) (by unfold Fit; decide)
  · refine ⟨?_, (fun h => by cases h), (show Byt [97, 98] by unfold Byt; decide), by simp, ⟨by unfold Fit; simp [Pt.nil], by unfold Fit; simp [Pt.nil], by unfold Fit; simp [Pt.nil]⟩, fun _ => by simp [Pt.nil]⟩
    intro _
    refine ⟨w.heap.size, 0, rfl, by rw [hw1]; simp; omega, fun j hj => ?_⟩
    have hj2 : j < 2 := hj
    rw [hw1]
    have hblk := alloc_old (o := .cells cs 28) (alloc_new w (.cells #[.int .u8 97, .int .u8 98] 5 (2, 3)) w.heap.size rfl)
    match j, hj2 with
    | 0, _ => unfold World.cell?; rw [hblk]; rfl
    | 1, _ => unfold World.cell?; rw [hblk]; rfl
/-- What awake's readers ask for: a number, at most 5. -/
def ask5 : Pt := { Pt.nil with kind := 1, most := 5 }
theorem ask5_pts (w : World) (cs : Array Value) (hcs : cs = (([ask5].map ptc).flatten).toArray) :
    Pts (w.alloc (.cells cs 28)) (w.alloc (.cells cs 28)).heap.size (some ⟨w.heap.size, 0, none⟩) 1 [ask5] := by
  refine ⟨(pts_new hcs).more (by simp), (by intro h; cases h), ?_⟩
  intro x hx
  simp only [List.mem_cons, List.not_mem_nil, or_false] at hx
  subst hx
  exact ptok_num (by unfold Fit; decide) (by unfold Fit; decide) (by unfold Fit; decide)
theorem num_5 : num 0 true [0] = some (0, []) := by decide
theorem read_a : readR [ask5] (some [0]) = ([{ Pt.nil with kind := 1 }], some []) := by
  simp [readR, takeR, ask5, Pt.nil, intR, num_5, unzz]
theorem read_b : (readR [ask5] (some [128, 1])).2 = none ∧ (readR [ask5] (some [128, 1])).1.length = 1 := by
  have h : num 0 true [128, 1] = none := by decide
  simp [readR, takeR, ask5, Pt.nil, intR, h]
theorem read_c : (readR [ask5] (some [0, 0])).2 = some [0] ∧ (readR [ask5] (some [0, 0])).1.length = 1 := by
  have h : num 0 true [0, 0] = some (0, [0]) := by decide
  simp [readR, takeR, ask5, Pt.nil, intR, h, unzz]
set_option maxRecDepth 100000 in
set_option maxHeartbeats 4000000 in
theorem awake_any (w : World) : Calls Try.prog 11 #[] w fun e w' => e = .returned (.bool true) ∧ Below w.heap.size w w' := by
  go_enter Try.func11, Try.ntmps11
  have hcv := Lib.run_convert_bytes_const (P := Try.prog) w 25 5 #[.int .u8 97, .int .u8 98] 2 2 Try.underlying25 Try.underlying5
  go_wp2_with fail
  obtain ⟨w1, hw1⟩ : ∃ w1, w1 = w.alloc (.cells #[.int .u8 97, .int .u8 98] 5 (2, 3)) := ⟨_, rfl⟩
  have hs1 : w1.heap.size = w.heap.size + 1 := by rw [hw1]; simp
  have hp1 := aw1_pts w w1 hw1 _ rfl
  have HC := Lib.hid (written_any _ 4 _ _ hp1 (by simp [aw1]))
  rw [← hs1, ← hw1]
  refine (Hid.out HC).mono ?_
  rintro e w2 ⟨A2, c2, rfl, b2, z2, o2, l2⟩
  rw [aw1_wrs] at b2 o2
  have hl2 : (wrs (aw1 w.heap.size)).length = 7 := by rw [aw1_wrs]; rfl
  rw [hl2]
  clear hcv HC hp1
  obtain ⟨g2, cc, hv2, hg2, hgs2, hcap, hcm⟩ := Own.form o2 (by decide)
  obtain ⟨rfl, -, rfl⟩ := Value.slice.inj hv2
  have hc7 : 7 ≤ c2 := hcap
  clear hv2 hcap
  go_wp2_with fail
  have HB := Lib.hid b2
  have HR3 := Lib.hid (read_any (some ⟨g2, 0, none⟩) c2 [0] (some ⟨w2.heap.size, 0, none⟩) 1 [ask5] (w2.alloc (.cells (([ask5].map ptc).flatten).toArray 28)) ((b2.take 1).alloc (Nat.le_refl _) _ |>.more (by simp)) ⟨by simp; omega, hcm⟩ (fun h => by cases h) (by unfold Byt; decide) (by decide) (ask5_pts _ _ rfl) (by decide))
  have L2 := Lib.hid l2
  clear b2 o2 l2
  refine (Hid.out HR3).mono ?_
  rintro e w3 ⟨A3, c3, out3, rfl, f3, p3, l3⟩
  rw [read_a] at f3
  simp only [read_a, doneR]
  have hn3 : out3.length = 1 := by have := congrArg List.length f3; simpa using this
  rw [hn3]
  clear HR3 f3 p3
  have HB3 := Lib.hid (Bs.next HB.out (below_step l3))
  have L3 := Lib.hid (below_step l3)
  clear HB l3 
  go_wp2_with fail
  have HR4 := Lib.hid (read_any (some ⟨w3.heap.size, 0, none⟩) 2 [128, 1] (some ⟨w3.heap.size + 1, 0, none⟩) 1 [ask5] ((w3.alloc (.cells #[.int .u8 128, .int .u8 1] 5)).alloc (.cells (([ask5].map ptc).flatten).toArray 28)) (((Bs.new rfl).alloc (by simp) _).more (by simp)) ⟨by decide, by decide⟩ (fun h => by cases h) (by unfold Byt; decide) (by decide) (by have := ask5_pts (w3.alloc (.cells #[.int .u8 128, .int .u8 1] 5)) _ rfl; simpa using this) (by decide))
  refine (Hid.out HR4).mono ?_
  rintro e w4 ⟨A4, c4, out4, rfl, f4, p4, l4⟩
  have hn4 : out4.length = 1 := by have := congrArg List.length f4; rw [read_b.2] at this; simpa using this
  rw [hn4, read_b.1]
  simp only [doneR]
  clear HR4 f4 p4
  have HB4 := Lib.hid (Bs.next HB3.out (below_step2 l4))
  have L4 := Lib.hid (below_step2 l4)
  clear HB3 l4
  go_wp2_with fail
  have HR5 := Lib.hid (read_any (some ⟨w4.heap.size, 0, none⟩) 2 [0, 0] (some ⟨w4.heap.size + 1, 0, none⟩) 1 [ask5] ((w4.alloc (.cells #[.int .u8 0, .int .u8 0] 5)).alloc (.cells (([ask5].map ptc).flatten).toArray 28)) (((Bs.new rfl).alloc (by simp) _).more (by simp)) ⟨by decide, by decide⟩ (fun h => by cases h) (by unfold Byt; decide) (by decide) (by have := ask5_pts (w4.alloc (.cells #[.int .u8 0, .int .u8 0] 5)) _ rfl; simpa using this) (by decide))
  refine (Hid.out HR5).mono ?_
  rintro e w5 ⟨A5, c5, out5, rfl, f5, p5, l5⟩
  have hn5 : out5.length = 1 := by have := congrArg List.length f5; rw [read_c.2] at this; simpa using this
  rw [hn5, read_c.1]
  simp only [doneR]
  clear HR5 f5 p5
  have HB5 := Lib.hid (Bs.next HB4.out (below_step2 l5))
  have L5 := Lib.hid (below_step2 l5)
  clear HB4 l5
  obtain ⟨S, hS⟩ : ∃ S, S = str [0, 1, 129, 0, 4, 97, 98] := ⟨_, rfl⟩
  have hc1 := str_convN 7 c2 HB5.out rfl
  have hc2 := str_convN 7 7 (Bs.new (w := w5) (e := 5) (cs := #[.int .u8 0, .int .u8 1, .int .u8 129, .int .u8 0, .int .u8 4, .int .u8 97, .int .u8 98]) (l := [0, 1, 129, 0, 4, 97, 98]) rfl) rfl
  rw [← hS] at hc1 hc2
  clear hS
  go_wp2_with fail
  go_ret
  refine ⟨rfl, ?_⟩
  have M1 : Below w.heap.size w w1 := by rw [hw1]; exact (Below.refl _ _).alloc (Nat.le_refl _) _
  have M2 := below_chain M1 (below_step L2.out)
  have M3 := below_chain M2 L3.out
  have M4 := below_chain M3 L4.out
  have M5 := below_chain M4 L5.out
  exact M5.alloc M5.size _
end Go.Proofs.Ytbnlobfhcanbgaa
