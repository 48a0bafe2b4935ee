/- CodeApart holds: unlike numbers have unlike bytes, and none's begin another's, and a reader that gave up answers nothing any more. Conditions: none. -/
import Derived.Test.YtbnlobfhcanbgaaCOpen
import Derived.Test.YtbnlobfhcanbgaaCAwake
import Derived.Test.YtbnlobfhcanbgaaPlain
import Derived.Deep.RegionHeld
import Derived.Laws.IdiomStrings
namespace Go.Proofs.Ytbnlobfhcanbgaa
open Go.ChangeShapes Go.WideShapes Go.ChangeAt Go.RowKit Go.Joins Go.Deep

/-- A part of one number. -/
def numP (n : Int) : Pt := { Pt.nil with kind := 1, n := n }
theorem numP_pts {n : Int} (hn : Fit n) (w : World) (cs : Array Value) (hcs : cs = (([numP n].map ptc).flatten).toArray) :
    Pts (w.alloc (.cells cs 28)) (w.alloc (.cells cs 28)).heap.size (some ⟨w.heap.size, 0, none⟩) 1 [numP n] := by
  refine ⟨(pts_new hcs).more (by simp), (by intro h; cases h), ?_⟩
  intro x hx
  simp only [List.mem_cons, List.not_mem_nil, or_false] at hx
  subst hx
  exact ptok_num hn (by unfold Fit; decide) (by unfold Fit; decide)
theorem numP_wrs (n : Int) : wrs [numP n] = enc n := by simp [wrs, wr1, numP]
theorem below_grown {B p : Nat} {w w' : World} (h : w.grownBy w' (some p)) (hp : B ≤ p) (hw : B ≤ w.heap.size) : Below B w w' :=
  ⟨h.os, h.tape, h.output, h.size, fun i hi => h.block i (by omega) (fun e => by injection e with e; omega)⟩
theorem str_app (l m : List Nat) : str l ++ str m = str (l ++ m) := by
  apply ByteArray.ext
  rw [ByteArray.data_append]
  apply Array.ext'
  rw [Array.toList_append, str_data, str_data, str_data, List.map_append]
theorem conv_back (w : World) (l : List Nat) (hb : Byt l) (hl : l.length ≤ maxLen) : ∃ c w', (convert 9 25 (.string (str l))).run Try.prog w = .ok (.slice (some ⟨w.heap.size, 0, none⟩) l.length c) w' ∧
    Bs w' w'.heap.size (some ⟨w.heap.size, 0, none⟩) l ∧ l.length ≤ c ∧ c ≤ maxLen ∧ Below w.heap.size w w' := by
  have h := run_bytes_of_string (P := Try.prog) w 9 25 5 (str l) Try.underlying9 Try.underlying25 Try.underlying5
  rw [str_size] at h
  refine ⟨_, _, h, ?_, grownCap_ge w _ 0 _, grownCap_le_maxLen w _ 0 _ hl, (Below.refl _ _).drew.alloc (Nat.le_refl _) _⟩
  intro hn
  refine ⟨_, 0, rfl, by simp, fun j hj => ?_⟩
  rw [Nat.zero_add]
  have hjl : j < l.length := by omega
  have hjs : j < (str l).data.size := by have := str_size l; rw [ByteArray.size] at this; omega
  show (w.drew.alloc _).cell? ⟨w.drew.heap.size, j, none⟩ = _
  rw [World.cell?_alloc_mark, bytesRow_at _ _ _ hjs]
  have e1 : (str l).data[j] = UInt8.ofNat l[j] := by
    have h2 : (str l).data.toList[j]? = (l.map UInt8.ofNat)[j]? := by rw [str_data]
    simp only [Array.getElem?_toList, List.getElem?_map, Array.getElem?_eq_getElem hjs, List.getElem?_eq_getElem hjl, Option.map_some, Option.some.injEq] at h2
    exact h2
  unfold bf
  rw [e1, List.getElem?_eq_getElem hjl]
  have := hb _ (List.getElem_mem hjl)
  simp [Nat.mod_eq_of_lt this]
theorem begins_str {n m : Int} (hn : Fit n) (hm : Fit m) (h : ¬ n = m) : (((str (enc m)).extract 0 (str (enc n)).size).toList == (str (enc n)).toList) = false := by
  rw [Bool.eq_false_iff]
  intro e
  rw [beq_iff_eq, ByteArray.toList_eq, ByteArray.toList_eq, ByteArray.data_extract, Array.toList_extract, str_data, str_data, str_size] at e
  simp only [List.extract_eq_take_drop, List.drop_zero, Nat.sub_zero, ← List.map_take] at e
  have e2 : enc n = (enc m).take (enc n).length := str_inj (enc_byt n) ((enc_byt m).take _) (ByteArray.ext (Array.ext' (by rw [str_data, str_data]; exact e.symm)))
  exact h (enc_apart (r := (enc m).drop (enc n).length) hn hm (by
    conv => rhs; lhs; rw [e2]
    rw [List.take_append_drop]))
set_option maxRecDepth 100000 in
set_option maxHeartbeats 4000000 in
theorem codeApart_walk (w : World) (n : Int) (hn : Fit n) (m : Int) (hm : Fit m) : Calls Try.prog 10 #[.int .i64 n, .int .i64 m] w fun e w' => e = .returned (.bool true) ∧ Below w.heap.size w w' := by
  go_enter Try.func10, Try.ntmps10
  go_wp2_with fail
  refine (awake_any _).mono ?_
  rintro e w1 ⟨rfl, hb1⟩
  have HB1 := Lib.hid hb1
  clear hb1
  go_wp2_with fail
  have HR := Lib.hid (written_any (some ⟨w1.heap.size, 0, none⟩) 1 [numP n] (w1.alloc (.cells (([numP n].map ptc).flatten).toArray 28)) (numP_pts hn _ _ rfl) (by simp))
  refine (Hid.out HR).mono ?_
  rintro e w2 ⟨A2, c2, rfl, b2, -, -, l2⟩
  have hcv := str_conv c2 b2
  have HB2 := Lib.hid (below_chain HB1.out (below_step l2))
  clear HR l2 b2 HB1
  rw [numP_wrs] at hcv ⊢
  go_wp2_with fail
  clear hcv
  have HR := Lib.hid (written_any (some ⟨w2.heap.size, 0, none⟩) 1 [numP m] (w2.alloc (.cells (([numP m].map ptc).flatten).toArray 28)) (numP_pts hm _ _ rfl) (by simp))
  refine (Hid.out HR).mono ?_
  rintro e w3 ⟨A3, c3, rfl, b3, -, -, l3⟩
  have hcv := str_conv c3 b3
  have HB3 := Lib.hid (below_chain HB2.out (below_step l3))
  clear HR l3 b3 HB2
  rw [numP_wrs] at hcv ⊢
  have hn1 : (1 : Int) ≤ ((str (enc n)).size : Int) ∧ ((str (enc n)).size : Int) ≤ 10 := by have := enc_len hn; rw [str_size]; omega
  have hm1 : (1 : Int) ≤ ((str (enc m)).size : Int) ∧ ((str (enc m)).size : Int) ≤ 10 := by have := enc_len hm; rw [str_size]; omega
  obtain ⟨S, hS⟩ : ∃ S, S = str (enc n) := ⟨_, rfl⟩
  obtain ⟨T, hT⟩ : ∃ T, T = str (enc m) := ⟨_, rfl⟩
  have HS := Lib.hid hS
  have HT := Lib.hid hT
  rw [← hS] at hn1
  rw [← hT] at hm1 hcv
  rw [← hS]
  clear hS hT
  have hs0 : ((S.size : Int) == 0) = false := by rw [beq_eq_false_iff_ne]; omega
  have ht0 : ((T.size : Int) == 0) = false := by rw [beq_eq_false_iff_ne]; omega
  have hs10 : decide (10 < (S.size : Int)) = false := by rw [decide_eq_false_iff_not]; omega
  obtain ⟨X, hX⟩ : ∃ X, X = enc n ++ enc m := ⟨_, rfl⟩
  have hST : S ++ T = str X := by rw [HS.out, HT.out, str_app, hX]
  have HX := Lib.hid hST
  have hXl : X.length ≤ 20 := by have := enc_len hn; have := enc_len hm; rw [hX, List.length_append]; omega
  have hml : (enc m).length ≤ 10 := (enc_len hm).2
  have HXB := Lib.hid (show Byt X from by rw [hX]; exact (enc_byt n).app (enc_byt m))
  have HI := Lib.hid (show intR n n (some X) = (n, some (enc m)) from by rw [hX]; exact intR_enc hn (Int.le_refl _) (Int.le_refl _) _)
  have HJ := Lib.hid (show intR m m (some (enc m)) = (m, some []) from by have := intR_enc hm (Int.le_refl m) (Int.le_refl m) []; rwa [List.append_nil] at this)
  obtain ⟨c4, w4, hc4, hb4, hk4, hk4', hl4⟩ := conv_back w3 X HXB.out (by unfold maxLen; omega)
  rw [← hST] at hc4
  have K4 := Lib.hid (And.intro hb4 (And.intro (And.intro hk4 hk4') hl4))
  have HB4 := Lib.hid (below_chain HB3.out hl4)
  clear hb4 hk4 hk4' hl4 hX hST
  cases hq : (n == m) with
  | false =>
    have hneq : (n != m) = true := by rw [bne, hq]; rfl
    have HQ := Lib.hid hq
    have hbeg : ((T.extract 0 S.size).toList == S.toList) = false := by
      rw [HS.out, HT.out]
      exact begins_str hn hm (by have := HQ.out; simpa using this)
    by_cases hle0 : S.size ≤ T.size
    · have hle : (S.size : Int) ≤ (T.size : Int) := by omega
      clear hle0
      go_wp2_with fail
      refine (new_any (some ⟨w3.heap.size, 0, none⟩) c4 X w4).mono ?_
      rintro e w5 ⟨rfl, hw5⟩
      have HR5 := Lib.hid (show RS w5 w4.heap.size (some X) from ⟨_, c4, by rw [hw5]; exact ⟨alloc_new _ _ _ rfl, K4.out.1.below ((Below.refl _ _).alloc (Nat.le_refl _) _), K4.out.2.1, (fun h => by cases h), HXB.out⟩⟩)
      have HB5 := Lib.hid (show Below w4.heap.size w4 w5 from by rw [hw5]; exact (Below.refl _ _).alloc (Nat.le_refl _) _)
      clear hw5 hc4
      go_wp2_with fail
      refine (int_any w4.heap.size (some X) n n w5 HR5.out (fun l' hl' => by cases hl'; omega) hn hn).mono ?_
      rintro e w6 ⟨rfl, g6, r6⟩
      rw [HI.out] at r6 ⊢
      have HR6 := Lib.hid r6
      have HB6 := Lib.hid (HB5.out.trans (below_grown g6 (Nat.le_refl _) (Nat.le_of_lt HR5.out.lt)))
      clear r6 g6 HB5
      go_wp2_with fail
      refine (int_any w4.heap.size (some (enc m)) m m w6 HR6.out (fun l' hl' => by cases hl'; omega) hm hm).mono ?_
      rintro e w7 ⟨rfl, g7, r7⟩
      rw [HJ.out] at r7 ⊢
      have HR7 := Lib.hid r7
      have HB7 := Lib.hid (HB6.out.trans (below_grown g7 (Nat.le_refl _) (Nat.le_of_lt HR6.out.lt)))
      clear r7 g7 HB6
      go_wp2_with fail
      refine (done_any w4.heap.size (some []) w7 HR7.out).mono ?_
      rintro e w8 ⟨rfl, rfl⟩
      simp only [doneR]
      go_wp2_with fail
      refine (need_any w4.heap.size (some []) false w8 HR7.out).mono ?_
      rintro e w9 ⟨rfl, g9, r9⟩
      have HR9 := Lib.hid (show RS w9 w4.heap.size none from r9)
      have HB9 := Lib.hid (HB7.out.trans (below_grown g9 (Nat.le_refl _) (Nat.le_of_lt HR7.out.lt)))
      clear r9 g9 HB7
      obtain ⟨c10, w10, hc10, hb10, hk10, hk10', hl10⟩ := conv_back w9 X HXB.out (by unfold maxLen; omega)
      rw [← HX.out] at hc10
      have K10 := Lib.hid (And.intro hb10 (And.intro (And.intro hk10 hk10') hl10))
      have HB10 := Lib.hid (HB9.out.trans (hl10.mono HB9.out.size))
      have HR10 := Lib.hid (HR9.out.below hl10)
      have HB10S := Lib.hid (show w4.heap.size ≤ w10.heap.size from HB10.out.size)
      clear hb10 hk10 hk10' hl10 HB9
      go_wp2_with fail
      refine (new_any (some ⟨w9.heap.size, 0, none⟩) c10 X w10).mono ?_
      rintro e w11 ⟨rfl, hw11⟩
      have HR11 := Lib.hid (show RS w11 w10.heap.size (some X) from ⟨_, c10, by rw [hw11]; exact ⟨alloc_new _ _ _ rfl, K10.out.1.below ((Below.refl _ _).alloc (Nat.le_refl _) _), K10.out.2.1, (fun h => by cases h), HXB.out⟩⟩)
      have HL11 := Lib.hid (show Below w10.heap.size w10 w11 from by rw [hw11]; exact (Below.refl _ _).alloc (Nat.le_refl _) _)
      have HO11 := Lib.hid (HR10.out.below HL11.out)
      have HB11 := Lib.hid (HB10.out.trans (HL11.out.mono HB10.out.size))
      clear hw11 hc10 HB10
      go_wp2_with fail
      refine (need_any w10.heap.size (some X) false w11 HR11.out).mono ?_
      rintro e w12 ⟨rfl, g12, r12⟩
      have HR12 := Lib.hid (show RS w12 w10.heap.size (none) from r12)
      have HO12 := Lib.hid (HO11.out.row g12 (fun k e => by cases e; exact HR10.out.lt))
      have HB12 := Lib.hid (HB11.out.trans (below_grown g12 HB10S.out (Nat.le_of_lt (Nat.lt_of_le_of_lt HB10S.out HR11.out.lt))))
      clear r12 g12 HB11
      go_wp2_with fail
      refine (int_any w10.heap.size (none) n n w12 HR12.out (fun l' hl' => by cases hl'; try omega) hn hn).mono ?_
      rintro e w13 ⟨rfl, g13, r13⟩
      have HO13 := Lib.hid (HO12.out.row g13 (fun k e => by cases e; exact HR10.out.lt))
      have HB13 := Lib.hid (HB12.out.trans (below_grown g13 HB10S.out (Nat.le_of_lt (Nat.lt_of_le_of_lt HB10S.out HR12.out.lt))))
      simp only [intR]
      clear r13 g13 HB12
      go_wp2_with fail
      refine (done_any w4.heap.size none w13 HO13.out).mono ?_
      rintro e w14 ⟨rfl, rfl⟩
      simp only [doneR]
      go_wp2_with fail
      go_ret
      exact ⟨rfl, below_chain HB4.out HB13.out⟩
    · have hle : ¬ (S.size : Int) ≤ (T.size : Int) := by omega
      clear hle0
      go_wp2_with fail
      refine (new_any (some ⟨w3.heap.size, 0, none⟩) c4 X w4).mono ?_
      rintro e w5 ⟨rfl, hw5⟩
      have HR5 := Lib.hid (show RS w5 w4.heap.size (some X) from ⟨_, c4, by rw [hw5]; exact ⟨alloc_new _ _ _ rfl, K4.out.1.below ((Below.refl _ _).alloc (Nat.le_refl _) _), K4.out.2.1, (fun h => by cases h), HXB.out⟩⟩)
      have HB5 := Lib.hid (show Below w4.heap.size w4 w5 from by rw [hw5]; exact (Below.refl _ _).alloc (Nat.le_refl _) _)
      clear hw5 hc4
      go_wp2_with fail
      refine (int_any w4.heap.size (some X) n n w5 HR5.out (fun l' hl' => by cases hl'; omega) hn hn).mono ?_
      rintro e w6 ⟨rfl, g6, r6⟩
      rw [HI.out] at r6 ⊢
      have HR6 := Lib.hid r6
      have HB6 := Lib.hid (HB5.out.trans (below_grown g6 (Nat.le_refl _) (Nat.le_of_lt HR5.out.lt)))
      clear r6 g6 HB5
      go_wp2_with fail
      refine (int_any w4.heap.size (some (enc m)) m m w6 HR6.out (fun l' hl' => by cases hl'; omega) hm hm).mono ?_
      rintro e w7 ⟨rfl, g7, r7⟩
      rw [HJ.out] at r7 ⊢
      have HR7 := Lib.hid r7
      have HB7 := Lib.hid (HB6.out.trans (below_grown g7 (Nat.le_refl _) (Nat.le_of_lt HR6.out.lt)))
      clear r7 g7 HB6
      go_wp2_with fail
      refine (done_any w4.heap.size (some []) w7 HR7.out).mono ?_
      rintro e w8 ⟨rfl, rfl⟩
      simp only [doneR]
      go_wp2_with fail
      refine (need_any w4.heap.size (some []) false w8 HR7.out).mono ?_
      rintro e w9 ⟨rfl, g9, r9⟩
      have HR9 := Lib.hid (show RS w9 w4.heap.size none from r9)
      have HB9 := Lib.hid (HB7.out.trans (below_grown g9 (Nat.le_refl _) (Nat.le_of_lt HR7.out.lt)))
      clear r9 g9 HB7
      obtain ⟨c10, w10, hc10, hb10, hk10, hk10', hl10⟩ := conv_back w9 X HXB.out (by unfold maxLen; omega)
      rw [← HX.out] at hc10
      have K10 := Lib.hid (And.intro hb10 (And.intro (And.intro hk10 hk10') hl10))
      have HB10 := Lib.hid (HB9.out.trans (hl10.mono HB9.out.size))
      have HR10 := Lib.hid (HR9.out.below hl10)
      have HB10S := Lib.hid (show w4.heap.size ≤ w10.heap.size from HB10.out.size)
      clear hb10 hk10 hk10' hl10 HB9
      go_wp2_with fail
      refine (new_any (some ⟨w9.heap.size, 0, none⟩) c10 X w10).mono ?_
      rintro e w11 ⟨rfl, hw11⟩
      have HR11 := Lib.hid (show RS w11 w10.heap.size (some X) from ⟨_, c10, by rw [hw11]; exact ⟨alloc_new _ _ _ rfl, K10.out.1.below ((Below.refl _ _).alloc (Nat.le_refl _) _), K10.out.2.1, (fun h => by cases h), HXB.out⟩⟩)
      have HL11 := Lib.hid (show Below w10.heap.size w10 w11 from by rw [hw11]; exact (Below.refl _ _).alloc (Nat.le_refl _) _)
      have HO11 := Lib.hid (HR10.out.below HL11.out)
      have HB11 := Lib.hid (HB10.out.trans (HL11.out.mono HB10.out.size))
      clear hw11 hc10 HB10
      go_wp2_with fail
      refine (need_any w10.heap.size (some X) false w11 HR11.out).mono ?_
      rintro e w12 ⟨rfl, g12, r12⟩
      have HR12 := Lib.hid (show RS w12 w10.heap.size (none) from r12)
      have HO12 := Lib.hid (HO11.out.row g12 (fun k e => by cases e; exact HR10.out.lt))
      have HB12 := Lib.hid (HB11.out.trans (below_grown g12 HB10S.out (Nat.le_of_lt (Nat.lt_of_le_of_lt HB10S.out HR11.out.lt))))
      clear r12 g12 HB11
      go_wp2_with fail
      refine (int_any w10.heap.size (none) n n w12 HR12.out (fun l' hl' => by cases hl'; try omega) hn hn).mono ?_
      rintro e w13 ⟨rfl, g13, r13⟩
      have HO13 := Lib.hid (HO12.out.row g13 (fun k e => by cases e; exact HR10.out.lt))
      have HB13 := Lib.hid (HB12.out.trans (below_grown g13 HB10S.out (Nat.le_of_lt (Nat.lt_of_le_of_lt HB10S.out HR12.out.lt))))
      simp only [intR]
      clear r13 g13 HB12
      go_wp2_with fail
      refine (done_any w4.heap.size none w13 HO13.out).mono ?_
      rintro e w14 ⟨rfl, rfl⟩
      simp only [doneR]
      go_wp2_with fail
      go_ret
      exact ⟨rfl, below_chain HB4.out HB13.out⟩
  | true =>
    have hneq : (n != m) = false := by rw [bne, hq]; rfl
    have HQ := Lib.hid hq
    have hbeg : ((T.extract 0 S.size).toList == S.toList) = true := by
      rw [HS.out, HT.out]
      rw [show m = n from by have := HQ.out; simp at this; exact this.symm, show (str (enc n)).extract 0 (str (enc n)).size = str (enc n) from by rw [ByteArray.extract_zero_size]]; simp
    · have hle : (S.size : Int) ≤ (T.size : Int) := by rw [HS.out, HT.out, show m = n from by have := HQ.out; simp at this; exact this.symm]; omega
      go_wp2_with fail
      refine (new_any (some ⟨w3.heap.size, 0, none⟩) c4 X w4).mono ?_
      rintro e w5 ⟨rfl, hw5⟩
      have HR5 := Lib.hid (show RS w5 w4.heap.size (some X) from ⟨_, c4, by rw [hw5]; exact ⟨alloc_new _ _ _ rfl, K4.out.1.below ((Below.refl _ _).alloc (Nat.le_refl _) _), K4.out.2.1, (fun h => by cases h), HXB.out⟩⟩)
      have HB5 := Lib.hid (show Below w4.heap.size w4 w5 from by rw [hw5]; exact (Below.refl _ _).alloc (Nat.le_refl _) _)
      clear hw5 hc4
      go_wp2_with fail
      refine (int_any w4.heap.size (some X) n n w5 HR5.out (fun l' hl' => by cases hl'; omega) hn hn).mono ?_
      rintro e w6 ⟨rfl, g6, r6⟩
      rw [HI.out] at r6 ⊢
      have HR6 := Lib.hid r6
      have HB6 := Lib.hid (HB5.out.trans (below_grown g6 (Nat.le_refl _) (Nat.le_of_lt HR5.out.lt)))
      clear r6 g6 HB5
      go_wp2_with fail
      refine (int_any w4.heap.size (some (enc m)) m m w6 HR6.out (fun l' hl' => by cases hl'; omega) hm hm).mono ?_
      rintro e w7 ⟨rfl, g7, r7⟩
      rw [HJ.out] at r7 ⊢
      have HR7 := Lib.hid r7
      have HB7 := Lib.hid (HB6.out.trans (below_grown g7 (Nat.le_refl _) (Nat.le_of_lt HR6.out.lt)))
      clear r7 g7 HB6
      go_wp2_with fail
      refine (done_any w4.heap.size (some []) w7 HR7.out).mono ?_
      rintro e w8 ⟨rfl, rfl⟩
      simp only [doneR]
      go_wp2_with fail
      refine (need_any w4.heap.size (some []) false w8 HR7.out).mono ?_
      rintro e w9 ⟨rfl, g9, r9⟩
      have HR9 := Lib.hid (show RS w9 w4.heap.size none from r9)
      have HB9 := Lib.hid (HB7.out.trans (below_grown g9 (Nat.le_refl _) (Nat.le_of_lt HR7.out.lt)))
      clear r9 g9 HB7
      obtain ⟨c10, w10, hc10, hb10, hk10, hk10', hl10⟩ := conv_back w9 X HXB.out (by unfold maxLen; omega)
      rw [← HX.out] at hc10
      have K10 := Lib.hid (And.intro hb10 (And.intro (And.intro hk10 hk10') hl10))
      have HB10 := Lib.hid (HB9.out.trans (hl10.mono HB9.out.size))
      have HR10 := Lib.hid (HR9.out.below hl10)
      have HB10S := Lib.hid (show w4.heap.size ≤ w10.heap.size from HB10.out.size)
      clear hb10 hk10 hk10' hl10 HB9
      go_wp2_with fail
      refine (new_any (some ⟨w9.heap.size, 0, none⟩) c10 X w10).mono ?_
      rintro e w11 ⟨rfl, hw11⟩
      have HR11 := Lib.hid (show RS w11 w10.heap.size (some X) from ⟨_, c10, by rw [hw11]; exact ⟨alloc_new _ _ _ rfl, K10.out.1.below ((Below.refl _ _).alloc (Nat.le_refl _) _), K10.out.2.1, (fun h => by cases h), HXB.out⟩⟩)
      have HL11 := Lib.hid (show Below w10.heap.size w10 w11 from by rw [hw11]; exact (Below.refl _ _).alloc (Nat.le_refl _) _)
      have HO11 := Lib.hid (HR10.out.below HL11.out)
      have HB11 := Lib.hid (HB10.out.trans (HL11.out.mono HB10.out.size))
      clear hw11 hc10 HB10
      go_wp2_with fail
      refine (need_any w10.heap.size (some X) true w11 HR11.out).mono ?_
      rintro e w12 ⟨rfl, g12, r12⟩
      have HR12 := Lib.hid (show RS w12 w10.heap.size (some X) from r12)
      have HO12 := Lib.hid (HO11.out.row g12 (fun k e => by cases e; exact HR10.out.lt))
      have HB12 := Lib.hid (HB11.out.trans (below_grown g12 HB10S.out (Nat.le_of_lt (Nat.lt_of_le_of_lt HB10S.out HR11.out.lt))))
      clear r12 g12 HB11
      go_wp2_with fail
      refine (int_any w10.heap.size (some X) n n w12 HR12.out (fun l' hl' => by cases hl'; try omega) hn hn).mono ?_
      rintro e w13 ⟨rfl, g13, r13⟩
      have HO13 := Lib.hid (HO12.out.row g13 (fun k e => by cases e; exact HR10.out.lt))
      have HB13 := Lib.hid (HB12.out.trans (below_grown g13 HB10S.out (Nat.le_of_lt (Nat.lt_of_le_of_lt HB10S.out HR12.out.lt))))
      rw [HI.out]
      clear r13 g13 HB12
      go_wp2_with fail
      refine (done_any w4.heap.size none w13 HO13.out).mono ?_
      rintro e w14 ⟨rfl, rfl⟩
      simp only [doneR]
      go_wp2_with fail
      go_ret
      exact ⟨rfl, below_chain HB4.out HB13.out⟩

set_option maxRecDepth 100000 in
theorem codeApart_lifted (os : Os) (started : os.Started) (H : Type) (enc : TypeId × Value → H) :
    ReturnsInHanded {} Try.checked os 10 .any (Rows.codeApartSpec.pre6 enc Try.prog Try.f10 Rows.codeApartRow.domain false) (Rows.codeApartSpec.post enc Try.prog Try.f10 false true false false) := by
  refine returnsInHanded_of_change (C := Try.checked) own started (by kernel_rfl) Try.func10
    (ChangeSpec.witness6 (enc := enc) (C := Try.checked) false ⟨#[], #[.int .i64 0, .int .i64 0], []⟩ 8 (by kernel_rfl) (by kernel_rfl) (by kernel_rfl) (by kernel_rfl)) ?_
  intro W base args ds gs before hval0 hW _ _
  have hval : ∀ (j : Nat) t v, Try.f10.params[j]? = some t → args[j]? = some v → Value.okWide Try.prog W .any base t v := hval0
  have hW' := hW
  obtain ⟨p, q, hA0, hV, rfl, _, _⟩ := hW
  have hA : DataW.TrodAll enc Try.prog W 0 (fun _ => true) true Try.f10.params.toList args.toList ds p := hA0
  rw [Try.params10] at hA hval
  obtain ⟨v0, vs0, d0, ds0, p0, q0, hargs, rfl, rfl, h0, r0⟩ := trodAll_cons hA
  obtain ⟨v1, vs1, d1, ds1, p1, q1, rfl, rfl, rfl, h1, r1⟩ := trodAll_cons r0
  obtain ⟨rfl, rfl, rfl⟩ := trodAll_nil r1
  obtain rfl : args = #[v0, v1] := by cases args; simp_all
  obtain ⟨rfl, rfl⟩ := trodVars_none hV
  have k0 := h0
  have lt0 : ∀ x ∈ p0, x.block < W.heap.size := by obtain ⟨m, hm⟩ := k0; exact DataW.trod_lt m _ _ _ hm
  obtain ⟨n0, rfl, f0⟩ := open_i64 Try.underlying2 (hval 0 2 v0 rfl rfl) h0
  have k1 := h1
  have lt1 : ∀ x ∈ p1, x.block < W.heap.size := by obtain ⟨m, hm⟩ := k1; exact DataW.trod_lt m _ _ _ hm
  obtain ⟨n1, rfl, f1⟩ := open_i64 Try.underlying2 (hval 1 2 v1 rfl rfl) h1
  clear hA0 hval0 hval
  refine (codeApart_walk W n0 f0 n1 f1).mono fun e W' ⟨he, bel⟩ => ?_
  subst he
  exact ⟨_, rfl, _, _, _, [], _, [], hW', trodAll_mk1 (shut_bool Try.underlying4 _), (trodAll_cons_mk (Below.trod laidOut (by kernel_rfl) (of_decide_eq_true (by kernel_rfl)) k0 bel lt0) (trodAll_cons_mk (Below.trod laidOut (by kernel_rfl) (of_decide_eq_true (by kernel_rfl)) k1 bel lt1) trodAll_mk0)), rfl, bel.frame _, fun h => by cases h⟩

theorem codeApart_holds : Rows.CodeApartSaid :=
  OpenClaim.holds_of_wide 10 Try.f10 rfl rfl rfl rfl rfl rfl rfl ⟨rfl, rfl, rfl, rfl, rfl⟩ rfl rfl rfl rfl rfl (by kernel_rfl) Try.func10 (by kernel_rfl)
    (of_decide_eq_true (by kernel_rfl)) (by unfold Func.isWrapper; first | (rw [if_pos (by decide +kernel)]; kernel_rfl) | (rw [if_neg (by decide +kernel)]; exact ⟨rfl, rfl⟩))
    (fun os started H enc _ => codeApart_lifted os started H enc)
#print axioms codeApart_holds
end Go.Proofs.Ytbnlobfhcanbgaa
