/- The document's Take. -/
import Derived.Test.YtmpbimechgelfaaRVer
import Derived.Test.YtmpbimechgelfaaTake2
namespace Go.Proofs.Ytmpbimechgelfaa
open Go Go.RowKit

/-- How the document's Take ends. -/
def RTake (E : Int) (L : List Bool) (w : World) (e : Ending) (w' : World) : Prop := ∃ A c, e = .returned (.tuple #[.slice A L.length c, .int .i64 E]) ∧ Bo w' w'.heap.size A L ∧ Below w.heap.size w w'
set_option maxRecDepth 100000 in
set_option maxHeartbeats 4000000 in
theorem rtake_any (s k : Int) (A : Option Addr) (c : Nat) (hs : List (Nat → Nat)) (f : Nat → Nat) (A3 : Option Addr) (c3 : Nat) (hv : List Bool) (i : Int) (A2 : Option Addr) (c2 : Nat) (l : List Nat) (w : World)
    (hh : Hs w w.heap.size A hs) (h3 : Bo w w.heap.size A3 hv) (hnn : A3 = none → hv.length = 0) (hl3 : hv.length ≤ 1000) (h : Bs w w.heap.size A2 l) (hby : Byt l) (hno2 : A2 = none → c2 = 0) (hno3 : A3 = none → c3 = 0) :
    Calls Try.prog 32 #[.agg (mcv s k (.slice A hs.length c) f), .slice A3 hv.length c3, .int .i64 i, .slice A2 l.length c2] w
      (RTake (tkE (verI s k hs i l) (decide (hv.length = hs.length))) (tkL (verI s k hs i l) (decide (hv.length = hs.length)) hv i.toNat) w) := by
  obtain ⟨z, hz⟩ : ∃ z, z = verI s k hs i l := ⟨_, rfl⟩
  have HIN := Lib.hid (fun h : z = 0 => in_part (verI_in (hz ▸ h)))
  rw [← hz]
  obtain ⟨n, hn⟩ : ∃ n, n = hs.length := ⟨_, rfl⟩
  obtain ⟨q, hq⟩ : ∃ n, n = hv.length := ⟨_, rfl⟩
  obtain ⟨m, hm⟩ : ∃ n, n = l.length := ⟨_, rfl⟩
  obtain ⟨M, hM⟩ : ∃ M, M = mcv s k (.slice A n c) f := ⟨_, rfl⟩
  rw [← hn] at HIN
  obtain ⟨W0, hW0⟩ : ∃ W0, W0 = w.alloc (.cells M 35) := ⟨_, rfl⟩
  have hB0 : Below w.heap.size w W0 := by rw [hW0]; exact (by repeat (first | exact Below.refl _ _ | assumption | refine below_drewN ?_ _ | refine Below.drew ?_ | refine Below.alloc ?_ (by simp; try omega) _ | refine Below.setCell ?_ (by simp; try omega) _))
  have hmb : MB W0 w.heap.size s k (.slice A n c) f := by rw [hW0, hM]; exact heap_alloc_new w _
  have hrow : W0.heap[w.heap.size]? = some (.cells M 35 (0, 0)) := by rw [hW0]; exact heap_alloc_new w _
  have hg0 : w.heap.size < W0.heap.size := hmb.lt
  have HB3 := Lib.hid (h3.next hB0)
  have HVF : Hid (∀ W, Below W0.heap.size W0 W → Calls Try.prog 55 #[.agg M, .int .i64 i, .slice A2 m c2] W fun e w' => e = .returned (.int .i64 z) ∧ Below W.heap.size W w') := Lib.hid fun W hb => by
    have h1 := rverify_any s k A c hs f i A2 c2 l W ((hh.next hB0).next hb) ((h.next hB0).next hb) hby hno2
    rw [← hn, ← hm, ← hM, ← hz] at h1
    exact h1
  have HMs : Hid ((Try.prog.info? 35).map (·.size) = some M.size) := Lib.hid (by rw [hM]; exact size_mcv)
  have HR0 := Lib.hid (fun (W : World) (hb : Below W0.heap.size W0 W) => show W.heap[w.heap.size]? = some (.cells M 35 (0, 0)) ∧ W.cell? ⟨w.heap.size, 2, none⟩ = some (.slice A n c) from
    ⟨(hb.block _ hg0).trans hrow, (hb.cell (p := ⟨w.heap.size, 2, none⟩) hg0).trans hmb.c2⟩)
  rw [← hn, ← hq, ← hm, ← hM]
  have HW0 := Lib.hid hW0
  have HB0 := Lib.hid hB0
  obtain ⟨g, hg⟩ : ∃ g, g = w.heap.size := ⟨_, rfl⟩
  rw [← hg] at HR0 hg0
  have HG := Lib.hid hg
  have HQ := Lib.hid hq
  have HL3 := Lib.hid hl3
  have HNO3 := Lib.hid hno3
  clear hz hn hq hm hM hW0 hB0 hmb hrow hg hh h3 hnn hl3 h hby hno2 hno3
  go_enter Try.func32, Try.ntmps32
  go_upto_region 1 with (fail)
  change Code.wp _ _ _ _ (w.alloc (.cells M 35))
  rw [← HW0.out, ← HG.out]
  have HROW := Lib.hid (HR0.out W0 (Below.refl _ _)).1
  refine wp_region_list ?_
  repeat (first
    | refine wpList_load_row (by rfl) 35 (.tmp 4) (by rfl) g (by rfl) 35 M (0, 0) _ HROW.out Try.underlying35 (by rfl) HMs.out ?_
    | go_values | go_skip | go_guarded | go_step | go_upon)
  refine (HVF.out W0 (Below.refl _ _)).mono ?_
  rintro e w2 ⟨rfl, hb2⟩
  have HB2 := Lib.hid hb2
  have HO2 := Lib.hid (HB3.out.next hb2)
  have HBW := Lib.hid (below_chain HB0.out HB2.out)
  clear hb2 HROW HVF HB3
  by_cases hz0 : z = 0
  · obtain ⟨p, rfl, hp, hp64, -, -, -, -, -⟩ := HIN.out hz0
    subst hz0
    have c2' := (HR0.out w2 HB2.out).2
    by_cases hqn : q = n
    · subst hqn
      have hpq : (p : Int) < (q : Int) := by omega
      have e1 : ((q : Int) != (q : Int)) = false := by simp
      have HE := Lib.hid (Ol.empty w2 (Nat.le_refl _))
      go_wp2_with (at_builtin; refine wpl_ol rfl (.tmp 27) (.tmp 28) rfl rfl HE.out A3 q c3 HQ.out rfl rfl (HO2.out.next ((Below.refl _ _).alloc (Nat.le_refl _) _)) HNO3.out (by have := HL3.out; simp; omega) (by simp) ?_; intro v3 w3 ho3 hb3; obtain ⟨g4, c4, rfl, hgb, hglt, hqc, hcm⟩ := Own.form ho3 (by simp; rw [← HQ.out]; omega); rw [List.nil_append] at ho3; rw [List.nil_append, ← HQ.out]; have HO3 := Lib.hid ho3; have HB3 := Lib.hid (((Below.refl _ _).alloc (Nat.le_refl _) _ : Below w2.heap.size w2 _).trans hb3); have ck := Own.cell ho3 p (by rw [← HQ.out]; omega); have cf := Own.free ho3 p; clear ho3 hb3)
      have HBF := Lib.hid (show Below w.heap.size w (w3.setCell ⟨g4, p, none⟩ (.bool true)) from (below_chain HBW.out HB3.out).setCell (Nat.le_trans HBW.out.size hgb) _)
      have HS3 := Lib.hid (show Bo (w3.setCell ⟨g4, p, none⟩ (.bool true)) (w3.setCell ⟨g4, p, none⟩ (.bool true)).heap.size (some ⟨g4, 0, none⟩) (hv.set p true) from by
        have h := HO3.out
        have h2 := Ol.set (w := w3) (base := w2.heap.size) (n := hv.length) (cap := c4) h rfl p true
        obtain ⟨A', c', e, hbo, -, -, -⟩ := h2.rd
        injection e with e1 e2 e3
        subst e1
        exact hbo)
      go_ret2
      exact ⟨some ⟨g4, 0, none⟩, c4, by rw [show tkL 0 (decide True) hv (p : Int).toNat = hv.set p true from by unfold tkL; simp, List.length_set, ← HQ.out]; unfold tkE; rfl, by rw [show tkL 0 (decide True) hv (p : Int).toNat = hv.set p true from by unfold tkL; simp]; exact HS3.out, HBF.out⟩
    · have d1 : ((q : Int) != (n : Int)) = true := by simp; omega
      have d2 : (q != n) = true := by simpa using hqn
      have HD := Lib.hid (show decide (q = n) = false from by simpa using hqn)
      clear hqn
      go_wp2_with fail
      go_ret2
      exact ⟨A3, c3, by rw [HD.out, show tkL 0 false hv (p : Int).toNat = hv from by unfold tkL; simp, ← HQ.out]; unfold tkE; rfl, by rw [HD.out, show tkL 0 false hv (p : Int).toNat = hv from by unfold tkL; simp]; exact HO2.out, HBW.out⟩
  · have d1 : (z != 0) = true := by simpa using hz0
    have HD := Lib.hid (show decide (z = 0) = false from by simpa using hz0)
    have HTL := Lib.hid (show tkL z (decide (q = n)) hv i.toNat = hv from by unfold tkL; rw [decide_eq_false hz0]; rfl)
    clear hz0
    go_wp2_with fail
    go_ret2
    exact ⟨A3, c3, by rw [HTL.out, ← HQ.out]; unfold tkE; rw [HD.out]; rfl, by rw [HTL.out]; exact HO2.out, HBW.out⟩
end Go.Proofs.Ytmpbimechgelfaa
