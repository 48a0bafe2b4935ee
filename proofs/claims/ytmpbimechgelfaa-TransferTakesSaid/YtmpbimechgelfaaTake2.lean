/- transfer.Take. -/
import Derived.Test.YtmpbimechgelfaaTk
namespace Go.Proofs.Ytmpbimechgelfaa
open Go Go.RowKit

/-- What Take answers of v, the answer of Verify; is the list as long as the chunks? -/
def tkE (v : Int) (same : Bool) : Int := match decide (v = 0) with | false => v | true => match same with | true => 0 | false => 1
def tkL (v : Int) (same : Bool) (hv : List Bool) (i : Nat) : List Bool := match decide (v = 0) && same with | true => hv.set i true | false => hv
/-- How Take ends. -/
def TakeEnd (base : Nat) (E : Int) (L : List Bool) (w : World) (e : Ending) (w' : World) : Prop := ∃ v, e = .returned (.tuple #[v, .int .i64 E]) ∧ Ol w' base v L ∧ Below w.heap.size w w'
theorem verI_in {s k : Int} {hs : List (Nat → Nat)} {i : Int} {l : List Nat} (h : verI s k hs i l = 0) : partB s k hs.length i = true := by
  unfold verI at h
  cases hp : partB s k hs.length i with
  | true => rfl
  | false => rw [hp] at h; exact absurd (show (1 : Int) = 0 from h) (by decide)
set_option maxRecDepth 100000 in
set_option maxHeartbeats 4000000 in
theorem take_any (s k : Int) (A : Option Addr) (c : Nat) (hs : List (Nat → Nat)) (f : Nat → Nat) (A3 : Option Addr) (c3 : Nat) (hv : List Bool) (i : Int) (A2 : Option Addr) (c2 : Nat) (l : List Nat) (w : World)
    (hh : Hs w w.heap.size A hs) (h3 : Bo w w.heap.size A3 hv) (hnn : A3 = none → hv.length = 0) (hl3 : hv.length ≤ 1000) (h : Bs w w.heap.size A2 l) (hby : Byt l) :
    Calls Try.prog 21 #[.agg (mcv s k (.slice A hs.length c) f), .slice A3 hv.length c3, .int .i64 i, .slice A2 l.length c2] w
      (TakeEnd w.heap.size (tkE (verI s k hs i l) (decide (hv.length = hs.length))) (tkL (verI s k hs i l) (decide (hv.length = hs.length)) hv i.toNat) w) := by
  obtain ⟨z, hz⟩ : ∃ z, z = verI s k hs i l := ⟨_, rfl⟩
  have HIN := Lib.hid (fun h : z = 0 => in_part (verI_in (hz ▸ h)))
  rw [← hz]
  obtain ⟨n, hn⟩ : ∃ n, n = hs.length := ⟨_, rfl⟩
  obtain ⟨q, hq⟩ : ∃ n, n = hv.length := ⟨_, rfl⟩
  obtain ⟨m, hm⟩ : ∃ n, n = l.length := ⟨_, rfl⟩
  obtain ⟨M, hM⟩ : ∃ M, M = mcv s k (.slice A n c) f := ⟨_, rfl⟩
  rw [← hn] at HIN
  obtain ⟨W0, hW0⟩ : ∃ W0, W0 = w.alloc (.cells M 35) := ⟨_, rfl⟩
  have hB0 : Below w.heap.size w W0 := by rw [hW0]; exact (by repeat (first | exact Below.refl _ _ | assumption | refine below_drewN ?_ _ | refine Below.drew ?_ | refine Below.alloc ?_ (by simp; try omega) _ | refine Below.setCell ?_ (by simp; try omega) _))
  have hmb : MB W0 w.heap.size s k (.slice A n c) f := by rw [hW0, hM]; exact heap_alloc_new w _
  have hrow : W0.heap[w.heap.size]? = some (.cells M 35 (0, 0)) := by rw [hW0]; exact heap_alloc_new w _
  have hg0 : w.heap.size < W0.heap.size := hmb.lt
  have HCL := Lib.hid (clone_any hv A3 c3 W0 (h3.next hB0) hnn hl3)
  rw [← hq] at HCL
  have HVF : Hid (∀ W, Below W0.heap.size W0 W → Calls Try.prog 23 #[.agg M, .int .i64 i, .slice A2 m c2] W fun e w' => e = .returned (.int .i64 z) ∧ Below W.heap.size W w') := Lib.hid fun W hb => by
    have h1 := verify_any s k A c hs f i A2 c2 l W ((hh.next hB0).next hb) ((h.next hB0).next hb) hby
    rw [← hn, ← hm, ← hM, ← hz] at h1
    exact h1
  have HMs : Hid ((Try.prog.info? 35).map (·.size) = some M.size) := Lib.hid (by rw [hM]; exact size_mcv)
  have HR0 := Lib.hid (fun (W : World) (hb : Below W0.heap.size W0 W) => show W.heap[w.heap.size]? = some (.cells M 35 (0, 0)) ∧ W.cell? ⟨w.heap.size, 2, none⟩ = some (.slice A n c) from
    ⟨(hb.block _ hg0).trans hrow, (hb.cell (p := ⟨w.heap.size, 2, none⟩) hg0).trans hmb.c2⟩)
  rw [← hn, ← hq, ← hm, ← hM]
  have HW0 := Lib.hid hW0
  have HB0 := Lib.hid hB0
  obtain ⟨g, hg⟩ : ∃ g, g = w.heap.size := ⟨_, rfl⟩
  rw [← hg] at HR0 hg0
  have HG := Lib.hid hg
  have HQ := Lib.hid hq
  have HL3 := Lib.hid hl3
  clear hz hn hq hm hM hW0 hB0 hmb hrow hg hh h3 hnn hl3 h hby
  go_enter Try.func21, Try.ntmps21
  go_upto_region 1 with (fail)
  change Code.wp _ _ _ _ (w.alloc (.cells M 35))
  rw [← HW0.out, ← HG.out]
  go_wp2_with fail
  refine HCL.out.mono ?_
  rintro e w1 ⟨v, rfl, hol, hb1⟩
  obtain ⟨A4, c4, rfl, -, hc4, -, hn4⟩ := hol.rd
  rw [← HQ.out] at hol hn4 ⊢
  have HOL := Lib.hid hol
  have HN4 := Lib.hid hn4
  have HB1 := Lib.hid hb1
  clear hol hb1 hc4 hn4 HCL
  go_upto_region 2 with (fail)
  have HROW := Lib.hid (HR0.out w1 HB1.out).1
  refine wp_region_list ?_
  repeat (first
    | refine wpList_load_row (by rfl) 35 (.tmp 4) (by rfl) g (by rfl) 35 M (0, 0) _ HROW.out Try.underlying35 (by rfl) HMs.out ?_
    | go_values | go_skip | go_guarded | go_step | go_upon)
  refine (HVF.out w1 HB1.out).mono ?_
  rintro e w2 ⟨rfl, hb2⟩
  have HB2 := Lib.hid (below_chain HB1.out hb2)
  have HO2 := Lib.hid (HOL.out.next hb2)
  have HBW := Lib.hid (below_chain HB0.out HB2.out)
  clear hb2 HOL HB1 HROW HVF
  by_cases hz0 : z = 0
  · obtain ⟨p, rfl, hp, hp64, -, -, -, -, -⟩ := HIN.out hz0
    subst hz0
    have c2' := (HR0.out w2 HB2.out).2
    by_cases hqn : q = n
    · subst hqn
      have hpq : (p : Int) < (q : Int) := by omega
      obtain ⟨g4, rfl⟩ : ∃ g4, A4 = some ⟨g4, 0, none⟩ := by
        obtain ⟨g4, c5, e, _⟩ := Own.form HO2.out (by rw [← HQ.out]; omega)
        injection e with e1 e2 e3
        exact ⟨g4, e1⟩
      have HO2' : Hid (Own w2 W0.heap.size 4 1 (.slice (some ⟨g4, 0, none⟩) hv.length c4) hv.length (bb hv)) := Lib.hid (by have := HO2.out; rw [HQ.out] at this; exact this)
      have ck : w2.cell? ⟨g4, p, none⟩ = some (.bool (hv[p]?.getD false)) := HO2'.out.cell p (by rw [← HQ.out]; omega)
      have cf := HO2'.out.free p
      have HS3 := Lib.hid (show Ol (w2.setCell ⟨g4, p, none⟩ (.bool true)) W0.heap.size (.slice (some ⟨g4, 0, none⟩) q c4) (hv.set p true) from Ol.set HO2.out HQ.out p true)
      have hblk : W0.heap.size ≤ g4 := (Own.block HO2.out g4 rfl).1
      have HBF := Lib.hid (show Below w.heap.size w (w2.setCell ⟨g4, p, none⟩ (.bool true)) from HBW.out.setCell (Nat.le_trans HB0.out.size hblk) _)
      clear HN4 hblk HO2 HO2'
      go_wp2_with fail
      go_ret2
      exact ⟨_, by unfold tkE; rfl, by unfold tkL; simp; exact HS3.out.mono HB0.out.size, HBF.out⟩
    · have d1 : ((q : Int) != (n : Int)) = true := by simp; omega
      have d2 : (q != n) = true := by simpa using hqn
      have HD := Lib.hid (show decide (q = n) = false from by simpa using hqn)
      clear hqn
      go_wp2_with fail
      go_ret2
      exact ⟨_, by rw [HD.out]; unfold tkE; rfl, by rw [HD.out]; unfold tkL; simp; exact HO2.out.mono HB0.out.size, HBW.out⟩
  · have d1 : (z != 0) = true := by simpa using hz0
    have HD := Lib.hid (show decide (z = 0) = false from by simpa using hz0)
    clear hz0
    go_wp2_with fail
    go_ret2
    exact ⟨_, by unfold tkE; rw [HD.out]; rfl, by unfold tkL; rw [HD.out]; simp; exact HO2.out.mono HB0.out.size, HBW.out⟩
end Go.Proofs.Ytmpbimechgelfaa
