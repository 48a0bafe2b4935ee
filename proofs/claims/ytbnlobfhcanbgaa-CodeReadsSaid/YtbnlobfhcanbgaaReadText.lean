/- The reader's Text. -/
import Derived.Test.YtbnlobfhcanbgaaText1
namespace Go.Proofs.Ytbnlobfhcanbgaa
open Go Go.RowKit

/-- What is so behind the guard of Text. -/
def TextMid (p q : Nat) (x : List Nat × Option (List Nat)) (a w' : World) : Prop :=
  ∃ A c, a.grownBy w' (some p) ∧ RS w' p x.2 ∧ w'.heap[q]? = some (.cells #[.slice A x.1.length c] 25 (0, 0)) ∧ Ob w' (q + 1) (.slice A x.1.length c) x.1 ∧ (A = none → c = 0)
/-- How Text ends. -/
def TextEnd (p : Nat) (x : List Nat × Option (List Nat)) (w : World) (e : Ending) (w' : World) : Prop :=
  ∃ A c, e = .returned (.slice A x.1.length c) ∧ w.grownBy w' (some p) ∧ RS w' p x.2 ∧ Ob w' w.heap.size (.slice A x.1.length c) x.1 ∧ (A = none → c = 0)
theorem ob_far {w : World} {base q : Nat} {v u : Value} {l : List Nat} (h : Ob w base v l) (hq : q < base) : Ob (w.setCell ⟨q, 0, none⟩ u) base v l :=
  Own.far h (p := ⟨q, 0, none⟩) (fun e => by have := Own.block h _ e; simp at this; omega) u
theorem text_guarded (p N : Nat) (s : Option (List Nat)) (most : Int) (a w : World) (ha : a.heap.size = N) (hag : a.grownBy w (some p)) (hw : w.heap.size = N + 1 + 1 + 1) (h : RS w p s) (hpN : p < N) (hl : ∀ l, s = some l → l.length ≤ 1000000) (hf2 : Fit most)
    (h0 : w.heap[N]? = some (.cells #[.pointer (some ⟨p, 0, none⟩)] 41 (0, 0))) (h1 : w.heap[N + 1]? = some (.cells #[.int .i64 most] 3 (0, 0))) (h2 : w.heap[N + 1 + 1]? = some (.cells #[.slice none 0 0] 25 (0, 0))) :
    Calls Try.prog 33 #[.pointer (some ⟨p, 0, none⟩), .func (.func 34) #[] #[.pointer (some ⟨N, 0, none⟩), .pointer (some ⟨N + 1, 0, none⟩), .pointer (some ⟨N + 1 + 1, 0, none⟩)]] w fun e w' => e = .returned (.tuple #[]) ∧ TextMid p (N + 1 + 1) (textR most s) a w' := by
  have hg5 := only_trans hag (grown_alloc w (.cells #[.pointer (some ⟨p, 0, none⟩)] 41) (some p))
  refine guard_rs p s 34 _ _ _ (enter34 _) h ?_ ?_
  · rintro rfl
    exact ⟨none, 0, hg5, h.alloc _, alloc_old h2, Ob.nil, fun _ => rfl⟩
  · rintro l A c rfl hR
    refine (text1 p c N (N + 1) (N + 1 + 1) A l most _ _ (hR.alloc _) (hl l rfl) hf2 (cell_of_one (alloc_old h0)) (cell_of_one (alloc_old h1)) hpN (by omega) (by rw [alloc_size]; omega) (by rw [alloc_size]; omega) (alloc_old h2) (by omega)).mono ?_
    rintro e w' (⟨rfl, r, w1, A1, c1, he, hg, hr, hb, ho, hz, rfl⟩ | ⟨he, rfl, hL⟩)
    · left
      have hb := (hg.block (N + 1 + 1) (lt_of_block (alloc_old h2)) (fun e => by injection e with e; omega)).trans (alloc_old h2)
      refine ⟨rfl, A1, c1, grown_far (k := N) _ _ (by omega) _ (by omega) (only_trans hg5 hg), ?_, ?_, ob_far (Own.mono ho (by rw [alloc_size]; omega)) (by omega), hz⟩
      · rw [he]; exact hr.far _ (by omega) _
      · simp [World.setCell, Array.getElem?_modify, hb]
    · right
      have hg6 := only_trans hg5 hL.1
      have hb := (hL.1.block (N + 1 + 1) (lt_of_block (alloc_old h2)) (fun e => by injection e with e; omega)).trans (alloc_old h2)
      refine ⟨rfl, hL, none, 0, kept_grown hg6, ?_, ?_, ?_, fun _ => rfl⟩
      · rw [he]; exact RS.kept hL
      · rw [he, kept_other _ _ _ (by omega)]; exact hb
      · rw [he]; exact Ob.nil
set_option maxHeartbeats 1000000 in
theorem text_any (p : Nat) (s : Option (List Nat)) (most : Int) (w : World) (h : RS w p s) (hl : ∀ l, s = some l → l.length ≤ 1000000) (hf2 : Fit most) :
    Calls Try.prog 20 #[.pointer (some ⟨p, 0, none⟩), .int .i64 most] w (TextEnd p (textR most s) w) := by
  have hlt := h.lt
  have HL := Lib.hid hl
  clear hl
  go_enter Try.func20, Try.ntmps20
  go_wp2_with fail
  refine (text_guarded p w.heap.size s most w _ rfl (only_trans (only_trans (grown_alloc _ _ _) (grown_alloc _ _ _)) (grown_alloc _ _ _)) (by simp) (((h.alloc _).alloc _).alloc _) hlt HL.out hf2 ?_ ?_ ?_).mono ?_
  · exact alloc_old (alloc_old (alloc_new _ _ _ rfl))
  · exact alloc_old (alloc_new _ _ _ (by simp))
  · exact alloc_new _ _ _ (by simp)
  · rintro e w' ⟨rfl, A, c, hg, hr, hb, ho, hz⟩
    have hc := cell_of_one hb
    have hf := free_of_one hb
    have HG := Lib.hid hg
    have HR := Lib.hid hr
    have HB := Lib.hid hb
    have HO := Lib.hid ho
    have HZ := Lib.hid hz
    clear hg hr hb ho hz
    go_wp2
    refine bodyPost_ret (v := .slice A (textR most s).1.length c) (by simp [results, Try.results20, go_sem, hc]) rfl ?_
    exact ⟨A, c, rfl, grown_far (k := w.heap.size) _ _ (by omega) _ (Nat.le_refl _) HG.out, HR.out.far _ (by omega) _, Own.mono (ob_far HO.out (by omega)) (by omega), HZ.out⟩
end Go.Proofs.Ytbnlobfhcanbgaa
