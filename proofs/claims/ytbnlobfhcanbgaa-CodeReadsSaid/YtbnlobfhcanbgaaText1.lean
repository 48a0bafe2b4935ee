/- The closure of the reader's Text. -/
import Derived.Test.YtbnlobfhcanbgaaReadInt
namespace Go.Proofs.Ytbnlobfhcanbgaa
open Go Go.RowKit

/-- What a reader answers that reads bytes, and what it has left. -/
def textR (most : Int) : Option (List Nat) → List Nat × Option (List Nat)
  | none => ([], none)
  | some l => match num 0 true l with
    | some (u, r) => if 0 ≤ unzz u ∧ unzz u ≤ most ∧ unzz u ≤ r.length then (r.take (unzz u).toNat, some (r.drop (unzz u).toNat)) else ([], none)
    | none => ([], none)
theorem textR_yes {l r : List Nat} {u : Nat} {most : Int} (h : num 0 true l = some (u, r)) (h0 : 0 ≤ unzz u) (h1 : unzz u ≤ most) (h2 : unzz u ≤ r.length) : textR most (some l) = (r.take (unzz u).toNat, some (r.drop (unzz u).toNat)) := by
  unfold textR; simp only [h]; rw [if_pos ⟨h0, h1, h2⟩]
theorem textR_no {l : List Nat} {most : Int} (h : ∀ u r, num 0 true l = some (u, r) → ¬ (0 ≤ unzz u ∧ unzz u ≤ most ∧ unzz u ≤ r.length)) : textR most (some l) = ([], none) := by
  cases hn : num 0 true l with
  | none => unfold textR; simp only [hn]
  | some ur => obtain ⟨u, r⟩ := ur; unfold textR; simp only [hn]; rw [if_neg (h u r hn)]
/-- n bytes are taken, or it gives up. -/
def TakeAll (p c : Nat) (n : Int) (l : List Nat) (A : Option Addr) (w : World) (e : Ending) (w' : World) : Prop :=
  (∃ m : Nat, n = m ∧ m ≤ l.length ∧ e = .returned (.slice A m c) ∧ Bs w' p A (l.take m) ∧ w.grownBy w' (some p) ∧ RS w' p (some (l.drop m))) ∨
  ((n < 0 ∨ (l.length : Int) < n) ∧ e = .panicked lostChain ∧ w' = w)
theorem take_any (p c : Nat) (A : Option Addr) (l : List Nat) (n : Int) (w : World) (hR : Rr w p A c l false) (hl : l.length ≤ 1000000) :
    Calls Try.prog 36 #[.pointer (some ⟨p, 0, none⟩), .int .i64 n] w (TakeAll p c n l A w) := by
  by_cases h : n < 0 ∨ (l.length : Int) < n
  · refine (take_no p c A l n w hR h hl).mono ?_
    rintro e w' ⟨rfl, rfl⟩
    exact .inr ⟨h, rfl, rfl⟩
  · obtain ⟨m, rfl⟩ : ∃ m : Nat, n = m := ⟨n.toNat, by omega⟩
    refine (take_yes p c A l m w hR (by omega) hl).mono ?_
    rintro e w' ⟨rfl, hb, hg, A', c', hr⟩
    exact .inl ⟨m, rfl, by omega, rfl, hb, hg, A', c', hr⟩
theorem Rr.drew {w : World} {p c : Nat} {A : Option Addr} {l : List Nat} {b : Bool} (h : Rr w p A c l b) : Rr w.drew p A c l b := ⟨h.blk, h.bytes, h.cap, h.none_, h.byt⟩
theorem grown_drew {w w' : World} {r : Option Nat} (h : w.drew.grownBy w' r) : w.grownBy w' r := ⟨h.os, h.tape, h.output, h.size, h.block⟩
theorem Left.drew {w w' : World} {p : Nat} (h : Left w.drew p w') : Left w p w' := ⟨grown_drew h.1, h.2⟩
/-- How the closure of Text ends. -/
def Text1 (p q2 : Nat) (l : List Nat) (most : Int) (a : World) (e : Ending) (w' : World) : Prop :=
  (e = .returned (.tuple #[]) ∧ ∃ r w1 A c, textR most (some l) = ((textR most (some l)).1, some r) ∧ a.grownBy w1 (some p) ∧ RS w1 p (some r) ∧ Bs w1 w1.heap.size A (textR most (some l)).1 ∧ Ob w1 a.heap.size (.slice A (textR most (some l)).1.length c) (textR most (some l)).1 ∧ (A = none → c = 0) ∧ w' = w1.setCell ⟨q2, 0, none⟩ (.slice A (textR most (some l)).1.length c)) ∨
  (textR most (some l) = ([], none) ∧ e = .panicked lostChain ∧ Left a p w')
theorem Text1.no {p q2 : Nat} {l : List Nat} {most : Int} {a w' : World} (h : ∀ u r, num 0 true l = some (u, r) → ¬ (0 ≤ unzz u ∧ unzz u ≤ most ∧ unzz u ≤ r.length)) (hl : Left a p w') : Text1 p q2 l most a (.panicked lostChain) w' := .inr ⟨textR_no h, rfl, hl⟩
theorem num_len {u : Nat} {f : Bool} {l r : List Nat} {v : Nat} (h : num u f l = some (v, r)) : r.length < l.length := by
  induction l generalizing u f with
  | nil => simp [num] at h
  | cons c l ih =>
    unfold num at h
    split at h
    · split at h
      · simp only [Option.some.injEq, Prod.mk.injEq] at h; rw [← h.2]; simp
      · have := ih h; simp; omega
    · simp at h
theorem Text1.yes {p q2 : Nat} {l T r : List Nat} {most : Int} {a w1 : World} {A : Option Addr} {c : Nat} (h : textR most (some l) = (T, some r)) (hg : a.grownBy w1 (some p)) (hr : RS w1 p (some r)) (hb : Bs w1 w1.heap.size A T) (ho : Ob w1 a.heap.size (.slice A T.length c) T) (hz : A = none → c = 0) :
    Text1 p q2 l most a (.returned (.tuple #[])) (w1.setCell ⟨q2, 0, none⟩ (.slice A T.length c)) := by
  refine .inl ⟨rfl, r, w1, A, c, by rw [h], hg, hr, ?_, ?_, hz, ?_⟩ <;> rw [h]
  · exact hb
  · exact ho
theorem text_val {l r T : List Nat} {u m : Nat} {most : Int} (h : num 0 true l = some (u, r)) (h1 : unzz u ≤ most) (hm : unzz u = (m : Int)) (hmr : m ≤ r.length) (hT : T = r.take m) : textR most (some l) = (T, some (r.drop m)) := by
  rw [textR_yes h (by omega) h1 (by omega), show (unzz u).toNat = m from by omega, hT]
set_option maxHeartbeats 4000000 in
theorem text1 (p c q0 q1 q2 : Nat) (A : Option Addr) (l : List Nat) (most : Int) (v2 : Value) (w : World) (hR : Rr w p A c l false) (hl : l.length ≤ 1000000) (hf2 : Fit most)
    (h0 : w.cell? ⟨q0, 0, none⟩ = some (.pointer (some ⟨p, 0, none⟩))) (h1 : w.cell? ⟨q1, 0, none⟩ = some (.int .i64 most)) (hq0 : p < q0) (_hq1 : p < q1) (hq0' : q0 < w.heap.size) (_hq1' : q1 < w.heap.size) (h2 : w.heap[q2]? = some (.cells #[v2] 25 (0, 0))) (hq2 : p < q2) :
    Calls Try.prog 34 #[.pointer (some ⟨q0, 0, none⟩), .pointer (some ⟨q1, 0, none⟩), .pointer (some ⟨q2, 0, none⟩)] w (Text1 p q2 l most w) := by
  have hlt := lt_of_block h2
  have hp := hR.lt
  have HR := Lib.hid hR
  clear hR
  go_enter Try.func34, Try.ntmps34
  go_wp2
  go_region_with (first
    | (go_at_call 37
       (
       refine (number_any p c A l 0 most _ (Rr.drew HR.out) hl (by unfold Fit; omega) hf2).mono ?_
       rintro e wn (⟨u, r, An, cn, hn, hn1, hn2, rfl, hgn, hRn⟩ | ⟨hno, rfl, hLn⟩)
       rotate_left
       exact ⟨rfl, Text1.no (fun u r e h => hno u r e ⟨h.1, h.2.1⟩) hLn.drew⟩
       replace hgn := grown_drew hgn
       have hN := Lib.hid hn
       have hN2 := Lib.hid hn2
       have hRN := Lib.hid hRn
       have hrl : r.length ≤ 1000000 := by have := num_len hn; omega
       have hc0n : wn.cell? ⟨q0, 0, none⟩ = some (.pointer (some ⟨p, 0, none⟩)) := (World.cell?_of_block (hgn.block q0 hq0' (fun e => by injection e with e; omega))).trans h0
       have h2n : wn.heap[q2]? = some (.cells #[v2] 25 (0, 0)) := (hgn.block q2 hlt (fun e => by injection e with e; omega)).trans h2
       have hpn := hRn.lt
       clear hn hn2 hRn))
    | (go_at_call 36
       (
       refine (take_any p cn An r (unzz u) _ hRN.out hrl).mono ?_
       rintro e wt (⟨m, hm, hmr, rfl, hbt, hgt, hrt⟩ | ⟨hlt2, rfl, rfl⟩)
       rotate_left
       exact ⟨rfl, Text1.no (fun u' r' e h => by rw [hN.out] at e; obtain ⟨rfl, rfl⟩ := Prod.mk.inj (Option.some.inj e); omega) (Rr.left hgn hRN.out)⟩
       obtain ⟨T, hT⟩ : ∃ T, T = r.take m := ⟨_, rfl⟩
       have hml : m = T.length := by rw [hT, List.length_take]; omega
       rw [← hT] at hbt
       have hTx := text_val hN.out hN2.out hm hmr hT
       subst hml
       have HTX := Lib.hid hTx
       have HZ := Lib.hid (show An = none → T.length = 0 ∧ cn = 0 from fun h => by have := hRN.out.none_ h; omega)
       have HBT := Lib.hid (hbt.more (Nat.le_of_lt hrt.lt))
       have HRT := Lib.hid hrt
       have htl : T.length ≤ 1000000 := by omega
       have h2t : wt.heap[q2]? = some (.cells #[v2] 25 (0, 0)) := (hgt.block q2 (lt_of_block h2n) (fun e => by injection e with e; omega)).trans h2n
       have hpt := hrt.lt
       have hgw := only_trans hgn hgt
       clear hTx hT hm hmr hbt hrt hgt))
    | (go_at_call 35
       (
       refine (clone_any An cn T _ HBT.out HZ.out htl).mono ?_
       rintro e w3 ⟨A3, c3, rfl, hb3, hz3, ho3, hbl3⟩
       have h23 : w3.heap[q2]? = some (.cells #[v2] 25 (0, 0)) := (hbl3.block q2 (lt_of_block h2t)).trans h2t
       have hc3 := cell_of_one h23
       have hf3 := free_of_one h23
       have HFIN := Lib.hid (Text1.yes (q2 := q2) HTX.out (only_trans hgw (only_below hbl3 _)) (RS.below HRT.out hbl3) hb3 (Own.mono ho3 hgw.size) hz3)
       clear hb3 hz3 ho3))
    | fail)
  all_goals go_end0
  all_goals exact HFIN.out
end Go.Proofs.Ytbnlobfhcanbgaa
