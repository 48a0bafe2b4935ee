/- The reader's Hash. -/
import Derived.Test.YtbnlobfhcanbgaaReadText
import Derived.Laws.CopyOwn
import Derived.Deep.RegionLaw
import Derived.Deep.Cut
import Derived.Laws.Rows
import Derived.Laws.Tables
namespace Go.Proofs.Ytbnlobfhcanbgaa
open Go Go.RowKit

/-- What a reader answers that reads a hash, and what it has left. -/
def hashR : Option (List Nat) → (Nat → Nat) × Option (List Nat)
  | none => (fun _ => 0, none)
  | some l => if 32 ≤ l.length then (fun j => l[j]?.getD 0, some (l.drop 32)) else (fun _ => 0, none)
theorem hashR_yes {l : List Nat} (h : 32 ≤ l.length) : hashR (some l) = (fun j => l[j]?.getD 0, some (l.drop 32)) := by unfold hashR; simp only; rw [if_pos h]
theorem hashR_no {l : List Nat} (h : ¬ 32 ≤ l.length) : hashR (some l) = (fun _ => 0, none) := by unfold hashR; simp only; rw [if_neg h]
theorem RS.belowB {w w' : World} {p B : Nat} {s : Option (List Nat)} (h : RS w p s) (hp : p < B) (hb : Below B w w') : RS w' p s := by
  cases s with
  | none => exact (hb.block p hp).trans h
  | some l => obtain ⟨A, c, h⟩ := h; exact ⟨A, c, (hb.block p hp).trans h.blk, h.bytes.below (hb.mono (Nat.le_of_lt hp)), h.cap, h.none_, h.byt⟩
/-- How the closure of Hash ends. -/
def Hash1 (p q2 : Nat) (l : List Nat) (w : World) (e : Ending) (w' : World) : Prop :=
  (e = .returned (.tuple #[]) ∧ ∃ r, hashR (some l) = ((hashR (some l)).1, some r) ∧ RS w' p (some r) ∧ w'.heap[q2]? = some (.cells (hc (hashR (some l)).1) 26 (0, 0)) ∧ ∃ w1, w.grownBy w1 (some p) ∧ Below q2 w1 w') ∨
  (hashR (some l) = (fun _ => 0, none) ∧ e = .panicked lostChain ∧ Left w p w')
theorem Hash1.yes {p q2 : Nat} {l : List Nat} {w w1 w' : World} (h : 32 ≤ l.length) (hr : RS w1 p (some (l.drop 32))) (hp : p < q2) (hb : Below q2 w1 w') (hg : w.grownBy w1 (some p)) (hq : w'.heap[q2]? = some (.cells (splice (hc fun _ => 0).toList 0 (hc fun j => l[j]?.getD 0).toList).toArray 26 (0, 0))) :
    Hash1 p q2 l w (.returned (.tuple #[])) w' := by
  refine .inl ⟨rfl, l.drop 32, by rw [hashR_yes h], hr.belowB hp hb, ?_, w1, hg, hb⟩
  rw [hashR_yes h, hq]
  simp [splice, hc]
/-- A call of a Go function, as one step of a region that draws. -/
theorem step_call {P : Program} {ops : Array Oper} {o : Oper} {a : Act} {w : World} {K : Act → World → Prop} {Q : Exit → Act → World → Prop} {E : Prop} (hgd : o.guard = none) (f : FuncId) (xs : Array Operand) (ats : Array TypeId)
    (ho : o.op = .call { callee := .value (.func f), args := xs, argTypes := ats }) (args : Array Value) (hargs : #[] ++ xs.map a.eval ++ #[] = args) (hin : ∀ w, (callFunc f args).run P w = .ok (.enter f args) w) (R : Ending → World → Prop) (hc : Calls P f args w R)
    (hno : ∀ w', ¬ R .outgrown w') (hpan : ∀ ch w', R (.panicked ch) w' → Q (.panic ch) a w') (hret : ∀ v w', R (.returned v) w' → K (a.put o.dst v) w') :
    if Region.wanted o (yielded ops a.tmps) = true then Oper.wp P o a w K Q else E := by
  have hw : Region.wanted o (yielded ops a.tmps) = true := by simp [Region.wanted, hgd]
  rw [if_pos hw]
  have he : execOp a.eval o = callFunc f args := by
    cases o
    simp only at ho
    subst ho
    rw [← hargs]
    rfl
  unfold Oper.wp
  rw [he, hin]
  rw [Oper.upon_enter]
  refine hc.mono ?_
  intro e w' hr
  cases e with
  | returned v => exact hret v w' hr
  | panicked ch => exact hpan ch w' hr
  | outgrown => exact (hno w' hr).elim
theorem enter36 (args : Array Value) (w : World) : (callFunc 36 args).run Try.prog w = .ok (.enter 36 args) w := by simp [callFunc, go_sem, Try.func36, Try.f36]
section
variable {p c : Nat} {n : Int} {l : List Nat} {A : Option Addr} {w w' : World}
theorem TakeAll.no : ¬ TakeAll p c n l A w .outgrown w' := by
  rintro (⟨_, _, _, h, _⟩ | ⟨_, h, _⟩) <;> cases h
theorem TakeAll.pan {ch : List PanicEntry} (h : TakeAll p c n l A w (.panicked ch) w') : (n < 0 ∨ (l.length : Int) < n) ∧ ch = lostChain ∧ w' = w := by
  rcases h with ⟨_, _, _, h, _⟩ | ⟨h1, h, h2⟩
  · cases h
  · cases h; exact ⟨h1, rfl, h2⟩
theorem TakeAll.ret {v : Value} (h : TakeAll p c n l A w (.returned v) w') : ∃ m : Nat, n = m ∧ m ≤ l.length ∧ v = .slice A m c ∧ Bs w' p A (l.take m) ∧ w.grownBy w' (some p) ∧ RS w' p (some (l.drop m)) := by
  rcases h with ⟨m, h1, h2, h, h3⟩ | ⟨_, h, _⟩
  · cases h; exact ⟨m, h1, h2, rfl, h3⟩
  · cases h
end
theorem take_src {w : World} {p : Nat} {A : Option Addr} {l : List Nat} (h : Bs w p A (l.take 32)) (hl : 32 ≤ l.length) : ∃ ad, A = some ad ∧ ∀ (j : Nat) v, (hc fun j => l[j]?.getD 0).toList[j]? = some v → w.cell? (ad.add j) = some v := by
  have hlen : (l.take 32).length = 32 := by simp; omega
  obtain ⟨b, off, rfl, hb, hcell⟩ := h (by omega)
  refine ⟨_, rfl, fun j v hj => ?_⟩
  rw [add_addr]
  by_cases hj32 : j < 32
  · rw [hcell j (by omega), bf_take _ _ _ hj32, ← hj]
    simp [hc, bf, hj32]
  · exfalso
    simp [hc, hj32] at hj
theorem hc_one (h : Nat → Nat) : ∀ v ∈ (hc h).toList, v.oneCell' = true := by
  intro v hv
  simp [hc] at hv
  obtain ⟨j, _, rfl⟩ := hv
  rfl
theorem hc_all (h : Nat → Nat) : (hc h).all (·.oneCell') = true := Array.all_eq_true_iff_forall_mem.2 fun v hv => hc_one h v (by simpa using hv)
theorem size_hc {h : Nat → Nat} : (Try.prog.info? 26).map (·.size) = some (hc h).size := by rw [hc_size]; kernel_rfl
theorem size_u8 : (Try.prog.info? 5).map (·.size) = some 1 := by kernel_rfl
set_option maxHeartbeats 4000000 in
theorem hash1 (p c q0 q2 : Nat) (A : Option Addr) (l : List Nat) (w : World) (hR : Rr w p A c l false) (hl : l.length ≤ 1000000)
    (h0 : w.cell? ⟨q0, 0, none⟩ = some (.pointer (some ⟨p, 0, none⟩))) (h2 : w.heap[q2]? = some (.cells (hc fun _ => 0) 26 (0, 0))) (hq2 : p < q2) :
    Calls Try.prog 41 #[.pointer (some ⟨q2, 0, none⟩), .pointer (some ⟨q0, 0, none⟩)] w (Hash1 p q2 l w) := by
  have hlt := lt_of_block h2
  have hp := hR.lt
  have HR := Lib.hid hR
  clear hR
  go_enter Try.func41, Try.ntmps41
  go_wp2
  go_region_law (first
    | (refine step_call rfl 36 #[.tmp 3, .const (.int .i64 32)] #[41, 2] rfl #[.pointer (some ⟨p, 0, none⟩), .int .i64 32] (by simp [Act.eval]) (enter36 _) _ (take_any p c A l 32 _ (Rr.drew HR.out) hl) (fun _ => TakeAll.no) ?_ ?_
       · intro ch w' h
         obtain ⟨hlt2, rfl, rfl⟩ := h.pan
         exact ⟨rfl, .inr ⟨hashR_no (by omega), rfl, (Rr.left (World.grownBy.refl _ _) HR.out.drew).drew⟩⟩
       intro v wt h
       obtain ⟨m, hm, hmr, rfl, hbt, hgt, hrt⟩ := h.ret
       obtain rfl : m = 32 := by omega
       have HRT := Lib.hid hrt
       have HBT := Lib.hid (take_src hbt hmr)
       have h2t : wt.heap[q2]? = some (.cells (hc fun _ => 0).toList.toArray 26 (0, 0)) := by rw [Array.toArray_toList]; exact (hgt.block q2 hlt (fun e => by injection e with e; omega)).trans h2
       have H2T := Lib.hid h2t
       have HG := Lib.hid (grown_drew hgt)
       clear hrt hbt hgt hm h h2t)
    | (refine step_copy_splice rfl (.tmp 2) (.tmp 4) 25 25 rfl 5 Try.underlying25 size_u8 (some ⟨q2, 0, none⟩) A 32 32 32 c rfl rfl q2 0 (hc fun _ => 0).toList 26 H2T.out (hc fun j => l[j]?.getD 0).toList (by simp [hc]) (fun _ => ⟨rfl, HBT.out⟩) (by simp [hc]) (hc_one _) q2 _ (Below.refl _ _) (Nat.le_refl _) ?_
       intro w4 hg4 hb4))
  all_goals go_end0
  all_goals exact Hash1.yes hmr HRT.out hq2 hb4 HG.out hg4.out
/-- What is so behind the guard of Hash. -/
def HashMid (p q : Nat) (x : (Nat → Nat) × Option (List Nat)) (a w' : World) : Prop :=
  a.grownBy w' (some p) ∧ RS w' p x.2 ∧ w'.heap[q]? = some (.cells (hc x.1) 26 (0, 0))
/-- How Hash ends. -/
def HashEnd (p : Nat) (x : (Nat → Nat) × Option (List Nat)) (w : World) (e : Ending) (w' : World) : Prop :=
  e = .returned (.agg (hc x.1)) ∧ w.grownBy w' (some p) ∧ RS w' p x.2
theorem hash_guarded (p N : Nat) (s : Option (List Nat)) (a w : World) (ha : a.heap.size = N) (hag : a.grownBy w (some p)) (h : RS w p s) (hpN : p < N) (hl : ∀ l, s = some l → l.length ≤ 1000000)
    (h0 : w.heap[N]? = some (.cells #[.pointer (some ⟨p, 0, none⟩)] 41 (0, 0))) (h2 : w.heap[N + 1]? = some (.cells (hc fun _ => 0) 26 (0, 0))) :
    Calls Try.prog 33 #[.pointer (some ⟨p, 0, none⟩), .func (.func 41) #[] #[.pointer (some ⟨N + 1, 0, none⟩), .pointer (some ⟨N, 0, none⟩)]] w fun e w' => e = .returned (.tuple #[]) ∧ HashMid p (N + 1) (hashR s) a w' := by
  have hg5 := only_trans hag (grown_alloc w (.cells #[.pointer (some ⟨p, 0, none⟩)] 41) (some p))
  refine guard_rs p s 41 _ _ _ (enter41 _) h ?_ ?_
  · rintro rfl
    exact ⟨hg5, h.alloc _, alloc_old h2⟩
  · rintro l A c rfl hR
    refine (hash1 p c N (N + 1) A l _ (hR.alloc _) (hl l rfl) (cell_of_one (alloc_old h0)) (alloc_old h2) (by omega)).mono ?_
    rintro e w' (⟨rfl, r, he, hr, hb, w1, hg, hbl⟩ | ⟨he, rfl, hL⟩)
    · left
      refine ⟨rfl, ?_, ?_, hb⟩
      · have hg6 := only_trans hg5 hg
        have := hg6.size
        exact ⟨hbl.os.trans hg6.os, hbl.tape.trans hg6.tape, hbl.output.trans hg6.output, Nat.le_trans hg6.size hbl.size, fun i hi hne => (hbl.block i (by omega)).trans (hg6.block i hi hne)⟩
      · rw [he]; exact hr
    · right
      have hg6 := only_trans hg5 hL.1
      have hb := (hL.1.block (N + 1) (lt_of_block (alloc_old h2)) (fun e => by injection e with e; omega)).trans (alloc_old h2)
      refine ⟨rfl, hL, kept_grown hg6, ?_, ?_⟩
      · rw [he]; exact RS.kept hL
      · rw [he, kept_other _ _ _ (by omega)]; exact hb
set_option maxHeartbeats 1000000 in
theorem hash_any (p : Nat) (s : Option (List Nat)) (w : World) (h : RS w p s) (hl : ∀ l, s = some l → l.length ≤ 1000000) :
    Calls Try.prog 28 #[.pointer (some ⟨p, 0, none⟩)] w (HashEnd p (hashR s) w) := by
  have hlt := h.lt
  have HL := Lib.hid hl
  clear hl
  go_enter Try.func28, Try.ntmps28
  go_wp2_with fail
  refine (hash_guarded p w.heap.size s w _ rfl (only_trans (grown_alloc _ _ _) (grown_alloc _ _ _)) ((h.alloc _).alloc _) hlt HL.out ?_ ?_).mono ?_
  · exact alloc_old (alloc_new _ _ _ rfl)
  · exact alloc_new _ _ _ (by simp)
  · rintro e w' ⟨rfl, hg, hr, hb⟩
    have HG := Lib.hid hg
    have HR := Lib.hid hr
    have HB := Lib.hid hb
    clear hg hr hb
    go_upto_region 2 with (fail)
    refine wp_region_list ?_
    refine wpList_load_row rfl 26 (.tmp 2) rfl (w.heap.size + 1) rfl 26 (hc (hashR s).1) (0, 0) _ HB.out Try.underlying26 rfl size_hc ?_
    refine wpList_store_row rfl 26 (.tmp 2) (.tmp 6) rfl (w.heap.size + 1) (hc (hashR s).1) rfl rfl 26 (hc (hashR s).1) HB.out size_hc rfl (hc_all _) ?_
    go_wp2
    refine bodyPost_ret (v := .agg (hc (hashR s).1)) (results_cell_row (by rfl) _ _ (w.heap.size + 1) 26 _ (0, 0) _ (by rfl) (setRow_heap _ _ _ _ _ _ HB.out) Try.underlying26 (by rfl) size_hc) rfl ?_
    have hb2 := below_setRow (g := w.heap.size + 1) (Below.refl (w.heap.size + 1) w') (Nat.le_refl _) (hc (hashR s).1)
    refine ⟨rfl, ?_, HR.out.belowB (by omega) hb2⟩
    have hg6 := HG.out
    exact ⟨hb2.os.trans hg6.os, hb2.tape.trans hg6.tape, hb2.output.trans hg6.output, Nat.le_trans hg6.size hb2.size, fun i hi hne => (hb2.block i (by omega)).trans (hg6.block i hi hne)⟩
end Go.Proofs.Ytbnlobfhcanbgaa
