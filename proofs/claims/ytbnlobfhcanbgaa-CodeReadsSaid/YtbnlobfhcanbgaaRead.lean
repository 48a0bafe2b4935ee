/- read's contract (of the statements' package). -/
import Derived.Test.YtbnlobfhcanbgaaTake
namespace Go.Proofs.Ytbnlobfhcanbgaa
open Go Go.RowKit

/-- What is read, part by part, and what is left. -/
def readR : List Pt → Option (List Nat) → List Pt × Option (List Nat)
  | [], s => ([], s)
  | x :: l, s => ((takeR x s).1.toList ++ (readR l (takeR x s).2).1, (readR l (takeR x s).2).2)
theorem readR_snoc (l : List Pt) (x : Pt) (s : Option (List Nat)) : readR (l ++ [x]) s = ((readR l s).1 ++ (takeR x (readR l s).2).1.toList, (takeR x (readR l s).2).2) := by
  induction l generalizing s with
  | nil => simp [readR]
  | cons y l ih => simp only [List.cons_append, readR, ih, List.append_assoc]
theorem readR_take (l : List Pt) (k : Nat) (x : Pt) (s : Option (List Nat)) (h : l[k]? = some x) : readR (l.take (k + 1)) s = ((readR (l.take k) s).1 ++ (takeR x (readR (l.take k) s).2).1.toList, (takeR x (readR (l.take k) s).2).2) := by
  have hk : k < l.length := (List.getElem?_eq_some_iff.1 h).1
  have hx : l[k] = x := (List.getElem?_eq_some_iff.1 h).2
  rw [List.take_succ_eq_append_getElem hk, hx, readR_snoc]
theorem readR_len (l : List Pt) (s : Option (List Nat)) : (readR l s).1.length ≤ l.length := by
  induction l generalizing s with
  | nil => simp [readR]
  | cons x l ih =>
    have := ih (takeR x s).2
    have h2 : (takeR x s).1.toList.length ≤ 1 := by cases (takeR x s).1 <;> simp
    simp only [readR, List.length_append, List.length_cons]; omega
theorem intR_left {least most : Int} {s : Option (List Nat)} {r : List Nat} (h : (intR least most s).2 = some r) : ∃ l, s = some l ∧ r.length ≤ l.length := by
  cases s with
  | none => simp [intR] at h
  | some l =>
    refine ⟨l, rfl, ?_⟩
    cases hn : num 0 true l with
    | none => simp [intR, hn] at h
    | some ur =>
      obtain ⟨u, r'⟩ := ur
      have := num_len hn
      simp only [intR, hn] at h
      split at h
      · simp only [Option.some.injEq] at h; subst h; exact Nat.le_of_lt this
      · simp at h
theorem textR_left {most : Int} {s : Option (List Nat)} {r : List Nat} (h : (textR most s).2 = some r) : ∃ l, s = some l ∧ r.length ≤ l.length := by
  cases s with
  | none => simp [textR] at h
  | some l =>
    refine ⟨l, rfl, ?_⟩
    cases hn : num 0 true l with
    | none => simp [textR, hn] at h
    | some ur =>
      obtain ⟨u, r'⟩ := ur
      have hlt := num_len hn
      simp only [textR, hn] at h
      split at h
      · simp only [Option.some.injEq] at h; rw [← h, List.length_drop]; exact Nat.le_trans (Nat.sub_le _ _) (Nat.le_of_lt hlt)
      · simp at h
theorem hashR_left {s : Option (List Nat)} {r : List Nat} (h : (hashR s).2 = some r) : ∃ l, s = some l ∧ r.length ≤ l.length := by
  cases s with
  | none => simp [hashR] at h
  | some l =>
    refine ⟨l, rfl, ?_⟩
    simp only [hashR] at h
    split at h
    · simp only [Option.some.injEq] at h; rw [← h, List.length_drop]; omega
    · simp at h
theorem takeR_left {x : Pt} {s : Option (List Nat)} {r : List Nat} (h : (takeR x s).2 = some r) : ∃ l, s = some l ∧ r.length ≤ l.length := by
  unfold takeR at h
  split at h
  · exact intR_left h
  · split at h
    · exact textR_left h
    · split at h
      · exact hashR_left h
      · exact ⟨r, h, Nat.le_refl _⟩
theorem readR_left (l : List Pt) {s : Option (List Nat)} {r : List Nat} (h : (readR l s).2 = some r) : ∃ m, s = some m ∧ r.length ≤ m.length := by
  induction l generalizing s with
  | nil => exact ⟨r, h, Nat.le_refl _⟩
  | cons x l ih =>
    obtain ⟨m, h1, h2⟩ := ih (s := (takeR x s).2) h
    obtain ⟨m', h3, h4⟩ := takeR_left h1
    exact ⟨m', h3, by omega⟩
theorem fold_set0 (l : List Value) : ∀ (k : Nat) (A B : List Value), A.length = k → B.length = l.length → (l.zipIdx k).foldl (fun (cs : Array Value) (x : Value × Nat) => cs.setIfInBounds x.2 x.1) (A ++ B).toArray = (A ++ l).toArray := by
  induction l with
  | nil => intro k A B _ hB; rw [List.eq_nil_of_length_eq_zero hB]; rfl
  | cons v l ih =>
    intro k A B hA hB
    cases B with
    | nil => simp at hB
    | cons b B =>
      rw [List.zipIdx_cons, List.foldl_cons]
      have h1 : (A ++ b :: B).toArray.setIfInBounds k v = ((A ++ [v]) ++ B).toArray := by
        rw [List.setIfInBounds_toArray, ← hA, List.set_append_right _ _ (Nat.le_refl _)]
        simp
      simp only [h1]
      rw [ih (k + 1) (A ++ [v]) B (by simp; omega) (by simpa using hB)]
      simp
theorem fold_pt (y : Pt) : List.foldl (fun (cs : Array Value) (x : Value × Nat) => cs.setIfInBounds x.2 x.1) #[.int .i64 0, .int .i64 0, .int .i64 0, .int .i64 0, .slice none 0 0, .int .u8 0, .int .u8 0, .int .u8 0, .int .u8 0, .int .u8 0, .int .u8 0, .int .u8 0, .int .u8 0, .int .u8 0, .int .u8 0, .int .u8 0, .int .u8 0, .int .u8 0, .int .u8 0, .int .u8 0, .int .u8 0, .int .u8 0, .int .u8 0, .int .u8 0, .int .u8 0, .int .u8 0, .int .u8 0, .int .u8 0, .int .u8 0, .int .u8 0, .int .u8 0, .int .u8 0, .int .u8 0, .int .u8 0, .int .u8 0, .int .u8 0, .int .u8 0] (ptc y).zipIdx = (ptc y).toArray := by
  have h := fold_set0 (ptc y) 0 [] [.int .i64 0, .int .i64 0, .int .i64 0, .int .i64 0, .slice none 0 0, .int .u8 0, .int .u8 0, .int .u8 0, .int .u8 0, .int .u8 0, .int .u8 0, .int .u8 0, .int .u8 0, .int .u8 0, .int .u8 0, .int .u8 0, .int .u8 0, .int .u8 0, .int .u8 0, .int .u8 0, .int .u8 0, .int .u8 0, .int .u8 0, .int .u8 0, .int .u8 0, .int .u8 0, .int .u8 0, .int .u8 0, .int .u8 0, .int .u8 0, .int .u8 0, .int .u8 0, .int .u8 0, .int .u8 0, .int .u8 0, .int .u8 0, .int .u8 0] rfl (by rw [ptc_len, List.length_cons, List.length_cons, List.length_cons, List.length_cons, List.length_cons]; rfl)
  rw [List.nil_append, List.nil_append] at h
  exact h
/-- Where the bytes of a part lie. -/
def Pt.blk (x : Pt) : Option Nat := (Value.slice x.A x.b.length x.c).ownBlock
/-- A slice of the call's own holds parts; their bytes lie in other blocks. -/
structure Pown (w : World) (base : Nat) (v : Value) (out : List Pt) : Prop where
  own : Own w base 28 37 v out.length (pf out)
  mem : ∀ x ∈ out, PtMem w base x
  apart : ∀ x ∈ out, ∀ k, x.blk = some k → v.ownBlock ≠ some k
theorem Pown.grown {w w' : World} {base p : Nat} {v : Value} {out : List Pt} (h : Pown w base v out) (hg : w.grownBy w' (some p)) (hp : p < base) : Pown w' base v out :=
  ⟨Own.kept h.own hg (.inr fun e => by have := (Own.block h.own _ e).1; omega), fun x hx => (h.mem x hx).grown hg hp, h.apart⟩
theorem Pown.below {w w' : World} {base : Nat} {v : Value} {out : List Pt} (h : Pown w base v out) (hb : Below w.heap.size w w') : Pown w' base v out :=
  ⟨Own.below h.own hb, fun x hx => (h.mem x hx).below hb, h.apart⟩
theorem pf_app (l m : List Pt) (j : Nat) (_hj : j < (l.length + m.length) * 37) : (if j < l.length * 37 then pf l j else pf m (j - l.length * 37)) = pf (l ++ m) j := by
  unfold pf
  by_cases h : j < l.length * 37
  · rw [if_pos h, List.getElem?_append_left (by omega)]
  · rw [if_neg h, List.getElem?_append_right (by omega), show (j - l.length * 37) / 37 = j / 37 - l.length from by omega, show (j - l.length * 37) % 37 = j % 37 from by omega]
theorem pf_one (y : Pt) (j : Nat) (hj : j < 1 * 37) : (ptc y).toArray[j]? = some (pf [y] j) := by
  have := pf_at [y] 0 j (by omega)
  rw [Nat.zero_mul, Nat.zero_add] at this
  rw [this, List.getElem?_toArray, List.getElem?_eq_getElem (by rw [ptc_len]; omega)]
  simp [List.getElem?_eq_getElem (show j < (ptc y).length by rw [ptc_len]; omega)]
theorem pf_one1 (y : Pt) (j : Nat) (hj : j < 1 * 37) : (pf [y] j).oneCell' = true := by
  have h1 := pf_one y j hj
  have h2 := Array.all_eq_true_iff_forall_mem.1 (all_pt y)
  exact h2 _ (Array.mem_of_getElem? h1)
/-- A part is appended. -/
theorem Pown.put {w w' : World} {base B : Nat} {v v' : Value} {out : List Pt} {y : Pt} (h : Pown w base v out) (hy : PtMem w B y) (hB : base ≤ B) (hv : ∀ k, v.ownBlock = some k → k < B)
    (ho : Own w' base 28 37 v' (out.length + 1) (fun j => if j < out.length * 37 then pf out j else pf [y] (j - out.length * 37))) (hg : w.grownBy w' v.ownBlock) (ha : v'.ownBlock = v.ownBlock ∨ v'.ownBlock = some w.heap.size) : Pown w' base v' (out ++ [y]) := by
  have key : ∀ x ∈ out ++ [y], PtMem w base x ∧ ∀ k, x.blk = some k → v.ownBlock ≠ some k := by
    intro x hx
    rcases List.mem_append.1 hx with hx | hx
    · exact ⟨h.mem x hx, h.apart x hx⟩
    · obtain rfl : x = y := by simpa using hx
      refine ⟨hy.mono hB, fun k hk e => ?_⟩
      have h1 := (Own.block hy.own k hk).1
      have h2 := hv k e
      omega
  refine ⟨?_, fun x hx => ?_, fun x hx k hk e => ?_⟩
  · rw [List.length_append]
    exact ho.congr fun j hj => pf_app out [y] j hj
  · obtain ⟨h1, h2⟩ := key x hx
    refine ⟨Own.kept h1.own hg ?_, h1.none_⟩
    cases hk : (Value.slice x.A x.b.length x.c).ownBlock with
    | none => exact .inl rfl
    | some k => exact .inr fun e => h2 k hk e.symm
  · obtain ⟨h1, h2⟩ := key x hx
    rcases ha with ha | ha
    · exact h2 k hk (ha ▸ e)
    · have := (Own.block h1.own k hk).2
      rw [ha] at e
      cases e
      omega
theorem RS.row {w w' : World} {p : Nat} {s : Option (List Nat)} {row : Option Nat} (h : RS w p s) (hg : w.grownBy w' row) (hr : ∀ k, row = some k → p < k) : RS w' p s := by
  have hp := h.lt
  have hne : some p ≠ row := fun e => by have := hr p e.symm; omega
  cases s with
  | none => exact (hg.block p hp hne).trans h
  | some l =>
    obtain ⟨A, c, h⟩ := h
    exact ⟨A, c, (hg.block p hp hne).trans h.blk, Rd.keep h.bytes fun b off hb => World.cell?_of_block (hg.block b (by omega) (fun e => by have := hr b e.symm; omega)), h.cap, h.none_, h.byt⟩
theorem info_pt : (Try.prog.info? 28).map (fun i => (i.zero, i.size, i.bytes)) = some (some (.agg (ptc Pt.nil).toArray), 37, 88) := by kernel_rfl
/-- How read ends. -/
def RdEnd (r : List Pt × Option (List Nat)) (w : World) (e : Ending) (w' : World) : Prop :=
  ∃ A c out, e = .returned (.tuple #[.slice A out.length c, .int .i64 (doneR r.2)]) ∧ out.map Pt.face = r.1 ∧ Pown w' w.heap.size (.slice A out.length c) out ∧ Below w.heap.size w w'
set_option maxHeartbeats 4000000 in
theorem read_any (A : Option Addr) (c : Nat) (bs : List Nat) (A2 : Option Addr) (c2 : Nat) (l : List Pt) (w : World) (hb : Bs w w.heap.size A bs) (hc : bs.length ≤ c ∧ c ≤ maxLen) (hz : A = none → bs.length = 0 ∧ c = 0) (hby : Byt bs) (hbl : bs.length ≤ 1000000)
    (h : Pts w w.heap.size A2 c2 l) (hlen : l.length ≤ 100) :
    Calls Try.prog 16 #[.slice A bs.length c, .slice A2 l.length c2] w (RdEnd (readR l (some bs)) w) := by
  obtain ⟨i0, hi0, hz0, hz1, hz2⟩ := info_parts info_pt
  have HB := Lib.hid hb
  have HC := Lib.hid hc
  have HZ := Lib.hid hz
  clear hb hc hz
  go_enter Try.func16, Try.ntmps16
  go_wp2_with fail
  refine (new_any A c bs w).mono ?_
  rintro e w1 ⟨rfl, hw1⟩
  have HR1 := Lib.hid (show RS w1 w.heap.size (some bs) from ⟨A, c, by rw [hw1]; exact ⟨alloc_new _ _ _ rfl, HB.out.below ((Below.refl _ _).alloc (Nat.le_refl _) _), HC.out, HZ.out, hby⟩⟩)
  have HB1 := Lib.hid (show Below w.heap.size w w1 from by rw [hw1]; exact (Below.refl _ _).alloc (Nat.le_refl _) _)
  clear hw1
  go_wp2_with fail
  go_loopw [7, 8] (fun v i wr => ∃ k : Nat, i = .int .i64 (k : Int) ∧ k ≤ l.length ∧ ∃ out, Pown wr (w.heap.size + 1) v out ∧ out.map Pt.face = (readR (l.take k) (some bs)).1 ∧ RS wr w.heap.size (readR (l.take k) (some bs)).2 ∧ Below w.heap.size w wr)
    (fun _ i _ => (l.length - intOf i).toNat)
  case atStart => exact ⟨0, rfl, Nat.zero_le _, [], ⟨Own.nil, by simp, by simp⟩, rfl, HR1.out, HB1.out⟩
  case round =>
    obtain ⟨k, rfl, hk, out, hout, hface, hrs, hbr⟩ := hrel
    by_cases hkl : k < l.length
    · obtain ⟨x, hx⟩ : ∃ x, l[k]? = some x := ⟨_, List.getElem?_eq_getElem hkl⟩
      obtain ⟨b, off, rfl, hb, hat⟩ := (h.below hbr).at_ hx
      have HOK := Lib.hid ((h.below hbr).ok x (List.mem_of_getElem? hx))
      have HS := Lib.hid (readR_take l k x (some bs) hx)
      have HLEFT := Lib.hid (fun r (hr : (readR (l.take k) (some bs)).2 = some r) => readR_left (l.take k) hr)
      have HF := Lib.hid hface
      have HX := Lib.hid hx
      have HA := Lib.hid hat
      have HOUT := Lib.hid hout
      have HRS := Lib.hid hrs
      have HBR := Lib.hid hbr
      clear hx hat hface hout hrs hbr
      go_upto_region 6 with (fail)
      refine wp_region_list ?_
      repeat (first
        | refine wpList_load_mid (by rfl) 28 (.tmp 23) (by rfl) b (off + k * 37) (by rfl) (ptc x) _ HA.out.all Try.underlying28 (by rfl) (by rw [← List.size_toArray]; exact size_pt) ?_
        | go_values | go_skip | go_guarded | go_step | go_upon)
      refine (take_law w.heap.size (readR (l.take k) (some bs)).2 x wr HRS.out (fun r hr => by obtain ⟨m, h1, h2⟩ := HLEFT.out r hr; cases h1; omega) HOK.out.fit.2.1 HOK.out.fit.2.2).mono ?_
      rintro e w2 ⟨y, rfl, hy, hm, hg2, hr2⟩
      generalize takeR x (readR (l.take k) (some bs)).2 = T at *
      obtain ⟨t, s2⟩ := T
      have HY := Lib.hid hy
      have HM := Lib.hid hm
      have HG2 := Lib.hid hg2
      have HR2 := Lib.hid hr2
      clear hy hm hg2 hr2
      simp only []
      go_at_K
      cases t with
      | none =>
        repeat (first
          | refine wpList_store_row (by rfl) 28 (.tmp 9) (.tmp 26) (by rfl) w2.heap.size (ptc y).toArray (by rfl) (by rfl) 28 (ptc Pt.nil).toArray (alloc_new _ _ _ rfl) size_pt (ptsz _ _) (all_pt _) ?_
          | go_values | go_skip | go_guarded | go_step | go_upon)
        have hb3 : Below w2.heap.size w2 ((w2.alloc (.cells (ptc Pt.nil).toArray 28)).setRow w2.heap.size (ptc y).toArray) := below_setRow ((Below.refl _ _).alloc (Nat.le_refl _) _) (Nat.le_refl _) _
        have hlow : Below w.heap.size w w2 := HBR.out.trans ⟨HG2.out.os, HG2.out.tape, HG2.out.output, HG2.out.size, fun i hi => HG2.out.block i (Nat.lt_of_lt_of_le hi HBR.out.size) (fun e => by injection e with e; omega)⟩
        refine ⟨⟨k + 1, by go_num, by omega, out, (HOUT.out.grown HG2.out (Nat.lt_succ_self _)).below hb3, ?_, ?_, hlow.trans (hb3.mono hlow.size)⟩, ?_⟩
        · rw [HS.out, HF.out]; simp
        · rw [HS.out]; exact RS.below HR2.out hb3
        · simp [intOf]; omega
      | some z =>
        obtain ⟨W3, hW3⟩ : ∃ W3, W3 = (w2.alloc (.cells (ptc Pt.nil).toArray 28)).setRow w2.heap.size (ptc y).toArray := ⟨_, rfl⟩
        have HB3 := Lib.hid (show Below w2.heap.size w2 W3 from by rw [hW3]; exact below_setRow ((Below.refl _ _).alloc (Nat.le_refl _) _) (Nat.le_refl _) _)
        have HRow := Lib.hid (show W3.heap[w2.heap.size]? = some (.cells (ptc y).toArray 28 (0, 0)) from by rw [hW3]; exact setRow_heap _ _ _ _ _ _ (alloc_new _ _ _ rfl))
        have HW3 := Lib.hid hW3
        clear hW3
        have HP3 := Lib.hid (((HOUT.out.grown HG2.out (Nat.lt_succ_self _)).below HB3.out).below ((Below.refl _ _).alloc (Nat.le_refl _) (.cells (ptc y).toArray 28)))
        have HM3 := Lib.hid ((HM.out.below HB3.out).below ((Below.refl _ _).alloc (Nat.le_refl _) (.cells (ptc y).toArray 28)))
        have HR3 := Lib.hid ((HR2.out.below HB3.out).alloc (.cells (ptc y).toArray 28))
        have hol : out.length ≤ k := by
          have h1 := congrArg List.length HF.out
          have h2 := readR_len (l.take k) (some bs)
          rw [List.length_map] at h1
          rw [List.length_take] at h2
          omega
        have hlow : Below w.heap.size w w2 := HBR.out.trans ⟨HG2.out.os, HG2.out.tape, HG2.out.output, HG2.out.size, fun i hi => HG2.out.block i (Nat.lt_of_lt_of_le hi HBR.out.size) (fun e => by injection e with e; omega)⟩
        have hsz3 : w.heap.size < W3.heap.size := Nat.lt_of_lt_of_le (Nat.lt_of_lt_of_le HRS.out.lt HG2.out.size) HB3.out.size
        have hpl := ptc_len y
        have hpf := fold_pt y
        repeat (first
          | (refine wpList_store_row (by rfl) 28 (.tmp 9) (.tmp 26) (by rfl) w2.heap.size (ptc y).toArray (by rfl) (by rfl) 28 (ptc Pt.nil).toArray (alloc_new _ _ _ rfl) size_pt (ptsz _ _) (all_pt _) ?_
             have hw := HW3.out
             first
               | rw [← hw]
               | (trace "no rw"; change wpList _ _ _ _ _ ((w2.alloc (.cells (ptc Pt.nil).toArray 28)).setRow w2.heap.size (ptc y).toArray); rw [← hw])
             clear hw)
          | (at_builtin
             refine wpl_app _ rfl (.tmp 29) (.tmp 31) 23 rfl (w.heap.size + 1) 28 i0 _ 37 88 Try.underlying23 hi0 hz0 hz1 hz2 (ptc_len Pt.nil) (by omega) _ out.length (pf out) rfl HP3.out.own (W3.heap.size + 1) (some ⟨W3.heap.size, 0, none⟩) 1 1 (pf [y]) rfl (Rd.new (pf_one y)) (by intro h; cases h) (pf_one1 y) (by unfold maxLen; omega) (by omega) (by simp; omega) ?_
             intro v2 w4 o2 g2 a2)
          | (refine wpList_load_row (by rfl) 28 (.tmp 9) (by rfl) w2.heap.size (by rfl) 28 (ptc y).toArray (0, 0) _ HRow.out Try.underlying28 (by rfl) size_pt ?_)
          | go_values | go_skip | go_guarded | go_step | go_upon)
        have HV := fun q e => (Own.block HOUT.out.own q e)
        refine ⟨⟨k + 1, by go_num, by omega, out ++ [y], HP3.out.put HM3.out (by have := HRS.out.lt; omega) (fun q e => (HV q e).2) o2 g2 a2, ?_, ?_, ?_⟩, ?_⟩
        · rw [HS.out, List.map_append, HF.out]; simp [HY.out z rfl]
        · rw [HS.out]; exact HR3.out.row g2 (fun q e => by have := (HV q e).1; omega)
        · exact ((hlow.trans (HB3.out.mono hlow.size)).alloc (by omega) _).grown g2 (by simp; omega) (fun q e => by have := (HV q e).1; omega)
        · simp [intOf]; omega
    · obtain rfl : k = l.length := by omega
      have hb1 : decide (l.length < l.length) = false := by simp
      rw [List.take_length] at hface hrs
      obtain ⟨Ao, co, rfl, -⟩ := Own.shape hout.own
      have HF := Lib.hid hface
      have HOUT := Lib.hid hout
      have HRS := Lib.hid hrs
      have HBR := Lib.hid hbr
      clear hface hrs hout hbr hk hkl
      generalize readR l (some bs) = R at *
      go_wp2_with fail
      refine (done_any w.heap.size R.2 wr HRS.out).mono ?_
      rintro e w2 ⟨rfl, rfl⟩
      go_wp2_with fail
      go_ret2
      exact ⟨Ao, co, out, rfl, HF.out, ⟨Own.mono HOUT.out.own (Nat.le_succ _), fun x hx => (HOUT.out.mem x hx).mono (Nat.le_succ _), HOUT.out.apart⟩, HBR.out⟩
end Go.Proofs.Ytbnlobfhcanbgaa
