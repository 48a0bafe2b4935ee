/- sha.Tree's contract. -/
import Derived.Test.YtmpbimechgelfaaCode
import Derived.Deep.Cut
import Derived.Deep.RegionHeld
namespace Go.Proofs.Ytmpbimechgelfaa
open Go Go.RowKit

/-- The cells of a list of hashes. -/
def hf (l : List (Nat → Nat)) (j : Nat) : Value := .int .u8 ((l[j / 32]?.getD (fun _ => 0)) (j % 32) : Nat)
/-- The slice A holds the hashes l, below block B. -/
def Hs (w : World) (B : Nat) (A : Option Addr) (l : List (Nat → Nat)) : Prop := Rd w B 32 A l.length (hf l)
theorem Hs.take {w : World} {B : Nat} {A : Option Addr} {l : List (Nat → Nat)} (h : Hs w B A l) (p : Nat) : Hs w B A (l.take p) := by
  refine (Rd.take h (m := (l.take p).length) (by simp; omega)).congr fun j hj => ?_
  unfold hf
  rw [List.getElem?_take_of_lt]
  rw [List.length_take] at hj
  have : j / 32 < min p l.length := Nat.div_lt_of_lt_mul (by omega)
  omega
theorem Hs.drop {w : World} {B b off : Nat} {l : List (Nat → Nat)} (h : Hs w B (some ⟨b, off, none⟩) l) (p : Nat) : Hs w B (some ⟨b, off + p * 32, none⟩) (l.drop p) := fun hn => by
  rw [List.length_drop] at hn
  obtain ⟨b', off', e, hb, hc⟩ := h (by omega)
  injection e with e
  injection e with e1 e2
  subst e1 e2
  refine ⟨b, off + p * 32, rfl, hb, fun j hj => ?_⟩
  rw [List.length_drop, Nat.sub_mul] at hj
  rw [Nat.add_assoc, hc (p * 32 + j) (by omega)]
  unfold hf
  rw [List.getElem?_drop, show (p * 32 + j) / 32 = p + j / 32 from by omega, show (p * 32 + j) % 32 = j % 32 from by omega]
theorem Hs.at_ {w : World} {B : Nat} {A : Option Addr} {l : List (Nat → Nat)} (h : Hs w B A l) {k : Nat} (hk : k < l.length) : ∃ b off, A = some ⟨b, off, none⟩ ∧ b < B ∧ w.rangeAt b (off + k * 32) (hc (l[k]?.getD fun _ => 0)).toList := by
  obtain ⟨b, off, e, hb, hc'⟩ := h (by omega)
  refine ⟨b, off, e, hb, fun j v hj => ?_⟩
  have hj32 : j < 32 := by have := (List.getElem?_eq_some_iff.1 hj).1; rw [Array.length_toList, hc_size] at this; exact this
  rw [Nat.add_assoc, hc' (k * 32 + j) (by omega), ← hj, Array.getElem?_toList, hc_get _ hj32]
  unfold hf
  rw [show (k * 32 + j) / 32 = k from by omega, show (k * 32 + j) % 32 = j from by omega]
theorem Hs.next {w w' : World} {A : Option Addr} {l : List (Nat → Nat)} (h : Hs w w.heap.size A l) (hb : Below w.heap.size w w') : Hs w' w'.heap.size A l := (Rd.below h hb).more hb.size
/-- What stands behind a piece of code is shown once, ahead of it. -/
theorem with_end {P : Program} {code : Code} {a : Act} {w : World} {Q : Exit → Act → World → Prop} (F : Nat → Nat → Act) (Fa : Nat → Nat → World → Prop) (hend : ∀ g4 g5 W, Fa g4 g5 W → Q .normal (F g4 g5) W)
    (h : (∀ g4 g5 W, Fa g4 g5 W → Q .normal (F g4 g5) W) → Code.wp P code Q a w) : Code.wp P code Q a w := h hend
/-- How many of n are in the first tree. -/
def tp (n : Nat) : Nat := 2 ^ (Lib.bitLen (n - 1) - 1)
theorem bl_facts : ∀ x : Fin 1024, 1 ≤ x.val → 1 ≤ Lib.bitLen x.val ∧ Lib.bitLen x.val ≤ 10 ∧ 2 ^ (Lib.bitLen x.val - 1) ≤ x.val := by decide +kernel
/-- The digest of hashes, two by two. -/
def treeF : Nat → List (Nat → Nat) → Nat → Nat
  | 0, l => l[0]?.getD (sumH [])
  | k + 1, l => match l with
    | [] => sumH []
    | [h] => h
    | l => sumH ([1] ++ hl (treeF k (l.take (tp l.length))) ++ hl (treeF k (l.drop (tp l.length))))
theorem treeF_lt (k : Nat) : ∀ l : List (Nat → Nat), (∀ h ∈ l, ∀ j, h j < 256) → ∀ j, treeF k l j < 256 := by
  induction k with
  | zero =>
    intro l hl j
    unfold treeF
    cases hl0 : l[0]? with
    | none => exact sumH_lt [] j
    | some h => exact hl h (List.mem_of_getElem? hl0) j
  | succ k ih =>
    intro l hl j
    match l, hl with
    | [], _ => exact sumH_lt [] j
    | [h], hl => exact hl h (by simp) j
    | a :: b :: r, _ => exact sumH_lt _ j
theorem treeF_two {k : Nat} {l : List (Nat → Nat)} (h : 2 ≤ l.length) : treeF (k + 1) l = sumH ([1] ++ hl (treeF k (l.take (tp l.length))) ++ hl (treeF k (l.drop (tp l.length)))) := by
  match l, h with
  | a :: b :: r, _ => rfl
theorem tp_facts {n : Nat} (h2 : 2 ≤ n) (hn : n ≤ 1000) : 1 ≤ tp n ∧ tp n < n ∧ 1 ≤ Lib.bitLen (n - 1) ∧ Lib.bitLen (n - 1) ≤ 10 := by
  have h := bl_facts ⟨n - 1, by omega⟩ (by show 1 ≤ n - 1; omega)
  obtain ⟨h1, h3, h4⟩ := h
  dsimp only at h1 h3 h4
  refine ⟨Nat.one_le_two_pow, ?_, h1, h3⟩
  unfold tp
  omega
set_option maxRecDepth 100000 in
set_option maxHeartbeats 8000000 in
theorem tree_small (k : Nat) (l : List (Nat → Nat)) (A : Option Addr) (c : Nat) (w : World) (h : Hs w w.heap.size A l) (hlen : l.length ≤ 1) :
    Calls Try.prog 31 #[.slice A l.length c] w fun e w' => e = .returned (.agg (hc (treeF k l))) ∧ Below w.heap.size w w' := by
  have HH := Lib.hid h
  have HAL := Lib.hid (heap_alloc_new w (.cells (hc fun _ => 0) 33))
  clear h
  match l, hlen, HH with
  | [], hlen, HH =>
    go_enter Try.func31, Try.ntmps31
    go_upto_region 3 with (fail)
    refine wp_region_list ?_
    repeat (first | go_values | go_skip | go_guarded | go_step | go_upon)
    refine (sum_any none 0 [] [] _ (Prt.none _) (Nat.le_refl _) (by simp) (by simp)).mono ?_
    rintro e w1 ⟨rfl, hb1⟩
    obtain ⟨C2, hC2⟩ : ∃ C, C = hc (treeF k []) := ⟨_, rfl⟩
    rw [show hc (sumH ([] : List (List Nat)).flatten) = C2 from by rw [hC2]; cases k <;> rfl]
    have HC2s := Lib.hid (show (Try.prog.info? 33).map (·.size) = some C2.size from by rw [hC2]; exact size_hc)
    have HC2a := Lib.hid (show C2.all (·.oneCell') = true from by rw [hC2]; exact hc_all _)
    have HC2z := Lib.hid (show (hc fun _ => 0).size = C2.size from by rw [hC2, hc_size, hc_size])
    have HO7 := Lib.hid (show w1.heap[w.heap.size]? = some (.cells (hc fun _ => 0) 33 (0, 0)) from by rw [hb1.block _ (by simp)]; exact HAL.out)
    have HB7 := Lib.hid (show Below w.heap.size w w1 from below_chain ((Below.refl _ _).alloc (Nat.le_refl _) _) hb1)
    have HFIN := Lib.hid hC2.symm
    clear hC2 hb1
    dsimp only
    repeat (first
      | refine wpList_store_row (by rfl) 33 (.tmp 2) (.tmp 10) (by rfl) w.heap.size C2 (by rfl) (by rfl) 33 (hc fun _ => 0) HO7.out HC2s.out HC2z.out HC2a.out ?_
      | go_values | go_skip | go_guarded | go_step | go_upon)
    exact bodyPost_ret (v := .agg C2) (results_cell_row (by rfl) _ _ w.heap.size 33 _ (0, 0) _ (by rfl) (setRow_heap _ _ _ _ _ _ HO7.out) Try.underlying33 (by rfl) HC2s.out) rfl ⟨by rw [HFIN.out], below_setRow HB7.out (Nat.le_refl _) C2⟩
  | [h0], hlen, HH =>
    obtain ⟨b, off, rfl, hb, hr⟩ := HH.out.at_ (k := 0) (by simp)
    obtain ⟨C2, hC2⟩ : ∃ C, C = hc (treeF k [h0]) := ⟨_, rfl⟩
    have HR := Lib.hid (show (w.alloc (.cells (hc fun _ => 0) 33)).rangeAt b off C2.toList from by
      refine World.rangeAt_alloc ?_ _
      rw [Nat.zero_mul, Nat.add_zero] at hr
      rw [hC2]
      have : treeF k [h0] = h0 := by cases k <;> rfl
      rw [this]; exact hr)
    have HC2s := Lib.hid (show (Try.prog.info? 33).map (·.size) = some C2.size from by rw [hC2]; exact size_hc)
    have HC2a := Lib.hid (show C2.all (·.oneCell') = true from by rw [hC2]; exact hc_all _)
    have HC2z := Lib.hid (show (hc fun _ => 0).size = C2.size from by rw [hC2, hc_size, hc_size])
    have HFIN := Lib.hid hC2.symm
    clear hC2 hr
    go_enter Try.func31, Try.ntmps31
    go_upto_region 5 with (fail)
    refine wp_region_list ?_
    repeat (first
      | refine wpList_load_mid (by rfl) 33 (.tmp 14) (by rfl) b off (by rfl) C2.toList _ HR.out Try.underlying33 (by rfl) (by rw [Array.length_toList]; exact HC2s.out) ?_
      | refine wpList_store_row (by rfl) 33 (.tmp 2) (.tmp 15) (by rfl) w.heap.size C2 (by rfl) (by rfl) 33 (hc fun _ => 0) HAL.out HC2s.out HC2z.out HC2a.out ?_
      | go_values | go_skip | go_guarded | go_step | go_upon)
    exact bodyPost_ret (v := .agg C2) (results_cell_row (by rfl) _ _ w.heap.size 33 _ (0, 0) _ (by rfl) (setRow_heap _ _ _ _ _ _ HAL.out) Try.underlying33 (by rfl) HC2s.out) rfl ⟨by rw [HFIN.out], below_setRow ((Below.refl _ _).alloc (Nat.le_refl _) _) (Nat.le_refl _) C2⟩
  | a :: b :: r, hlen, HH => simp at hlen
theorem len_any {n q : Nat} (hq : q = Lib.bitLen (n - 1)) (h2 : 2 ≤ n) (hn : n ≤ 1000) (w : World) : Calls Try.prog 54 #[.int .u64 ((n : Int) - 1)] w fun e w' => e = .returned (.int .i64 (q : Int)) ∧ w = w' := by
  refine (Try.bits_Len _ _ (by omega) (by omega)).mono ?_
  rintro e w' ⟨rfl, rfl⟩
  rw [hq, show ((n : Int) - 1).toNat = n - 1 from by omega]
  exact ⟨rfl, rfl⟩
set_option maxRecDepth 100000 in
set_option maxHeartbeats 8000000 in
theorem tree_any (k : Nat) : ∀ (l : List (Nat → Nat)) (A : Option Addr) (c : Nat) (w : World), Hs w w.heap.size A l → (∀ h ∈ l, ∀ j, h j < 256) → l.length ≤ k → l.length ≤ 1000 → l.length ≤ c → c ≤ maxLen →
    Calls Try.prog 31 #[.slice A l.length c] w fun e w' => e = .returned (.agg (hc (treeF k l))) ∧ Below w.heap.size w w' := by
  induction k with
  | zero => intro l A c w h _ hk _ _ _; exact tree_small 0 l A c w h (by omega)
  | succ k ih =>
    intro l A c w h hok hk hlen hc' hcm
    by_cases h2 : l.length ≤ 1
    · exact tree_small (k + 1) l A c w h h2
    · have IH := Lib.hid ih
      have HH := Lib.hid h
      have HOK := Lib.hid hok
      obtain ⟨b, off, rfl, hbw, -⟩ := h (by omega)
      obtain ⟨n, hn⟩ : ∃ n, n = l.length := ⟨_, rfl⟩
      rw [← hn] at hk hlen hc' h2 ⊢
      obtain ⟨hp1, hp2, hq1, hq2⟩ := tp_facts (n := n) (by omega) hlen
      have HTW := Lib.hid (treeF_two (k := k) (l := l) (by omega))
      rw [← hn] at HTW
      obtain ⟨q, hq⟩ : ∃ q, q = Lib.bitLen (n - 1) := ⟨_, rfl⟩
      obtain ⟨p, hp⟩ : ∃ p, p = tp n := ⟨_, rfl⟩
      have hpq : (2 : Nat) ^ (q - 1) = p := by rw [hp, hq]; rfl
      rw [← hp] at hp1 hp2 HTW
      rw [← hq] at hq1 hq2
      have HN := Lib.hid hn
      have HQ := Lib.hid hq
      have HPQ := Lib.hid hpq
      have hcm' : (c : Int) ≤ 9223372036854775807 := by unfold maxLen at hcm; omega
      have hpn : (p : Int) ≤ (n : Int) := by omega
      clear ih h hok hn hp hq hpq hcm
      go_enter Try.func31, Try.ntmps31
      have hq3 : (1 : Int) ≤ (q : Int) := by omega
      have hq4 : (q : Int) ≤ 10 := by omega
      have hn2 : 2 ≤ n := by omega
      go_upto_region 7 with (go_at_call 54; refine (len_any HQ.out hn2 hlen _).mono ?_; rintro e w' ⟨rfl, rfl⟩)
      have hwr : wrap64 ((2 : Int) ^ (q - 1)) = (p : Int) := by
        have h1 : ((2 : Int) ^ (q - 1)) = (p : Int) := by rw [← HPQ.out]; push_cast; rfl
        rw [h1]; exact IntWalk.wrap64_in _ (by omega)
      rw [hwr]
      clear hwr hq3 hq4
      obtain ⟨W0, hW0⟩ : ∃ W0, W0 = w.alloc (.cells (hc fun _ => 0) 33) := ⟨_, rfl⟩
      change Code.wp _ _ _ _ (w.alloc (.cells (hc fun _ => 0) 33))
      rw [← hW0]
      have HS0 := Lib.hid (show W0.heap.size = w.heap.size + 1 from by rw [hW0]; simp)
      have HB0 := Lib.hid (show Below w.heap.size w W0 from by rw [hW0]; exact (by repeat (first | exact Below.refl _ _ | assumption | refine below_drewN ?_ _ | refine Below.drew ?_ | refine Below.alloc ?_ (by simp; try omega) _ | refine Below.setCell ?_ (by simp; try omega) _)))
      have HO0 := Lib.hid (show W0.heap[w.heap.size]? = some (.cells (hc fun _ => 0) 33 (0, 0)) from by rw [hW0]; exact heap_alloc_new w _)
      have HH0 := Lib.hid (show Hs W0 W0.heap.size (some ⟨b, off, none⟩) l from Hs.next HH.out HB0.out)
      clear hW0
      obtain ⟨C1, hC1⟩ : ∃ C, C = hc (treeF k (l.take p)) := ⟨_, rfl⟩
      obtain ⟨C2, hC2⟩ : ∃ C, C = hc (treeF k (l.drop p)) := ⟨_, rfl⟩
      have HC1s := Lib.hid (show (Try.prog.info? 33).map (·.size) = some C1.size from by rw [hC1]; exact size_hc)
      have HC1a := Lib.hid (show C1.all (·.oneCell') = true from by rw [hC1]; exact hc_all _)
      have HC1z := Lib.hid (show (hc fun _ => 0).size = C1.size from by rw [hC1, hc_size, hc_size])
      have HC2s := Lib.hid (show (Try.prog.info? 33).map (·.size) = some C2.size from by rw [hC2]; exact size_hc)
      have HC2a := Lib.hid (show C2.all (·.oneCell') = true from by rw [hC2]; exact hc_all _)
      have HC2z := Lib.hid (show (hc fun _ => 0).size = C2.size from by rw [hC2, hc_size, hc_size])
      have HC1 : Hid (∀ W, Below W0.heap.size W0 W → Calls Try.prog 31 #[.slice (some ⟨b, off, none⟩) p c] W fun e w' => e = .returned (.agg C1) ∧ Below W.heap.size W w') := Lib.hid fun W hb => by
        have h1 := IH.out (l.take p) (some ⟨b, off, none⟩) c W (Hs.take (Hs.next HH0.out hb) p) (fun h hh => HOK.out h (List.mem_of_mem_take hh)) (by rw [List.length_take, ← HN.out]; omega) (by rw [List.length_take, ← HN.out]; omega) (by rw [List.length_take, ← HN.out]; omega) (by unfold maxLen; omega)
        rw [List.length_take, ← HN.out, Nat.min_eq_left (by omega), ← hC1] at h1
        exact h1
      have HC2 : Hid (∀ W, Below W0.heap.size W0 W → Calls Try.prog 31 #[.slice (some ⟨b, off + p * 32, none⟩) (n - p) (c - p)] W fun e w' => e = .returned (.agg C2) ∧ Below W.heap.size W w') := Lib.hid fun W hb => by
        have h1 := IH.out (l.drop p) (some ⟨b, off + p * 32, none⟩) (c - p) W (Hs.drop (Hs.next HH0.out hb) p) (fun h hh => HOK.out h (List.mem_of_mem_drop hh)) (by rw [List.length_drop, ← HN.out]; omega) (by rw [List.length_drop, ← HN.out]; omega) (by rw [List.length_drop, ← HN.out]; omega) (by unfold maxLen; omega)
        rw [List.length_drop, ← HN.out, ← hC2] at h1
        exact h1
      have hpc : (p : Int) < (c : Int) := by omega
      have hpc' : (p : Int) ≤ (c : Int) := by omega
      have hpc0 : (0 : Int) ≤ (p : Int) := by omega
      have hcne : ¬ c = p := by omega
      have HD1 := Lib.hid hC1
      have HD2 := Lib.hid hC2
      clear hC1 hC2
      refine with_end (fun g4 g5 => ⟨#[.slice (some ⟨b, off, none⟩) n c, undef, .pointer (some ⟨w.heap.size, 0, none⟩), .int .i64 (p : Int), .pointer (some ⟨g4, 0, none⟩), .pointer (some ⟨g5, 0, none⟩), .slice (some ⟨b, off, none⟩) n c, .int .i64 (n : Int), .bool false, .bool false, undef, .bool false, .bool false, undef, undef, undef,
        .slice (some ⟨b, off, none⟩) n c, .int .i64 (n : Int), .int .i64 ((n : Int) - 1), .int .u64 ((n : Int) - 1), .int .i64 (q : Int), .int .i64 ((q : Int) - 1), .int .i64 (p : Int), .slice (some ⟨b, off, none⟩) n c, .int .i64 (p : Int), .slice (some ⟨b, off, none⟩) p c, .agg C1, .slice (some ⟨b, off, none⟩) n c, .int .i64 (p : Int), .slice (some ⟨b, off + p * 32, none⟩) (n - p) (c - p), .agg C2, undef, undef, undef, undef, undef], []⟩)
        (fun g4 g5 W => g4 ≠ g5 ∧ W0.heap.size ≤ g4 ∧ W0.heap.size ≤ g5 ∧ W.heap[g4]? = some (.cells C1 33 (0, 0)) ∧ W.heap[g5]? = some (.cells C2 33 (0, 0)) ∧ Below W0.heap.size W0 W) ?_ (fun HEND => ?_)
      · intro g4 g5 W9 ⟨hne, h4, h5, hx4, hx5, hb9⟩
        have HX4 := Lib.hid hx4
        have HX5 := Lib.hid hx5
        have HB9 := Lib.hid hb9
        have HLT4 := Lib.hid (Array.getElem?_eq_some_iff.1 hx4).1
        have HLT5 := Lib.hid (Array.getElem?_eq_some_iff.1 hx5).1
        clear hx4 hx5 hb9
        change Exit.then _ _ Exit.normal ⟨#[.slice (some ⟨b, off, none⟩) n c, undef, .pointer (some ⟨w.heap.size, 0, none⟩), .int .i64 (p : Int), .pointer (some ⟨g4, 0, none⟩), .pointer (some ⟨g5, 0, none⟩), .slice (some ⟨b, off, none⟩) n c, .int .i64 (n : Int), .bool false, .bool false, undef, .bool false, .bool false, undef, undef, undef,
        .slice (some ⟨b, off, none⟩) n c, .int .i64 (n : Int), .int .i64 ((n : Int) - 1), .int .u64 ((n : Int) - 1), .int .i64 (q : Int), .int .i64 ((q : Int) - 1), .int .i64 (p : Int), .slice (some ⟨b, off, none⟩) n c, .int .i64 (p : Int), .slice (some ⟨b, off, none⟩) p c, .agg C1, .slice (some ⟨b, off, none⟩) n c, .int .i64 (p : Int), .slice (some ⟨b, off + p * 32, none⟩) (n - p) (c - p), .agg C2, undef, undef, undef, undef, undef], []⟩ W9
        have HW9 := Lib.hid (show W9.heap[w.heap.size]? = some (.cells (hc fun _ => 0) 33 (0, 0)) from by rw [HB9.out.block _ (by rw [HS0.out]; omega)]; exact HO0.out)
        have HBW9 := Lib.hid (show Below w.heap.size w W9 from below_chain HB0.out HB9.out)
        have HP := Lib.hid (show Prt ((W9.drew.alloc (.cells #[.int .u8 1] 5)).alloc (.cells #[.slice (some ⟨W9.heap.size, 0, none⟩) 1 1, .slice (some ⟨g4, 0, none⟩) 32 32, .slice (some ⟨g5, 0, none⟩) 32 32] 31)) (some ⟨W9.heap.size + 1, 0, none⟩)
            [.slice (some ⟨W9.heap.size, 0, none⟩) 1 1, .slice (some ⟨g4, 0, none⟩) 32 32, .slice (some ⟨g5, 0, none⟩) 32 32] [[1], hl (treeF k (l.take p)), hl (treeF k (l.drop p))] from by
          have hb : Below W9.heap.size W9 (W9.drew.alloc (.cells #[.int .u8 1] 5)) := (Below.refl _ _).drew.alloc (Nat.le_refl _) _
          have h1 : Bs (W9.drew.alloc (.cells #[.int .u8 1] 5)) (W9.drew.alloc (.cells #[.int .u8 1] 5)).heap.size (some ⟨W9.heap.size, 0, none⟩) [1] := fun _ => ⟨_, 0, rfl, by simp, fun j hj => by
            obtain rfl : j = 0 := by simp at hj; omega
            exact cell_of_one (heap_alloc_new W9.drew _)⟩
          have h2 : Bs (W9.drew.alloc (.cells #[.int .u8 1] 5)) (W9.drew.alloc (.cells #[.int .u8 1] 5)).heap.size (some ⟨g4, 0, none⟩) (hl (treeF k (l.take p))) := Bs.box ((hb.block _ HLT4.out).trans (by rw [← HD1.out]; exact HX4.out)) (Nat.lt_of_lt_of_le HLT4.out hb.size)
          have h3 : Bs (W9.drew.alloc (.cells #[.int .u8 1] 5)) (W9.drew.alloc (.cells #[.int .u8 1] 5)).heap.size (some ⟨g5, 0, none⟩) (hl (treeF k (l.drop p))) := Bs.box ((hb.block _ HLT5.out).trans (by rw [← HD2.out]; exact HX5.out)) (Nat.lt_of_lt_of_le HLT5.out hb.size)
          have h4 := Prt.three (t := 31) (c := 1) (c2 := 32) (c3 := 32) h1 (by intro x hx; simp at hx; omega) h2 (hl_byt (treeF_lt k _ (fun h hh => HOK.out h (List.mem_of_mem_take hh)))) h3 (hl_byt (treeF_lt k _ (fun h hh => HOK.out h (List.mem_of_mem_drop hh))))
          rw [hl_len, hl_len] at h4
          have e : (W9.drew.alloc (.cells #[.int .u8 1] 5)).heap.size = W9.heap.size + 1 := by simp
          rw [e] at h4
          exact h4)
        obtain ⟨C3, hC3⟩ : ∃ C, C = hc (treeF (k + 1) l) := ⟨_, rfl⟩
        have HC3s := Lib.hid (show (Try.prog.info? 33).map (·.size) = some C3.size from by rw [hC3]; exact size_hc)
        have HC3a := Lib.hid (show C3.all (·.oneCell') = true from by rw [hC3]; exact hc_all _)
        have HC3z := Lib.hid (show (hc fun _ => 0).size = C3.size from by rw [hC3, hc_size, hc_size])
        have HC3v := Lib.hid (show hc (sumH [[1], hl (treeF k (l.take p)), hl (treeF k (l.drop p))].flatten) = C3 from by rw [hC3, HTW.out]; simp)
        have HFIN := Lib.hid hC3.symm
        clear hC3
        go_wp2_with fail
        refine wp_region_held_drew (S := (fun w' => Hid (Below w.heap.size w w'))) (by kernel_rfl) ?_ (fun hHeld => ?_)
        · (first | exact Lib.hid (below_setRow HBW10.out (Nat.le_refl _) C3) | exact HBW10 | exact Lib.hid (by repeat (first | exact HBW9.out | refine Below.drew ?_ | refine Below.alloc ?_ (by have := HBW9.out.size; first | exact this | (simp; omega)) _)) | assumption)
        refine wpAnyH_take (i := 1) (oi := { dst := some 32, op := Op.slice 33 (Operand.tmp 4) none none none, type := 31, pos := "sha.go:97", after := #[], guard := none }) (v := ?_) rfl (by kernel_rfl) (by kernel_rfl) (by kernel_rfl) (fun _ _ _ h => h) (Or.inl ⟨by rfl, ?_⟩) (by assumption) ?_
        rotate_left 1
        · intro ws hSw; (try dsimp only at hSw); go_simp; all_goals with_reducible rfl
        simp only [Act.put, List.setIfInBounds_toArray, List.set_cons_zero, List.set_cons_succ]
        refine wpAnyH_take (i := 2) (oi := { dst := some 33, op := Op.slice 33 (Operand.tmp 5) none none none, type := 31, pos := "sha.go:97", after := #[], guard := none }) (v := ?_) rfl (by kernel_rfl) (by kernel_rfl) (by kernel_rfl) (fun _ _ _ h => h) (Or.inl ⟨by rfl, ?_⟩) (by assumption) ?_
        rotate_left 1
        · intro ws hSw; (try dsimp only at hSw); go_simp; all_goals with_reducible rfl
        simp only [Act.put, List.setIfInBounds_toArray, List.set_cons_zero, List.set_cons_succ]
        refine wpAnyH_ready (rs := [0]) (by kernel_rfl) (by simp) ?_
        refine AllReadyH.cons (o := { dst := some 31, op := Op.buildSlice 31 1 #[(0, Operand.const (Value.int IntKind.u8 1))], type := 31, pos := "sha.go:97", after := #[], guard := none }) rfl (fun K hK => ?_) AllReadyH.nil
        go_simp
        refine hK.out _ _ ?_ (fun hHeld => ?_)
        · (first | exact Lib.hid (below_setRow HBW10.out (Nat.le_refl _) C3) | exact HBW10 | exact Lib.hid (by repeat (first | exact HBW9.out | refine Below.drew ?_ | refine Below.alloc ?_ (by have := HBW9.out.size; first | exact this | (simp; omega)) _)) | assumption)
        clear hK K
        try simp only [Act.put, List.setIfInBounds_toArray, List.set_cons_zero, List.set_cons_succ]
        refine wpAnyH_ready (rs := [3]) (by kernel_rfl) (by simp) ?_
        refine AllReadyH.cons (o := { dst := some 34, op := Op.buildSlice 52 3 #[(0, Operand.tmp 31), (1, Operand.tmp 32), (2, Operand.tmp 33)], type := 52, pos := "sha.go:97", after := #[{ on := 0, ground := Ground.data }, { on := 1, ground := Ground.data }, { on := 2, ground := Ground.data }], guard := none }) rfl (fun K hK => ?_) AllReadyH.nil
        go_simp
        refine hK.out _ _ ?_ (fun hHeld => ?_)
        · (first | exact Lib.hid (below_setRow HBW10.out (Nat.le_refl _) C3) | exact HBW10 | exact Lib.hid (by repeat (first | exact HBW9.out | refine Below.drew ?_ | refine Below.alloc ?_ (by have := HBW9.out.size; first | exact this | (simp; omega)) _)) | assumption)
        clear hK K
        try simp only [Act.put, List.setIfInBounds_toArray, List.set_cons_zero, List.set_cons_succ]
        refine wpAnyH_ready (rs := [4]) (by kernel_rfl) (by simp) ?_
        refine AllReadyH.cons (o := { dst := some 35, op := Op.call { callee := Callee.value (Operand.func 29), args := #[Operand.tmp 34], argTypes := #[52] }, type := 33, pos := "sha.go:97", after := #[{ on := 3, ground := Ground.data }], guard := none }) rfl (fun K hK => ?_) AllReadyH.nil
        go_simp
        (go_at_call 29; refine (sum_any _ 3 _ _ _ HP.out (by simp) (by simp) (by simp [hl_len])).mono ?_; rintro e w10 ⟨rfl, hb10⟩; rw [HC3v.out]; have HB10 := Lib.hid (show Below W9.heap.size W9 w10 from below_chain ((((Below.refl _ _).drew.alloc (Nat.le_refl _) _).alloc (by simp) _)) hb10); have HBW10 := Lib.hid (show Below w.heap.size w w10 from below_chain HBW9.out HB10.out); have HO10 := Lib.hid ((HB10.out.block _ (Array.getElem?_eq_some_iff.1 HW9.out).1).trans HW9.out); clear hb10)
        refine hK.out _ _ ?_ (fun hHeld => ?_)
        · (first | exact Lib.hid (below_setRow HBW10.out (Nat.le_refl _) C3) | exact HBW10 | exact Lib.hid (by repeat (first | exact HBW9.out | refine Below.drew ?_ | refine Below.alloc ?_ (by have := HBW9.out.size; first | exact this | (simp; omega)) _)) | assumption)
        clear hK K
        refine wpAnyH_ready (rs := [5]) (by kernel_rfl) (by simp) ?_
        refine AllReadyH.cons (o := { dst := none, op := Op.store 33 (Operand.tmp 2) (Operand.tmp 35), type := 0, pos := "sha.go:97", after := #[{ on := 4, ground := Ground.data }, { on := 4, ground := Ground.chain }, { on := 0, ground := Ground.phase }, { on := 1, ground := Ground.phase }, { on := 2, ground := Ground.phase }, { on := 3, ground := Ground.phase }, { on := 4, ground := Ground.phase }], guard := none }) rfl (fun K hK => ?_) AllReadyH.nil
        rw [if_pos (by rfl)]
        (refine wp_store_row 33 (.tmp 2) (.tmp 35) (by rfl) w.heap.size C3 (by rfl) (by rfl) 33 (hc fun _ => 0) HO10.out HC3s.out HC3z.out HC3a.out ?_)
        refine hK.out _ _ ?_ (fun hHeld => ?_)
        · (first | exact Lib.hid (below_setRow HBW10.out (Nat.le_refl _) C3) | exact HBW10 | exact Lib.hid (by repeat (first | exact HBW9.out | refine Below.drew ?_ | refine Below.alloc ?_ (by have := HBW9.out.size; first | exact this | (simp; omega)) _)) | assumption)
        clear hK K
        try simp only [Act.put]
        refine wpAnyH_done (by kernel_rfl) ?_ _
        go_wp2_with fail
        exact bodyPost_ret (v := .agg C3) (results_cell_row (by rfl) _ _ w.heap.size 33 _ (0, 0) _ (by rfl) (setRow_heap _ _ _ _ _ _ HO10.out) Try.underlying33 (by rfl) HC3s.out) rfl ⟨by rw [HFIN.out], below_setRow HBW10.out (Nat.le_refl _) C3⟩
      · have hpn' : p ≤ n := by omega
        clear hp1 hq1 hq2 hn2
        refine wp_region_held_drew (S := fun w' => Hid (Below W0.heap.size W0 w')) (by kernel_rfl) (Lib.hid (Below.drew (Below.refl _ _))) (fun hHeld => ?_)
        refine wpAnyH_take (i := 0) (oi := { dst := some 23, op := Op.move (Operand.tmp 0), type := 32, pos := "sha.go:96", after := #[], guard := none }) (v := ?_) rfl (by kernel_rfl) (by kernel_rfl) (by kernel_rfl) (fun _ _ _ h => h) (Or.inl ⟨by rfl, ?_⟩) (by assumption) ?_
        rotate_left 1
        · intro ws hSw; (try dsimp only at hSw); go_simp; all_goals with_reducible rfl
        simp only [Act.put, List.setIfInBounds_toArray, List.set_cons_zero, List.set_cons_succ]
        refine wpAnyH_take (i := 1) (oi := { dst := some 24, op := Op.move (Operand.tmp 3), type := 3, pos := "sha.go:96", after := #[], guard := none }) (v := ?_) rfl (by kernel_rfl) (by kernel_rfl) (by kernel_rfl) (fun _ _ _ h => h) (Or.inl ⟨by rfl, ?_⟩) (by assumption) ?_
        rotate_left 1
        · intro ws hSw; (try dsimp only at hSw); go_simp; all_goals with_reducible rfl
        simp only [Act.put, List.setIfInBounds_toArray, List.set_cons_zero, List.set_cons_succ]
        refine wpAnyH_take (i := 2) (oi := { dst := some 25, op := Op.slice 32 (Operand.tmp 23) none (some (Operand.tmp 24)) none, type := 32, pos := "sha.go:96", after := #[{ on := 0, ground := Ground.data }, { on := 1, ground := Ground.data }], guard := none }) (v := ?_) rfl (by kernel_rfl) (by kernel_rfl) (by kernel_rfl) (fun _ _ _ h => h) (Or.inl ⟨by rfl, ?_⟩) (by assumption) ?_
        rotate_left 1
        · intro ws hSw; (try dsimp only at hSw); go_simp; all_goals with_reducible rfl
        simp only [Act.put, List.setIfInBounds_toArray, List.set_cons_zero, List.set_cons_succ]
        refine wpAnyH_take (i := 4) (oi := { dst := some 27, op := Op.move (Operand.tmp 0), type := 32, pos := "sha.go:96", after := #[], guard := none }) (v := ?_) rfl (by kernel_rfl) (by kernel_rfl) (by kernel_rfl) (fun _ _ _ h => h) (Or.inl ⟨by rfl, ?_⟩) (by assumption) ?_
        rotate_left 1
        · intro ws hSw; (try dsimp only at hSw); go_simp; all_goals with_reducible rfl
        simp only [Act.put, List.setIfInBounds_toArray, List.set_cons_zero, List.set_cons_succ]
        refine wpAnyH_take (i := 5) (oi := { dst := some 28, op := Op.move (Operand.tmp 3), type := 3, pos := "sha.go:96", after := #[], guard := none }) (v := ?_) rfl (by kernel_rfl) (by kernel_rfl) (by kernel_rfl) (fun _ _ _ h => h) (Or.inl ⟨by rfl, ?_⟩) (by assumption) ?_
        rotate_left 1
        · intro ws hSw; (try dsimp only at hSw); go_simp; all_goals with_reducible rfl
        simp only [Act.put, List.setIfInBounds_toArray, List.set_cons_zero, List.set_cons_succ]
        refine wpAnyH_take (i := 6) (oi := { dst := some 29, op := Op.slice 32 (Operand.tmp 27) (some (Operand.tmp 28)) none none, type := 32, pos := "sha.go:96", after := #[{ on := 4, ground := Ground.data }, { on := 5, ground := Ground.data }], guard := none }) (v := ?_) rfl (by kernel_rfl) (by kernel_rfl) (by kernel_rfl) (fun _ _ _ h => h) (Or.inl ⟨by rfl, ?_⟩) (by assumption) ?_
        rotate_left 1
        · intro ws hSw; (try dsimp only at hSw); go_simp; all_goals with_reducible rfl
        simp only [Act.put, List.setIfInBounds_toArray, List.set_cons_zero, List.set_cons_succ]
        have HBr := hHeld
        clear hHeld
        obtain ⟨Wa, hWa⟩ : ∃ W, W = W0.drew := ⟨_, rfl⟩
        rw [← hWa] at HBr ⊢
        clear hWa
        refine wpAnyH_ready (rs := [3, 8, 9]) (by kernel_rfl) (by simp) ?_
        refine AllReadyH.cons (o := { dst := some 26, op := Op.call { callee := Callee.value (Operand.func 31), args := #[Operand.tmp 25], argTypes := #[32] }, type := 33, pos := "sha.go:96", after := #[{ on := 2, ground := Ground.data }], guard := none }) rfl (fun K hK => ?_) ?_
        · go_simp
          refine (HC1.out _ HBr.out).mono ?_
          rintro e W1 ⟨rfl, hb⟩
          refine hK.out _ _ ?_ (fun hHeld => ?_)
          · exact Lib.hid (below_chain HBr.out hb)
          clear hK K
          clear hb HBr
          have HBr := hHeld
          clear hHeld
          refine wpAnyH_ready (rs := [7, 8, 9]) (by kernel_rfl) (by simp) ?_
          refine AllReadyH.cons (o := { dst := some 30, op := Op.call { callee := Callee.value (Operand.func 31), args := #[Operand.tmp 29], argTypes := #[32] }, type := 33, pos := "sha.go:96", after := #[{ on := 6, ground := Ground.data }, { on := 3, ground := Ground.chain }], guard := none }) rfl (fun K hK => ?_) ?_
          · go_simp
            refine (HC2.out _ HBr.out).mono ?_
            rintro e W2 ⟨rfl, hb⟩
            refine hK.out _ _ ?_ (fun hHeld => ?_)
            · exact Lib.hid (below_chain HBr.out hb)
            clear hK K
            clear hb HBr
            have HBr := hHeld
            clear hHeld
            refine wpAnyH_ready (rs := [8, 9]) (by kernel_rfl) (by simp) ?_
            refine AllReadyH.cons (o := { dst := some 4, op := Op.alloc 33, type := 0, pos := "sha.go:96", after := #[], guard := none }) rfl (fun K hK => ?_) ?_
            · go_simp
              refine hK.out _ _ ?_ (fun hHeld => ?_)
              · exact Lib.hid (HBr.out.alloc HBr.out.size _)
              clear hK K
              try simp only [Act.put, List.setIfInBounds_toArray, List.set_cons_zero, List.set_cons_succ]
              obtain ⟨g4, hg4⟩ : ∃ g, g = W2.heap.size := ⟨_, rfl⟩
              rw [← hg4]
              obtain ⟨W3, hW⟩ : ∃ W', W' = W2.alloc (.cells (hc fun _ => 0) 33) := ⟨_, rfl⟩
              change wpAnyH _ _ _ _ _ _ _ _ (W2.alloc (.cells (hc fun _ => 0) 33))
              rw [← hW]
              have HBr' := Lib.hid (show Below W0.heap.size W0 W3 from by rw [hW]; exact HBr.out.alloc HBr.out.size _)
              have hl4 : g4 < W3.heap.size := by rw [hW, hg4]; simp
              have HX4 := Lib.hid (And.intro hl4 (show W3.heap[g4]? = some (.cells (hc fun _ => 0) 33 (0, 0)) from by rw [hW, hg4]; exact heap_alloc_new _ _))
              have hlo4 : W0.heap.size ≤ g4 := by rw [hg4]; exact HBr.out.size
              clear hW hg4 HBr hHeld
              have HBr := HBr'
              clear HBr'
              refine wpAnyH_ready (rs := [9]) (by kernel_rfl) (by simp) ?_
              refine AllReadyH.cons (o := { dst := some 5, op := Op.alloc 33, type := 0, pos := "sha.go:96", after := #[], guard := none }) rfl (fun K hK => ?_) AllReadyH.nil
              go_simp
              refine hK.out _ _ ?_ (fun hHeld => ?_)
              · exact Lib.hid (HBr.out.alloc HBr.out.size _)
              clear hK K
              try simp only [Act.put, List.setIfInBounds_toArray, List.set_cons_zero, List.set_cons_succ]
              obtain ⟨g5, hg5⟩ : ∃ g, g = W3.heap.size := ⟨_, rfl⟩
              rw [← hg5]
              obtain ⟨W4, hW⟩ : ∃ W', W' = W3.alloc (.cells (hc fun _ => 0) 33) := ⟨_, rfl⟩
              change wpAnyH _ _ _ _ _ _ _ _ (W3.alloc (.cells (hc fun _ => 0) 33))
              rw [← hW]
              have HBr' := Lib.hid (show Below W0.heap.size W0 W4 from by rw [hW]; exact HBr.out.alloc HBr.out.size _)
              have hl5 : g5 < W4.heap.size := by rw [hW, hg5]; simp
              have HX5 := Lib.hid (And.intro hl5 (show W4.heap[g5]? = some (.cells (hc fun _ => 0) 33 (0, 0)) from by rw [hW, hg5]; exact heap_alloc_new _ _))
              have hne45 : g4 ≠ g5 := by rw [hg5]; exact Nat.ne_of_lt hl4
              have hL4 : g4 < W4.heap.size := by rw [hW]; simp; omega
              replace HX4 := Lib.hid (And.intro hL4 (show W4.heap[g4]? = some (.cells (hc fun _ => 0) 33 (0, 0)) from by rw [hW]; exact (Below.heap_alloc _ _ _ hl4).trans HX4.out.2))
              clear hl4
              have hl4 := hL4
              clear hL4
              have hlo5 : W0.heap.size ≤ g5 := by rw [hg5]; exact HBr.out.size
              clear hW hg5 HBr hHeld
              have HBr := HBr'
              clear HBr'
              refine wpAnyH_ready (rs := [10]) (by kernel_rfl) (by simp) ?_
              refine AllReadyH.cons (o := { dst := none, op := Op.store 33 (Operand.tmp 4) (Operand.tmp 26), type := 0, pos := "sha.go:96", after := #[{ on := 8, ground := Ground.data }, { on := 3, ground := Ground.data }, { on := 7, ground := Ground.chain }, { on := 0, ground := Ground.phase }, { on := 1, ground := Ground.phase }, { on := 2, ground := Ground.phase }, { on := 3, ground := Ground.phase }, { on := 4, ground := Ground.textOnly Departure.lateStores }, { on := 5, ground := Ground.textOnly Departure.lateStores }, { on := 6, ground := Ground.textOnly Departure.lateStoresUnsure }, { on := 7, ground := Ground.phase }, { on := 8, ground := Ground.phase }, { on := 9, ground := Ground.phase }], guard := none }) rfl (fun K hK => ?_) AllReadyH.nil
              rw [if_pos (by rfl)]
              refine wp_store_row 33 (.tmp 4) (.tmp 26) (by rfl) g4 C1 (by rfl) (by rfl) 33 (hc fun _ => 0) HX4.out.2 HC1s.out HC1z.out HC1a.out ?_
              refine hK.out _ _ ?_ (fun hHeld => ?_)
              · exact Lib.hid (below_setRow HBr.out hlo4 C1)
              clear hK K
              try simp only [Act.put]
              refine wpAnyH_ready (rs := [11]) (by kernel_rfl) (by simp) ?_
              refine AllReadyH.cons (o := { dst := none, op := Op.store 33 (Operand.tmp 5) (Operand.tmp 30), type := 0, pos := "sha.go:96", after := #[{ on := 9, ground := Ground.data }, { on := 7, ground := Ground.data }, { on := 10, ground := Ground.chain }, { on := 0, ground := Ground.phase }, { on := 1, ground := Ground.phase }, { on := 2, ground := Ground.phase }, { on := 3, ground := Ground.phase }, { on := 4, ground := Ground.phase }, { on := 5, ground := Ground.phase }, { on := 6, ground := Ground.phase }, { on := 7, ground := Ground.phase }, { on := 8, ground := Ground.phase }, { on := 9, ground := Ground.phase }, { on := 10, ground := Ground.phase }], guard := none }) rfl (fun K hK => ?_) AllReadyH.nil
              rw [if_pos (by rfl)]
              refine wp_store_row 33 (.tmp 5) (.tmp 30) (by rfl) g5 C2 (by rfl) (by rfl) 33 (hc fun _ => 0) ((setRow_other _ _ _ _ (by omega)).trans HX5.out.2) HC2s.out HC2z.out HC2a.out ?_
              refine hK.out _ _ ?_ (fun hHeld => ?_)
              · exact Lib.hid (below_setRow (below_setRow HBr.out hlo4 C1) hlo5 C2)
              clear hK K
              try simp only [Act.put]
              refine wpAnyH_done (by kernel_rfl) ?_ _
              exact HEND g4 g5 _ ⟨by omega, hlo4, hlo5, (setRow_other _ _ _ _ (by omega)).trans (setRow_heap _ _ _ _ _ _ HX4.out.2), setRow_heap _ _ _ _ _ _ ((setRow_other _ _ _ _ (by omega)).trans HX5.out.2), hHeld.out⟩
            refine AllReadyH.cons (o := { dst := some 5, op := Op.alloc 33, type := 0, pos := "sha.go:96", after := #[], guard := none }) rfl (fun K hK => ?_) AllReadyH.nil
            go_simp
            refine hK.out _ _ ?_ (fun hHeld => ?_)
            · exact Lib.hid (HBr.out.alloc HBr.out.size _)
            clear hK K
            try simp only [Act.put, List.setIfInBounds_toArray, List.set_cons_zero, List.set_cons_succ]
            obtain ⟨g5, hg5⟩ : ∃ g, g = W2.heap.size := ⟨_, rfl⟩
            rw [← hg5]
            obtain ⟨W5, hW⟩ : ∃ W', W' = W2.alloc (.cells (hc fun _ => 0) 33) := ⟨_, rfl⟩
            change wpAnyH _ _ _ _ _ _ _ _ (W2.alloc (.cells (hc fun _ => 0) 33))
            rw [← hW]
            have HBr' := Lib.hid (show Below W0.heap.size W0 W5 from by rw [hW]; exact HBr.out.alloc HBr.out.size _)
            have hl5 : g5 < W5.heap.size := by rw [hW, hg5]; simp
            have HX5 := Lib.hid (And.intro hl5 (show W5.heap[g5]? = some (.cells (hc fun _ => 0) 33 (0, 0)) from by rw [hW, hg5]; exact heap_alloc_new _ _))
            have hlo5 : W0.heap.size ≤ g5 := by rw [hg5]; exact HBr.out.size
            clear hW hg5 HBr hHeld
            have HBr := HBr'
            clear HBr'
            refine wpAnyH_ready (rs := [8]) (by kernel_rfl) (by simp) ?_
            refine AllReadyH.cons (o := { dst := some 4, op := Op.alloc 33, type := 0, pos := "sha.go:96", after := #[], guard := none }) rfl (fun K hK => ?_) AllReadyH.nil
            go_simp
            refine hK.out _ _ ?_ (fun hHeld => ?_)
            · exact Lib.hid (HBr.out.alloc HBr.out.size _)
            clear hK K
            try simp only [Act.put, List.setIfInBounds_toArray, List.set_cons_zero, List.set_cons_succ]
            obtain ⟨g4, hg4⟩ : ∃ g, g = W5.heap.size := ⟨_, rfl⟩
            rw [← hg4]
            obtain ⟨W6, hW⟩ : ∃ W', W' = W5.alloc (.cells (hc fun _ => 0) 33) := ⟨_, rfl⟩
            change wpAnyH _ _ _ _ _ _ _ _ (W5.alloc (.cells (hc fun _ => 0) 33))
            rw [← hW]
            have HBr' := Lib.hid (show Below W0.heap.size W0 W6 from by rw [hW]; exact HBr.out.alloc HBr.out.size _)
            have hl4 : g4 < W6.heap.size := by rw [hW, hg4]; simp
            have HX4 := Lib.hid (And.intro hl4 (show W6.heap[g4]? = some (.cells (hc fun _ => 0) 33 (0, 0)) from by rw [hW, hg4]; exact heap_alloc_new _ _))
            have hne54 : g5 ≠ g4 := by rw [hg4]; exact Nat.ne_of_lt hl5
            have hL5 : g5 < W6.heap.size := by rw [hW]; simp; omega
            replace HX5 := Lib.hid (And.intro hL5 (show W6.heap[g5]? = some (.cells (hc fun _ => 0) 33 (0, 0)) from by rw [hW]; exact (Below.heap_alloc _ _ _ hl5).trans HX5.out.2))
            clear hl5
            have hl5 := hL5
            clear hL5
            have hlo4 : W0.heap.size ≤ g4 := by rw [hg4]; exact HBr.out.size
            clear hW hg4 HBr hHeld
            have HBr := HBr'
            clear HBr'
            refine wpAnyH_ready (rs := [10]) (by kernel_rfl) (by simp) ?_
            refine AllReadyH.cons (o := { dst := none, op := Op.store 33 (Operand.tmp 4) (Operand.tmp 26), type := 0, pos := "sha.go:96", after := #[{ on := 8, ground := Ground.data }, { on := 3, ground := Ground.data }, { on := 7, ground := Ground.chain }, { on := 0, ground := Ground.phase }, { on := 1, ground := Ground.phase }, { on := 2, ground := Ground.phase }, { on := 3, ground := Ground.phase }, { on := 4, ground := Ground.textOnly Departure.lateStores }, { on := 5, ground := Ground.textOnly Departure.lateStores }, { on := 6, ground := Ground.textOnly Departure.lateStoresUnsure }, { on := 7, ground := Ground.phase }, { on := 8, ground := Ground.phase }, { on := 9, ground := Ground.phase }], guard := none }) rfl (fun K hK => ?_) AllReadyH.nil
            rw [if_pos (by rfl)]
            refine wp_store_row 33 (.tmp 4) (.tmp 26) (by rfl) g4 C1 (by rfl) (by rfl) 33 (hc fun _ => 0) HX4.out.2 HC1s.out HC1z.out HC1a.out ?_
            refine hK.out _ _ ?_ (fun hHeld => ?_)
            · exact Lib.hid (below_setRow HBr.out hlo4 C1)
            clear hK K
            try simp only [Act.put]
            refine wpAnyH_ready (rs := [11]) (by kernel_rfl) (by simp) ?_
            refine AllReadyH.cons (o := { dst := none, op := Op.store 33 (Operand.tmp 5) (Operand.tmp 30), type := 0, pos := "sha.go:96", after := #[{ on := 9, ground := Ground.data }, { on := 7, ground := Ground.data }, { on := 10, ground := Ground.chain }, { on := 0, ground := Ground.phase }, { on := 1, ground := Ground.phase }, { on := 2, ground := Ground.phase }, { on := 3, ground := Ground.phase }, { on := 4, ground := Ground.phase }, { on := 5, ground := Ground.phase }, { on := 6, ground := Ground.phase }, { on := 7, ground := Ground.phase }, { on := 8, ground := Ground.phase }, { on := 9, ground := Ground.phase }, { on := 10, ground := Ground.phase }], guard := none }) rfl (fun K hK => ?_) AllReadyH.nil
            rw [if_pos (by rfl)]
            refine wp_store_row 33 (.tmp 5) (.tmp 30) (by rfl) g5 C2 (by rfl) (by rfl) 33 (hc fun _ => 0) ((setRow_other _ _ _ _ (by omega)).trans HX5.out.2) HC2s.out HC2z.out HC2a.out ?_
            refine hK.out _ _ ?_ (fun hHeld => ?_)
            · exact Lib.hid (below_setRow (below_setRow HBr.out hlo4 C1) hlo5 C2)
            clear hK K
            try simp only [Act.put]
            refine wpAnyH_done (by kernel_rfl) ?_ _
            exact HEND g4 g5 _ ⟨by omega, hlo4, hlo5, (setRow_other _ _ _ _ (by omega)).trans (setRow_heap _ _ _ _ _ _ HX4.out.2), setRow_heap _ _ _ _ _ _ ((setRow_other _ _ _ _ (by omega)).trans HX5.out.2), hHeld.out⟩
          refine AllReadyH.cons (o := { dst := some 4, op := Op.alloc 33, type := 0, pos := "sha.go:96", after := #[], guard := none }) rfl (fun K hK => ?_) ?_
          · go_simp
            refine hK.out _ _ ?_ (fun hHeld => ?_)
            · exact Lib.hid (HBr.out.alloc HBr.out.size _)
            clear hK K
            try simp only [Act.put, List.setIfInBounds_toArray, List.set_cons_zero, List.set_cons_succ]
            obtain ⟨g4, hg4⟩ : ∃ g, g = W1.heap.size := ⟨_, rfl⟩
            rw [← hg4]
            obtain ⟨W7, hW⟩ : ∃ W', W' = W1.alloc (.cells (hc fun _ => 0) 33) := ⟨_, rfl⟩
            change wpAnyH _ _ _ _ _ _ _ _ (W1.alloc (.cells (hc fun _ => 0) 33))
            rw [← hW]
            have HBr' := Lib.hid (show Below W0.heap.size W0 W7 from by rw [hW]; exact HBr.out.alloc HBr.out.size _)
            have hl4 : g4 < W7.heap.size := by rw [hW, hg4]; simp
            have HX4 := Lib.hid (And.intro hl4 (show W7.heap[g4]? = some (.cells (hc fun _ => 0) 33 (0, 0)) from by rw [hW, hg4]; exact heap_alloc_new _ _))
            have hlo4 : W0.heap.size ≤ g4 := by rw [hg4]; exact HBr.out.size
            clear hW hg4 HBr hHeld
            have HBr := HBr'
            clear HBr'
            refine wpAnyH_ready (rs := [7, 9]) (by kernel_rfl) (by simp) ?_
            refine AllReadyH.cons (o := { dst := some 30, op := Op.call { callee := Callee.value (Operand.func 31), args := #[Operand.tmp 29], argTypes := #[32] }, type := 33, pos := "sha.go:96", after := #[{ on := 6, ground := Ground.data }, { on := 3, ground := Ground.chain }], guard := none }) rfl (fun K hK => ?_) ?_
            · go_simp
              refine (HC2.out _ HBr.out).mono ?_
              rintro e W8 ⟨rfl, hb⟩
              refine hK.out _ _ ?_ (fun hHeld => ?_)
              · exact Lib.hid (below_chain HBr.out hb)
              clear hK K
              replace HX4 := Lib.hid ((hb.block _ HX4.out.1).trans HX4.out.2)
              have hL4 := Nat.lt_of_lt_of_le hl4 hb.size
              replace HX4 := Lib.hid (And.intro hL4 HX4.out)
              clear hl4
              have hl4 := hL4
              clear hL4
              clear hb HBr
              have HBr := hHeld
              clear hHeld
              refine wpAnyH_ready (rs := [9]) (by kernel_rfl) (by simp) ?_
              refine AllReadyH.cons (o := { dst := some 5, op := Op.alloc 33, type := 0, pos := "sha.go:96", after := #[], guard := none }) rfl (fun K hK => ?_) AllReadyH.nil
              go_simp
              refine hK.out _ _ ?_ (fun hHeld => ?_)
              · exact Lib.hid (HBr.out.alloc HBr.out.size _)
              clear hK K
              try simp only [Act.put, List.setIfInBounds_toArray, List.set_cons_zero, List.set_cons_succ]
              obtain ⟨g5, hg5⟩ : ∃ g, g = W8.heap.size := ⟨_, rfl⟩
              rw [← hg5]
              obtain ⟨W9, hW⟩ : ∃ W', W' = W8.alloc (.cells (hc fun _ => 0) 33) := ⟨_, rfl⟩
              change wpAnyH _ _ _ _ _ _ _ _ (W8.alloc (.cells (hc fun _ => 0) 33))
              rw [← hW]
              have HBr' := Lib.hid (show Below W0.heap.size W0 W9 from by rw [hW]; exact HBr.out.alloc HBr.out.size _)
              have hl5 : g5 < W9.heap.size := by rw [hW, hg5]; simp
              have HX5 := Lib.hid (And.intro hl5 (show W9.heap[g5]? = some (.cells (hc fun _ => 0) 33 (0, 0)) from by rw [hW, hg5]; exact heap_alloc_new _ _))
              have hne45 : g4 ≠ g5 := by rw [hg5]; exact Nat.ne_of_lt hl4
              have hL4 : g4 < W9.heap.size := by rw [hW]; simp; omega
              replace HX4 := Lib.hid (And.intro hL4 (show W9.heap[g4]? = some (.cells (hc fun _ => 0) 33 (0, 0)) from by rw [hW]; exact (Below.heap_alloc _ _ _ hl4).trans HX4.out.2))
              clear hl4
              have hl4 := hL4
              clear hL4
              have hlo5 : W0.heap.size ≤ g5 := by rw [hg5]; exact HBr.out.size
              clear hW hg5 HBr hHeld
              have HBr := HBr'
              clear HBr'
              refine wpAnyH_ready (rs := [10]) (by kernel_rfl) (by simp) ?_
              refine AllReadyH.cons (o := { dst := none, op := Op.store 33 (Operand.tmp 4) (Operand.tmp 26), type := 0, pos := "sha.go:96", after := #[{ on := 8, ground := Ground.data }, { on := 3, ground := Ground.data }, { on := 7, ground := Ground.chain }, { on := 0, ground := Ground.phase }, { on := 1, ground := Ground.phase }, { on := 2, ground := Ground.phase }, { on := 3, ground := Ground.phase }, { on := 4, ground := Ground.textOnly Departure.lateStores }, { on := 5, ground := Ground.textOnly Departure.lateStores }, { on := 6, ground := Ground.textOnly Departure.lateStoresUnsure }, { on := 7, ground := Ground.phase }, { on := 8, ground := Ground.phase }, { on := 9, ground := Ground.phase }], guard := none }) rfl (fun K hK => ?_) AllReadyH.nil
              rw [if_pos (by rfl)]
              refine wp_store_row 33 (.tmp 4) (.tmp 26) (by rfl) g4 C1 (by rfl) (by rfl) 33 (hc fun _ => 0) HX4.out.2 HC1s.out HC1z.out HC1a.out ?_
              refine hK.out _ _ ?_ (fun hHeld => ?_)
              · exact Lib.hid (below_setRow HBr.out hlo4 C1)
              clear hK K
              try simp only [Act.put]
              refine wpAnyH_ready (rs := [11]) (by kernel_rfl) (by simp) ?_
              refine AllReadyH.cons (o := { dst := none, op := Op.store 33 (Operand.tmp 5) (Operand.tmp 30), type := 0, pos := "sha.go:96", after := #[{ on := 9, ground := Ground.data }, { on := 7, ground := Ground.data }, { on := 10, ground := Ground.chain }, { on := 0, ground := Ground.phase }, { on := 1, ground := Ground.phase }, { on := 2, ground := Ground.phase }, { on := 3, ground := Ground.phase }, { on := 4, ground := Ground.phase }, { on := 5, ground := Ground.phase }, { on := 6, ground := Ground.phase }, { on := 7, ground := Ground.phase }, { on := 8, ground := Ground.phase }, { on := 9, ground := Ground.phase }, { on := 10, ground := Ground.phase }], guard := none }) rfl (fun K hK => ?_) AllReadyH.nil
              rw [if_pos (by rfl)]
              refine wp_store_row 33 (.tmp 5) (.tmp 30) (by rfl) g5 C2 (by rfl) (by rfl) 33 (hc fun _ => 0) ((setRow_other _ _ _ _ (by omega)).trans HX5.out.2) HC2s.out HC2z.out HC2a.out ?_
              refine hK.out _ _ ?_ (fun hHeld => ?_)
              · exact Lib.hid (below_setRow (below_setRow HBr.out hlo4 C1) hlo5 C2)
              clear hK K
              try simp only [Act.put]
              refine wpAnyH_done (by kernel_rfl) ?_ _
              exact HEND g4 g5 _ ⟨by omega, hlo4, hlo5, (setRow_other _ _ _ _ (by omega)).trans (setRow_heap _ _ _ _ _ _ HX4.out.2), setRow_heap _ _ _ _ _ _ ((setRow_other _ _ _ _ (by omega)).trans HX5.out.2), hHeld.out⟩
            refine AllReadyH.cons (o := { dst := some 5, op := Op.alloc 33, type := 0, pos := "sha.go:96", after := #[], guard := none }) rfl (fun K hK => ?_) AllReadyH.nil
            go_simp
            refine hK.out _ _ ?_ (fun hHeld => ?_)
            · exact Lib.hid (HBr.out.alloc HBr.out.size _)
            clear hK K
            try simp only [Act.put, List.setIfInBounds_toArray, List.set_cons_zero, List.set_cons_succ]
            obtain ⟨g5, hg5⟩ : ∃ g, g = W7.heap.size := ⟨_, rfl⟩
            rw [← hg5]
            obtain ⟨W10, hW⟩ : ∃ W', W' = W7.alloc (.cells (hc fun _ => 0) 33) := ⟨_, rfl⟩
            change wpAnyH _ _ _ _ _ _ _ _ (W7.alloc (.cells (hc fun _ => 0) 33))
            rw [← hW]
            have HBr' := Lib.hid (show Below W0.heap.size W0 W10 from by rw [hW]; exact HBr.out.alloc HBr.out.size _)
            have hl5 : g5 < W10.heap.size := by rw [hW, hg5]; simp
            have HX5 := Lib.hid (And.intro hl5 (show W10.heap[g5]? = some (.cells (hc fun _ => 0) 33 (0, 0)) from by rw [hW, hg5]; exact heap_alloc_new _ _))
            have hne45 : g4 ≠ g5 := by rw [hg5]; exact Nat.ne_of_lt hl4
            have hL4 : g4 < W10.heap.size := by rw [hW]; simp; omega
            replace HX4 := Lib.hid (And.intro hL4 (show W10.heap[g4]? = some (.cells (hc fun _ => 0) 33 (0, 0)) from by rw [hW]; exact (Below.heap_alloc _ _ _ hl4).trans HX4.out.2))
            clear hl4
            have hl4 := hL4
            clear hL4
            have hlo5 : W0.heap.size ≤ g5 := by rw [hg5]; exact HBr.out.size
            clear hW hg5 HBr hHeld
            have HBr := HBr'
            clear HBr'
            refine wpAnyH_ready (rs := [7]) (by kernel_rfl) (by simp) ?_
            refine AllReadyH.cons (o := { dst := some 30, op := Op.call { callee := Callee.value (Operand.func 31), args := #[Operand.tmp 29], argTypes := #[32] }, type := 33, pos := "sha.go:96", after := #[{ on := 6, ground := Ground.data }, { on := 3, ground := Ground.chain }], guard := none }) rfl (fun K hK => ?_) AllReadyH.nil
            go_simp
            refine (HC2.out _ HBr.out).mono ?_
            rintro e W11 ⟨rfl, hb⟩
            refine hK.out _ _ ?_ (fun hHeld => ?_)
            · exact Lib.hid (below_chain HBr.out hb)
            clear hK K
            replace HX4 := Lib.hid ((hb.block _ HX4.out.1).trans HX4.out.2)
            have hL4 := Nat.lt_of_lt_of_le hl4 hb.size
            replace HX4 := Lib.hid (And.intro hL4 HX4.out)
            clear hl4
            have hl4 := hL4
            clear hL4
            replace HX5 := Lib.hid ((hb.block _ HX5.out.1).trans HX5.out.2)
            have hL5 := Nat.lt_of_lt_of_le hl5 hb.size
            replace HX5 := Lib.hid (And.intro hL5 HX5.out)
            clear hl5
            have hl5 := hL5
            clear hL5
            clear hb HBr
            have HBr := hHeld
            clear hHeld
            refine wpAnyH_ready (rs := [10]) (by kernel_rfl) (by simp) ?_
            refine AllReadyH.cons (o := { dst := none, op := Op.store 33 (Operand.tmp 4) (Operand.tmp 26), type := 0, pos := "sha.go:96", after := #[{ on := 8, ground := Ground.data }, { on := 3, ground := Ground.data }, { on := 7, ground := Ground.chain }, { on := 0, ground := Ground.phase }, { on := 1, ground := Ground.phase }, { on := 2, ground := Ground.phase }, { on := 3, ground := Ground.phase }, { on := 4, ground := Ground.textOnly Departure.lateStores }, { on := 5, ground := Ground.textOnly Departure.lateStores }, { on := 6, ground := Ground.textOnly Departure.lateStoresUnsure }, { on := 7, ground := Ground.phase }, { on := 8, ground := Ground.phase }, { on := 9, ground := Ground.phase }], guard := none }) rfl (fun K hK => ?_) AllReadyH.nil
            rw [if_pos (by rfl)]
            refine wp_store_row 33 (.tmp 4) (.tmp 26) (by rfl) g4 C1 (by rfl) (by rfl) 33 (hc fun _ => 0) HX4.out.2 HC1s.out HC1z.out HC1a.out ?_
            refine hK.out _ _ ?_ (fun hHeld => ?_)
            · exact Lib.hid (below_setRow HBr.out hlo4 C1)
            clear hK K
            try simp only [Act.put]
            refine wpAnyH_ready (rs := [11]) (by kernel_rfl) (by simp) ?_
            refine AllReadyH.cons (o := { dst := none, op := Op.store 33 (Operand.tmp 5) (Operand.tmp 30), type := 0, pos := "sha.go:96", after := #[{ on := 9, ground := Ground.data }, { on := 7, ground := Ground.data }, { on := 10, ground := Ground.chain }, { on := 0, ground := Ground.phase }, { on := 1, ground := Ground.phase }, { on := 2, ground := Ground.phase }, { on := 3, ground := Ground.phase }, { on := 4, ground := Ground.phase }, { on := 5, ground := Ground.phase }, { on := 6, ground := Ground.phase }, { on := 7, ground := Ground.phase }, { on := 8, ground := Ground.phase }, { on := 9, ground := Ground.phase }, { on := 10, ground := Ground.phase }], guard := none }) rfl (fun K hK => ?_) AllReadyH.nil
            rw [if_pos (by rfl)]
            refine wp_store_row 33 (.tmp 5) (.tmp 30) (by rfl) g5 C2 (by rfl) (by rfl) 33 (hc fun _ => 0) ((setRow_other _ _ _ _ (by omega)).trans HX5.out.2) HC2s.out HC2z.out HC2a.out ?_
            refine hK.out _ _ ?_ (fun hHeld => ?_)
            · exact Lib.hid (below_setRow (below_setRow HBr.out hlo4 C1) hlo5 C2)
            clear hK K
            try simp only [Act.put]
            refine wpAnyH_done (by kernel_rfl) ?_ _
            exact HEND g4 g5 _ ⟨by omega, hlo4, hlo5, (setRow_other _ _ _ _ (by omega)).trans (setRow_heap _ _ _ _ _ _ HX4.out.2), setRow_heap _ _ _ _ _ _ ((setRow_other _ _ _ _ (by omega)).trans HX5.out.2), hHeld.out⟩
          refine AllReadyH.cons (o := { dst := some 5, op := Op.alloc 33, type := 0, pos := "sha.go:96", after := #[], guard := none }) rfl (fun K hK => ?_) AllReadyH.nil
          go_simp
          refine hK.out _ _ ?_ (fun hHeld => ?_)
          · exact Lib.hid (HBr.out.alloc HBr.out.size _)
          clear hK K
          try simp only [Act.put, List.setIfInBounds_toArray, List.set_cons_zero, List.set_cons_succ]
          obtain ⟨g5, hg5⟩ : ∃ g, g = W1.heap.size := ⟨_, rfl⟩
          rw [← hg5]
          obtain ⟨W12, hW⟩ : ∃ W', W' = W1.alloc (.cells (hc fun _ => 0) 33) := ⟨_, rfl⟩
          change wpAnyH _ _ _ _ _ _ _ _ (W1.alloc (.cells (hc fun _ => 0) 33))
          rw [← hW]
          have HBr' := Lib.hid (show Below W0.heap.size W0 W12 from by rw [hW]; exact HBr.out.alloc HBr.out.size _)
          have hl5 : g5 < W12.heap.size := by rw [hW, hg5]; simp
          have HX5 := Lib.hid (And.intro hl5 (show W12.heap[g5]? = some (.cells (hc fun _ => 0) 33 (0, 0)) from by rw [hW, hg5]; exact heap_alloc_new _ _))
          have hlo5 : W0.heap.size ≤ g5 := by rw [hg5]; exact HBr.out.size
          clear hW hg5 HBr hHeld
          have HBr := HBr'
          clear HBr'
          refine wpAnyH_ready (rs := [7, 8]) (by kernel_rfl) (by simp) ?_
          refine AllReadyH.cons (o := { dst := some 30, op := Op.call { callee := Callee.value (Operand.func 31), args := #[Operand.tmp 29], argTypes := #[32] }, type := 33, pos := "sha.go:96", after := #[{ on := 6, ground := Ground.data }, { on := 3, ground := Ground.chain }], guard := none }) rfl (fun K hK => ?_) ?_
          · go_simp
            refine (HC2.out _ HBr.out).mono ?_
            rintro e W13 ⟨rfl, hb⟩
            refine hK.out _ _ ?_ (fun hHeld => ?_)
            · exact Lib.hid (below_chain HBr.out hb)
            clear hK K
            replace HX5 := Lib.hid ((hb.block _ HX5.out.1).trans HX5.out.2)
            have hL5 := Nat.lt_of_lt_of_le hl5 hb.size
            replace HX5 := Lib.hid (And.intro hL5 HX5.out)
            clear hl5
            have hl5 := hL5
            clear hL5
            clear hb HBr
            have HBr := hHeld
            clear hHeld
            refine wpAnyH_ready (rs := [8]) (by kernel_rfl) (by simp) ?_
            refine AllReadyH.cons (o := { dst := some 4, op := Op.alloc 33, type := 0, pos := "sha.go:96", after := #[], guard := none }) rfl (fun K hK => ?_) AllReadyH.nil
            go_simp
            refine hK.out _ _ ?_ (fun hHeld => ?_)
            · exact Lib.hid (HBr.out.alloc HBr.out.size _)
            clear hK K
            try simp only [Act.put, List.setIfInBounds_toArray, List.set_cons_zero, List.set_cons_succ]
            obtain ⟨g4, hg4⟩ : ∃ g, g = W13.heap.size := ⟨_, rfl⟩
            rw [← hg4]
            obtain ⟨W14, hW⟩ : ∃ W', W' = W13.alloc (.cells (hc fun _ => 0) 33) := ⟨_, rfl⟩
            change wpAnyH _ _ _ _ _ _ _ _ (W13.alloc (.cells (hc fun _ => 0) 33))
            rw [← hW]
            have HBr' := Lib.hid (show Below W0.heap.size W0 W14 from by rw [hW]; exact HBr.out.alloc HBr.out.size _)
            have hl4 : g4 < W14.heap.size := by rw [hW, hg4]; simp
            have HX4 := Lib.hid (And.intro hl4 (show W14.heap[g4]? = some (.cells (hc fun _ => 0) 33 (0, 0)) from by rw [hW, hg4]; exact heap_alloc_new _ _))
            have hne54 : g5 ≠ g4 := by rw [hg4]; exact Nat.ne_of_lt hl5
            have hL5 : g5 < W14.heap.size := by rw [hW]; simp; omega
            replace HX5 := Lib.hid (And.intro hL5 (show W14.heap[g5]? = some (.cells (hc fun _ => 0) 33 (0, 0)) from by rw [hW]; exact (Below.heap_alloc _ _ _ hl5).trans HX5.out.2))
            clear hl5
            have hl5 := hL5
            clear hL5
            have hlo4 : W0.heap.size ≤ g4 := by rw [hg4]; exact HBr.out.size
            clear hW hg4 HBr hHeld
            have HBr := HBr'
            clear HBr'
            refine wpAnyH_ready (rs := [10]) (by kernel_rfl) (by simp) ?_
            refine AllReadyH.cons (o := { dst := none, op := Op.store 33 (Operand.tmp 4) (Operand.tmp 26), type := 0, pos := "sha.go:96", after := #[{ on := 8, ground := Ground.data }, { on := 3, ground := Ground.data }, { on := 7, ground := Ground.chain }, { on := 0, ground := Ground.phase }, { on := 1, ground := Ground.phase }, { on := 2, ground := Ground.phase }, { on := 3, ground := Ground.phase }, { on := 4, ground := Ground.textOnly Departure.lateStores }, { on := 5, ground := Ground.textOnly Departure.lateStores }, { on := 6, ground := Ground.textOnly Departure.lateStoresUnsure }, { on := 7, ground := Ground.phase }, { on := 8, ground := Ground.phase }, { on := 9, ground := Ground.phase }], guard := none }) rfl (fun K hK => ?_) AllReadyH.nil
            rw [if_pos (by rfl)]
            refine wp_store_row 33 (.tmp 4) (.tmp 26) (by rfl) g4 C1 (by rfl) (by rfl) 33 (hc fun _ => 0) HX4.out.2 HC1s.out HC1z.out HC1a.out ?_
            refine hK.out _ _ ?_ (fun hHeld => ?_)
            · exact Lib.hid (below_setRow HBr.out hlo4 C1)
            clear hK K
            try simp only [Act.put]
            refine wpAnyH_ready (rs := [11]) (by kernel_rfl) (by simp) ?_
            refine AllReadyH.cons (o := { dst := none, op := Op.store 33 (Operand.tmp 5) (Operand.tmp 30), type := 0, pos := "sha.go:96", after := #[{ on := 9, ground := Ground.data }, { on := 7, ground := Ground.data }, { on := 10, ground := Ground.chain }, { on := 0, ground := Ground.phase }, { on := 1, ground := Ground.phase }, { on := 2, ground := Ground.phase }, { on := 3, ground := Ground.phase }, { on := 4, ground := Ground.phase }, { on := 5, ground := Ground.phase }, { on := 6, ground := Ground.phase }, { on := 7, ground := Ground.phase }, { on := 8, ground := Ground.phase }, { on := 9, ground := Ground.phase }, { on := 10, ground := Ground.phase }], guard := none }) rfl (fun K hK => ?_) AllReadyH.nil
            rw [if_pos (by rfl)]
            refine wp_store_row 33 (.tmp 5) (.tmp 30) (by rfl) g5 C2 (by rfl) (by rfl) 33 (hc fun _ => 0) ((setRow_other _ _ _ _ (by omega)).trans HX5.out.2) HC2s.out HC2z.out HC2a.out ?_
            refine hK.out _ _ ?_ (fun hHeld => ?_)
            · exact Lib.hid (below_setRow (below_setRow HBr.out hlo4 C1) hlo5 C2)
            clear hK K
            try simp only [Act.put]
            refine wpAnyH_done (by kernel_rfl) ?_ _
            exact HEND g4 g5 _ ⟨by omega, hlo4, hlo5, (setRow_other _ _ _ _ (by omega)).trans (setRow_heap _ _ _ _ _ _ HX4.out.2), setRow_heap _ _ _ _ _ _ ((setRow_other _ _ _ _ (by omega)).trans HX5.out.2), hHeld.out⟩
          refine AllReadyH.cons (o := { dst := some 4, op := Op.alloc 33, type := 0, pos := "sha.go:96", after := #[], guard := none }) rfl (fun K hK => ?_) AllReadyH.nil
          go_simp
          refine hK.out _ _ ?_ (fun hHeld => ?_)
          · exact Lib.hid (HBr.out.alloc HBr.out.size _)
          clear hK K
          try simp only [Act.put, List.setIfInBounds_toArray, List.set_cons_zero, List.set_cons_succ]
          obtain ⟨g4, hg4⟩ : ∃ g, g = W12.heap.size := ⟨_, rfl⟩
          rw [← hg4]
          obtain ⟨W15, hW⟩ : ∃ W', W' = W12.alloc (.cells (hc fun _ => 0) 33) := ⟨_, rfl⟩
          change wpAnyH _ _ _ _ _ _ _ _ (W12.alloc (.cells (hc fun _ => 0) 33))
          rw [← hW]
          have HBr' := Lib.hid (show Below W0.heap.size W0 W15 from by rw [hW]; exact HBr.out.alloc HBr.out.size _)
          have hl4 : g4 < W15.heap.size := by rw [hW, hg4]; simp
          have HX4 := Lib.hid (And.intro hl4 (show W15.heap[g4]? = some (.cells (hc fun _ => 0) 33 (0, 0)) from by rw [hW, hg4]; exact heap_alloc_new _ _))
          have hne54 : g5 ≠ g4 := by rw [hg4]; exact Nat.ne_of_lt hl5
          have hL5 : g5 < W15.heap.size := by rw [hW]; simp; omega
          replace HX5 := Lib.hid (And.intro hL5 (show W15.heap[g5]? = some (.cells (hc fun _ => 0) 33 (0, 0)) from by rw [hW]; exact (Below.heap_alloc _ _ _ hl5).trans HX5.out.2))
          clear hl5
          have hl5 := hL5
          clear hL5
          have hlo4 : W0.heap.size ≤ g4 := by rw [hg4]; exact HBr.out.size
          clear hW hg4 HBr hHeld
          have HBr := HBr'
          clear HBr'
          refine wpAnyH_ready (rs := [7]) (by kernel_rfl) (by simp) ?_
          refine AllReadyH.cons (o := { dst := some 30, op := Op.call { callee := Callee.value (Operand.func 31), args := #[Operand.tmp 29], argTypes := #[32] }, type := 33, pos := "sha.go:96", after := #[{ on := 6, ground := Ground.data }, { on := 3, ground := Ground.chain }], guard := none }) rfl (fun K hK => ?_) AllReadyH.nil
          go_simp
          refine (HC2.out _ HBr.out).mono ?_
          rintro e W16 ⟨rfl, hb⟩
          refine hK.out _ _ ?_ (fun hHeld => ?_)
          · exact Lib.hid (below_chain HBr.out hb)
          clear hK K
          replace HX5 := Lib.hid ((hb.block _ HX5.out.1).trans HX5.out.2)
          have hL5 := Nat.lt_of_lt_of_le hl5 hb.size
          replace HX5 := Lib.hid (And.intro hL5 HX5.out)
          clear hl5
          have hl5 := hL5
          clear hL5
          replace HX4 := Lib.hid ((hb.block _ HX4.out.1).trans HX4.out.2)
          have hL4 := Nat.lt_of_lt_of_le hl4 hb.size
          replace HX4 := Lib.hid (And.intro hL4 HX4.out)
          clear hl4
          have hl4 := hL4
          clear hL4
          clear hb HBr
          have HBr := hHeld
          clear hHeld
          refine wpAnyH_ready (rs := [10]) (by kernel_rfl) (by simp) ?_
          refine AllReadyH.cons (o := { dst := none, op := Op.store 33 (Operand.tmp 4) (Operand.tmp 26), type := 0, pos := "sha.go:96", after := #[{ on := 8, ground := Ground.data }, { on := 3, ground := Ground.data }, { on := 7, ground := Ground.chain }, { on := 0, ground := Ground.phase }, { on := 1, ground := Ground.phase }, { on := 2, ground := Ground.phase }, { on := 3, ground := Ground.phase }, { on := 4, ground := Ground.textOnly Departure.lateStores }, { on := 5, ground := Ground.textOnly Departure.lateStores }, { on := 6, ground := Ground.textOnly Departure.lateStoresUnsure }, { on := 7, ground := Ground.phase }, { on := 8, ground := Ground.phase }, { on := 9, ground := Ground.phase }], guard := none }) rfl (fun K hK => ?_) AllReadyH.nil
          rw [if_pos (by rfl)]
          refine wp_store_row 33 (.tmp 4) (.tmp 26) (by rfl) g4 C1 (by rfl) (by rfl) 33 (hc fun _ => 0) HX4.out.2 HC1s.out HC1z.out HC1a.out ?_
          refine hK.out _ _ ?_ (fun hHeld => ?_)
          · exact Lib.hid (below_setRow HBr.out hlo4 C1)
          clear hK K
          try simp only [Act.put]
          refine wpAnyH_ready (rs := [11]) (by kernel_rfl) (by simp) ?_
          refine AllReadyH.cons (o := { dst := none, op := Op.store 33 (Operand.tmp 5) (Operand.tmp 30), type := 0, pos := "sha.go:96", after := #[{ on := 9, ground := Ground.data }, { on := 7, ground := Ground.data }, { on := 10, ground := Ground.chain }, { on := 0, ground := Ground.phase }, { on := 1, ground := Ground.phase }, { on := 2, ground := Ground.phase }, { on := 3, ground := Ground.phase }, { on := 4, ground := Ground.phase }, { on := 5, ground := Ground.phase }, { on := 6, ground := Ground.phase }, { on := 7, ground := Ground.phase }, { on := 8, ground := Ground.phase }, { on := 9, ground := Ground.phase }, { on := 10, ground := Ground.phase }], guard := none }) rfl (fun K hK => ?_) AllReadyH.nil
          rw [if_pos (by rfl)]
          refine wp_store_row 33 (.tmp 5) (.tmp 30) (by rfl) g5 C2 (by rfl) (by rfl) 33 (hc fun _ => 0) ((setRow_other _ _ _ _ (by omega)).trans HX5.out.2) HC2s.out HC2z.out HC2a.out ?_
          refine hK.out _ _ ?_ (fun hHeld => ?_)
          · exact Lib.hid (below_setRow (below_setRow HBr.out hlo4 C1) hlo5 C2)
          clear hK K
          try simp only [Act.put]
          refine wpAnyH_done (by kernel_rfl) ?_ _
          exact HEND g4 g5 _ ⟨by omega, hlo4, hlo5, (setRow_other _ _ _ _ (by omega)).trans (setRow_heap _ _ _ _ _ _ HX4.out.2), setRow_heap _ _ _ _ _ _ ((setRow_other _ _ _ _ (by omega)).trans HX5.out.2), hHeld.out⟩
        refine AllReadyH.cons (o := { dst := some 4, op := Op.alloc 33, type := 0, pos := "sha.go:96", after := #[], guard := none }) rfl (fun K hK => ?_) ?_
        · go_simp
          refine hK.out _ _ ?_ (fun hHeld => ?_)
          · exact Lib.hid (HBr.out.alloc HBr.out.size _)
          clear hK K
          try simp only [Act.put, List.setIfInBounds_toArray, List.set_cons_zero, List.set_cons_succ]
          obtain ⟨g4, hg4⟩ : ∃ g, g = Wa.heap.size := ⟨_, rfl⟩
          rw [← hg4]
          obtain ⟨W17, hW⟩ : ∃ W', W' = Wa.alloc (.cells (hc fun _ => 0) 33) := ⟨_, rfl⟩
          change wpAnyH _ _ _ _ _ _ _ _ (Wa.alloc (.cells (hc fun _ => 0) 33))
          rw [← hW]
          have HBr' := Lib.hid (show Below W0.heap.size W0 W17 from by rw [hW]; exact HBr.out.alloc HBr.out.size _)
          have hl4 : g4 < W17.heap.size := by rw [hW, hg4]; simp
          have HX4 := Lib.hid (And.intro hl4 (show W17.heap[g4]? = some (.cells (hc fun _ => 0) 33 (0, 0)) from by rw [hW, hg4]; exact heap_alloc_new _ _))
          have hlo4 : W0.heap.size ≤ g4 := by rw [hg4]; exact HBr.out.size
          clear hW hg4 HBr hHeld
          have HBr := HBr'
          clear HBr'
          refine wpAnyH_ready (rs := [3, 9]) (by kernel_rfl) (by simp) ?_
          refine AllReadyH.cons (o := { dst := some 26, op := Op.call { callee := Callee.value (Operand.func 31), args := #[Operand.tmp 25], argTypes := #[32] }, type := 33, pos := "sha.go:96", after := #[{ on := 2, ground := Ground.data }], guard := none }) rfl (fun K hK => ?_) ?_
          · go_simp
            refine (HC1.out _ HBr.out).mono ?_
            rintro e W18 ⟨rfl, hb⟩
            refine hK.out _ _ ?_ (fun hHeld => ?_)
            · exact Lib.hid (below_chain HBr.out hb)
            clear hK K
            replace HX4 := Lib.hid ((hb.block _ HX4.out.1).trans HX4.out.2)
            have hL4 := Nat.lt_of_lt_of_le hl4 hb.size
            replace HX4 := Lib.hid (And.intro hL4 HX4.out)
            clear hl4
            have hl4 := hL4
            clear hL4
            clear hb HBr
            have HBr := hHeld
            clear hHeld
            refine wpAnyH_ready (rs := [7, 9]) (by kernel_rfl) (by simp) ?_
            refine AllReadyH.cons (o := { dst := some 30, op := Op.call { callee := Callee.value (Operand.func 31), args := #[Operand.tmp 29], argTypes := #[32] }, type := 33, pos := "sha.go:96", after := #[{ on := 6, ground := Ground.data }, { on := 3, ground := Ground.chain }], guard := none }) rfl (fun K hK => ?_) ?_
            · go_simp
              refine (HC2.out _ HBr.out).mono ?_
              rintro e W19 ⟨rfl, hb⟩
              refine hK.out _ _ ?_ (fun hHeld => ?_)
              · exact Lib.hid (below_chain HBr.out hb)
              clear hK K
              replace HX4 := Lib.hid ((hb.block _ HX4.out.1).trans HX4.out.2)
              have hL4 := Nat.lt_of_lt_of_le hl4 hb.size
              replace HX4 := Lib.hid (And.intro hL4 HX4.out)
              clear hl4
              have hl4 := hL4
              clear hL4
              clear hb HBr
              have HBr := hHeld
              clear hHeld
              refine wpAnyH_ready (rs := [9]) (by kernel_rfl) (by simp) ?_
              refine AllReadyH.cons (o := { dst := some 5, op := Op.alloc 33, type := 0, pos := "sha.go:96", after := #[], guard := none }) rfl (fun K hK => ?_) AllReadyH.nil
              go_simp
              refine hK.out _ _ ?_ (fun hHeld => ?_)
              · exact Lib.hid (HBr.out.alloc HBr.out.size _)
              clear hK K
              try simp only [Act.put, List.setIfInBounds_toArray, List.set_cons_zero, List.set_cons_succ]
              obtain ⟨g5, hg5⟩ : ∃ g, g = W19.heap.size := ⟨_, rfl⟩
              rw [← hg5]
              obtain ⟨W20, hW⟩ : ∃ W', W' = W19.alloc (.cells (hc fun _ => 0) 33) := ⟨_, rfl⟩
              change wpAnyH _ _ _ _ _ _ _ _ (W19.alloc (.cells (hc fun _ => 0) 33))
              rw [← hW]
              have HBr' := Lib.hid (show Below W0.heap.size W0 W20 from by rw [hW]; exact HBr.out.alloc HBr.out.size _)
              have hl5 : g5 < W20.heap.size := by rw [hW, hg5]; simp
              have HX5 := Lib.hid (And.intro hl5 (show W20.heap[g5]? = some (.cells (hc fun _ => 0) 33 (0, 0)) from by rw [hW, hg5]; exact heap_alloc_new _ _))
              have hne45 : g4 ≠ g5 := by rw [hg5]; exact Nat.ne_of_lt hl4
              have hL4 : g4 < W20.heap.size := by rw [hW]; simp; omega
              replace HX4 := Lib.hid (And.intro hL4 (show W20.heap[g4]? = some (.cells (hc fun _ => 0) 33 (0, 0)) from by rw [hW]; exact (Below.heap_alloc _ _ _ hl4).trans HX4.out.2))
              clear hl4
              have hl4 := hL4
              clear hL4
              have hlo5 : W0.heap.size ≤ g5 := by rw [hg5]; exact HBr.out.size
              clear hW hg5 HBr hHeld
              have HBr := HBr'
              clear HBr'
              refine wpAnyH_ready (rs := [10]) (by kernel_rfl) (by simp) ?_
              refine AllReadyH.cons (o := { dst := none, op := Op.store 33 (Operand.tmp 4) (Operand.tmp 26), type := 0, pos := "sha.go:96", after := #[{ on := 8, ground := Ground.data }, { on := 3, ground := Ground.data }, { on := 7, ground := Ground.chain }, { on := 0, ground := Ground.phase }, { on := 1, ground := Ground.phase }, { on := 2, ground := Ground.phase }, { on := 3, ground := Ground.phase }, { on := 4, ground := Ground.textOnly Departure.lateStores }, { on := 5, ground := Ground.textOnly Departure.lateStores }, { on := 6, ground := Ground.textOnly Departure.lateStoresUnsure }, { on := 7, ground := Ground.phase }, { on := 8, ground := Ground.phase }, { on := 9, ground := Ground.phase }], guard := none }) rfl (fun K hK => ?_) AllReadyH.nil
              rw [if_pos (by rfl)]
              refine wp_store_row 33 (.tmp 4) (.tmp 26) (by rfl) g4 C1 (by rfl) (by rfl) 33 (hc fun _ => 0) HX4.out.2 HC1s.out HC1z.out HC1a.out ?_
              refine hK.out _ _ ?_ (fun hHeld => ?_)
              · exact Lib.hid (below_setRow HBr.out hlo4 C1)
              clear hK K
              try simp only [Act.put]
              refine wpAnyH_ready (rs := [11]) (by kernel_rfl) (by simp) ?_
              refine AllReadyH.cons (o := { dst := none, op := Op.store 33 (Operand.tmp 5) (Operand.tmp 30), type := 0, pos := "sha.go:96", after := #[{ on := 9, ground := Ground.data }, { on := 7, ground := Ground.data }, { on := 10, ground := Ground.chain }, { on := 0, ground := Ground.phase }, { on := 1, ground := Ground.phase }, { on := 2, ground := Ground.phase }, { on := 3, ground := Ground.phase }, { on := 4, ground := Ground.phase }, { on := 5, ground := Ground.phase }, { on := 6, ground := Ground.phase }, { on := 7, ground := Ground.phase }, { on := 8, ground := Ground.phase }, { on := 9, ground := Ground.phase }, { on := 10, ground := Ground.phase }], guard := none }) rfl (fun K hK => ?_) AllReadyH.nil
              rw [if_pos (by rfl)]
              refine wp_store_row 33 (.tmp 5) (.tmp 30) (by rfl) g5 C2 (by rfl) (by rfl) 33 (hc fun _ => 0) ((setRow_other _ _ _ _ (by omega)).trans HX5.out.2) HC2s.out HC2z.out HC2a.out ?_
              refine hK.out _ _ ?_ (fun hHeld => ?_)
              · exact Lib.hid (below_setRow (below_setRow HBr.out hlo4 C1) hlo5 C2)
              clear hK K
              try simp only [Act.put]
              refine wpAnyH_done (by kernel_rfl) ?_ _
              exact HEND g4 g5 _ ⟨by omega, hlo4, hlo5, (setRow_other _ _ _ _ (by omega)).trans (setRow_heap _ _ _ _ _ _ HX4.out.2), setRow_heap _ _ _ _ _ _ ((setRow_other _ _ _ _ (by omega)).trans HX5.out.2), hHeld.out⟩
            refine AllReadyH.cons (o := { dst := some 5, op := Op.alloc 33, type := 0, pos := "sha.go:96", after := #[], guard := none }) rfl (fun K hK => ?_) AllReadyH.nil
            go_simp
            refine hK.out _ _ ?_ (fun hHeld => ?_)
            · exact Lib.hid (HBr.out.alloc HBr.out.size _)
            clear hK K
            try simp only [Act.put, List.setIfInBounds_toArray, List.set_cons_zero, List.set_cons_succ]
            obtain ⟨g5, hg5⟩ : ∃ g, g = W18.heap.size := ⟨_, rfl⟩
            rw [← hg5]
            obtain ⟨W21, hW⟩ : ∃ W', W' = W18.alloc (.cells (hc fun _ => 0) 33) := ⟨_, rfl⟩
            change wpAnyH _ _ _ _ _ _ _ _ (W18.alloc (.cells (hc fun _ => 0) 33))
            rw [← hW]
            have HBr' := Lib.hid (show Below W0.heap.size W0 W21 from by rw [hW]; exact HBr.out.alloc HBr.out.size _)
            have hl5 : g5 < W21.heap.size := by rw [hW, hg5]; simp
            have HX5 := Lib.hid (And.intro hl5 (show W21.heap[g5]? = some (.cells (hc fun _ => 0) 33 (0, 0)) from by rw [hW, hg5]; exact heap_alloc_new _ _))
            have hne45 : g4 ≠ g5 := by rw [hg5]; exact Nat.ne_of_lt hl4
            have hL4 : g4 < W21.heap.size := by rw [hW]; simp; omega
            replace HX4 := Lib.hid (And.intro hL4 (show W21.heap[g4]? = some (.cells (hc fun _ => 0) 33 (0, 0)) from by rw [hW]; exact (Below.heap_alloc _ _ _ hl4).trans HX4.out.2))
            clear hl4
            have hl4 := hL4
            clear hL4
            have hlo5 : W0.heap.size ≤ g5 := by rw [hg5]; exact HBr.out.size
            clear hW hg5 HBr hHeld
            have HBr := HBr'
            clear HBr'
            refine wpAnyH_ready (rs := [7]) (by kernel_rfl) (by simp) ?_
            refine AllReadyH.cons (o := { dst := some 30, op := Op.call { callee := Callee.value (Operand.func 31), args := #[Operand.tmp 29], argTypes := #[32] }, type := 33, pos := "sha.go:96", after := #[{ on := 6, ground := Ground.data }, { on := 3, ground := Ground.chain }], guard := none }) rfl (fun K hK => ?_) AllReadyH.nil
            go_simp
            refine (HC2.out _ HBr.out).mono ?_
            rintro e W22 ⟨rfl, hb⟩
            refine hK.out _ _ ?_ (fun hHeld => ?_)
            · exact Lib.hid (below_chain HBr.out hb)
            clear hK K
            replace HX4 := Lib.hid ((hb.block _ HX4.out.1).trans HX4.out.2)
            have hL4 := Nat.lt_of_lt_of_le hl4 hb.size
            replace HX4 := Lib.hid (And.intro hL4 HX4.out)
            clear hl4
            have hl4 := hL4
            clear hL4
            replace HX5 := Lib.hid ((hb.block _ HX5.out.1).trans HX5.out.2)
            have hL5 := Nat.lt_of_lt_of_le hl5 hb.size
            replace HX5 := Lib.hid (And.intro hL5 HX5.out)
            clear hl5
            have hl5 := hL5
            clear hL5
            clear hb HBr
            have HBr := hHeld
            clear hHeld
            refine wpAnyH_ready (rs := [10]) (by kernel_rfl) (by simp) ?_
            refine AllReadyH.cons (o := { dst := none, op := Op.store 33 (Operand.tmp 4) (Operand.tmp 26), type := 0, pos := "sha.go:96", after := #[{ on := 8, ground := Ground.data }, { on := 3, ground := Ground.data }, { on := 7, ground := Ground.chain }, { on := 0, ground := Ground.phase }, { on := 1, ground := Ground.phase }, { on := 2, ground := Ground.phase }, { on := 3, ground := Ground.phase }, { on := 4, ground := Ground.textOnly Departure.lateStores }, { on := 5, ground := Ground.textOnly Departure.lateStores }, { on := 6, ground := Ground.textOnly Departure.lateStoresUnsure }, { on := 7, ground := Ground.phase }, { on := 8, ground := Ground.phase }, { on := 9, ground := Ground.phase }], guard := none }) rfl (fun K hK => ?_) AllReadyH.nil
            rw [if_pos (by rfl)]
            refine wp_store_row 33 (.tmp 4) (.tmp 26) (by rfl) g4 C1 (by rfl) (by rfl) 33 (hc fun _ => 0) HX4.out.2 HC1s.out HC1z.out HC1a.out ?_
            refine hK.out _ _ ?_ (fun hHeld => ?_)
            · exact Lib.hid (below_setRow HBr.out hlo4 C1)
            clear hK K
            try simp only [Act.put]
            refine wpAnyH_ready (rs := [11]) (by kernel_rfl) (by simp) ?_
            refine AllReadyH.cons (o := { dst := none, op := Op.store 33 (Operand.tmp 5) (Operand.tmp 30), type := 0, pos := "sha.go:96", after := #[{ on := 9, ground := Ground.data }, { on := 7, ground := Ground.data }, { on := 10, ground := Ground.chain }, { on := 0, ground := Ground.phase }, { on := 1, ground := Ground.phase }, { on := 2, ground := Ground.phase }, { on := 3, ground := Ground.phase }, { on := 4, ground := Ground.phase }, { on := 5, ground := Ground.phase }, { on := 6, ground := Ground.phase }, { on := 7, ground := Ground.phase }, { on := 8, ground := Ground.phase }, { on := 9, ground := Ground.phase }, { on := 10, ground := Ground.phase }], guard := none }) rfl (fun K hK => ?_) AllReadyH.nil
            rw [if_pos (by rfl)]
            refine wp_store_row 33 (.tmp 5) (.tmp 30) (by rfl) g5 C2 (by rfl) (by rfl) 33 (hc fun _ => 0) ((setRow_other _ _ _ _ (by omega)).trans HX5.out.2) HC2s.out HC2z.out HC2a.out ?_
            refine hK.out _ _ ?_ (fun hHeld => ?_)
            · exact Lib.hid (below_setRow (below_setRow HBr.out hlo4 C1) hlo5 C2)
            clear hK K
            try simp only [Act.put]
            refine wpAnyH_done (by kernel_rfl) ?_ _
            exact HEND g4 g5 _ ⟨by omega, hlo4, hlo5, (setRow_other _ _ _ _ (by omega)).trans (setRow_heap _ _ _ _ _ _ HX4.out.2), setRow_heap _ _ _ _ _ _ ((setRow_other _ _ _ _ (by omega)).trans HX5.out.2), hHeld.out⟩
          refine AllReadyH.cons (o := { dst := some 5, op := Op.alloc 33, type := 0, pos := "sha.go:96", after := #[], guard := none }) rfl (fun K hK => ?_) AllReadyH.nil
          go_simp
          refine hK.out _ _ ?_ (fun hHeld => ?_)
          · exact Lib.hid (HBr.out.alloc HBr.out.size _)
          clear hK K
          try simp only [Act.put, List.setIfInBounds_toArray, List.set_cons_zero, List.set_cons_succ]
          obtain ⟨g5, hg5⟩ : ∃ g, g = W17.heap.size := ⟨_, rfl⟩
          rw [← hg5]
          obtain ⟨W23, hW⟩ : ∃ W', W' = W17.alloc (.cells (hc fun _ => 0) 33) := ⟨_, rfl⟩
          change wpAnyH _ _ _ _ _ _ _ _ (W17.alloc (.cells (hc fun _ => 0) 33))
          rw [← hW]
          have HBr' := Lib.hid (show Below W0.heap.size W0 W23 from by rw [hW]; exact HBr.out.alloc HBr.out.size _)
          have hl5 : g5 < W23.heap.size := by rw [hW, hg5]; simp
          have HX5 := Lib.hid (And.intro hl5 (show W23.heap[g5]? = some (.cells (hc fun _ => 0) 33 (0, 0)) from by rw [hW, hg5]; exact heap_alloc_new _ _))
          have hne45 : g4 ≠ g5 := by rw [hg5]; exact Nat.ne_of_lt hl4
          have hL4 : g4 < W23.heap.size := by rw [hW]; simp; omega
          replace HX4 := Lib.hid (And.intro hL4 (show W23.heap[g4]? = some (.cells (hc fun _ => 0) 33 (0, 0)) from by rw [hW]; exact (Below.heap_alloc _ _ _ hl4).trans HX4.out.2))
          clear hl4
          have hl4 := hL4
          clear hL4
          have hlo5 : W0.heap.size ≤ g5 := by rw [hg5]; exact HBr.out.size
          clear hW hg5 HBr hHeld
          have HBr := HBr'
          clear HBr'
          refine wpAnyH_ready (rs := [3]) (by kernel_rfl) (by simp) ?_
          refine AllReadyH.cons (o := { dst := some 26, op := Op.call { callee := Callee.value (Operand.func 31), args := #[Operand.tmp 25], argTypes := #[32] }, type := 33, pos := "sha.go:96", after := #[{ on := 2, ground := Ground.data }], guard := none }) rfl (fun K hK => ?_) AllReadyH.nil
          go_simp
          refine (HC1.out _ HBr.out).mono ?_
          rintro e W24 ⟨rfl, hb⟩
          refine hK.out _ _ ?_ (fun hHeld => ?_)
          · exact Lib.hid (below_chain HBr.out hb)
          clear hK K
          replace HX4 := Lib.hid ((hb.block _ HX4.out.1).trans HX4.out.2)
          have hL4 := Nat.lt_of_lt_of_le hl4 hb.size
          replace HX4 := Lib.hid (And.intro hL4 HX4.out)
          clear hl4
          have hl4 := hL4
          clear hL4
          replace HX5 := Lib.hid ((hb.block _ HX5.out.1).trans HX5.out.2)
          have hL5 := Nat.lt_of_lt_of_le hl5 hb.size
          replace HX5 := Lib.hid (And.intro hL5 HX5.out)
          clear hl5
          have hl5 := hL5
          clear hL5
          clear hb HBr
          have HBr := hHeld
          clear hHeld
          refine wpAnyH_ready (rs := [7]) (by kernel_rfl) (by simp) ?_
          refine AllReadyH.cons (o := { dst := some 30, op := Op.call { callee := Callee.value (Operand.func 31), args := #[Operand.tmp 29], argTypes := #[32] }, type := 33, pos := "sha.go:96", after := #[{ on := 6, ground := Ground.data }, { on := 3, ground := Ground.chain }], guard := none }) rfl (fun K hK => ?_) AllReadyH.nil
          go_simp
          refine (HC2.out _ HBr.out).mono ?_
          rintro e W25 ⟨rfl, hb⟩
          refine hK.out _ _ ?_ (fun hHeld => ?_)
          · exact Lib.hid (below_chain HBr.out hb)
          clear hK K
          replace HX4 := Lib.hid ((hb.block _ HX4.out.1).trans HX4.out.2)
          have hL4 := Nat.lt_of_lt_of_le hl4 hb.size
          replace HX4 := Lib.hid (And.intro hL4 HX4.out)
          clear hl4
          have hl4 := hL4
          clear hL4
          replace HX5 := Lib.hid ((hb.block _ HX5.out.1).trans HX5.out.2)
          have hL5 := Nat.lt_of_lt_of_le hl5 hb.size
          replace HX5 := Lib.hid (And.intro hL5 HX5.out)
          clear hl5
          have hl5 := hL5
          clear hL5
          clear hb HBr
          have HBr := hHeld
          clear hHeld
          refine wpAnyH_ready (rs := [10]) (by kernel_rfl) (by simp) ?_
          refine AllReadyH.cons (o := { dst := none, op := Op.store 33 (Operand.tmp 4) (Operand.tmp 26), type := 0, pos := "sha.go:96", after := #[{ on := 8, ground := Ground.data }, { on := 3, ground := Ground.data }, { on := 7, ground := Ground.chain }, { on := 0, ground := Ground.phase }, { on := 1, ground := Ground.phase }, { on := 2, ground := Ground.phase }, { on := 3, ground := Ground.phase }, { on := 4, ground := Ground.textOnly Departure.lateStores }, { on := 5, ground := Ground.textOnly Departure.lateStores }, { on := 6, ground := Ground.textOnly Departure.lateStoresUnsure }, { on := 7, ground := Ground.phase }, { on := 8, ground := Ground.phase }, { on := 9, ground := Ground.phase }], guard := none }) rfl (fun K hK => ?_) AllReadyH.nil
          rw [if_pos (by rfl)]
          refine wp_store_row 33 (.tmp 4) (.tmp 26) (by rfl) g4 C1 (by rfl) (by rfl) 33 (hc fun _ => 0) HX4.out.2 HC1s.out HC1z.out HC1a.out ?_
          refine hK.out _ _ ?_ (fun hHeld => ?_)
          · exact Lib.hid (below_setRow HBr.out hlo4 C1)
          clear hK K
          try simp only [Act.put]
          refine wpAnyH_ready (rs := [11]) (by kernel_rfl) (by simp) ?_
          refine AllReadyH.cons (o := { dst := none, op := Op.store 33 (Operand.tmp 5) (Operand.tmp 30), type := 0, pos := "sha.go:96", after := #[{ on := 9, ground := Ground.data }, { on := 7, ground := Ground.data }, { on := 10, ground := Ground.chain }, { on := 0, ground := Ground.phase }, { on := 1, ground := Ground.phase }, { on := 2, ground := Ground.phase }, { on := 3, ground := Ground.phase }, { on := 4, ground := Ground.phase }, { on := 5, ground := Ground.phase }, { on := 6, ground := Ground.phase }, { on := 7, ground := Ground.phase }, { on := 8, ground := Ground.phase }, { on := 9, ground := Ground.phase }, { on := 10, ground := Ground.phase }], guard := none }) rfl (fun K hK => ?_) AllReadyH.nil
          rw [if_pos (by rfl)]
          refine wp_store_row 33 (.tmp 5) (.tmp 30) (by rfl) g5 C2 (by rfl) (by rfl) 33 (hc fun _ => 0) ((setRow_other _ _ _ _ (by omega)).trans HX5.out.2) HC2s.out HC2z.out HC2a.out ?_
          refine hK.out _ _ ?_ (fun hHeld => ?_)
          · exact Lib.hid (below_setRow (below_setRow HBr.out hlo4 C1) hlo5 C2)
          clear hK K
          try simp only [Act.put]
          refine wpAnyH_done (by kernel_rfl) ?_ _
          exact HEND g4 g5 _ ⟨by omega, hlo4, hlo5, (setRow_other _ _ _ _ (by omega)).trans (setRow_heap _ _ _ _ _ _ HX4.out.2), setRow_heap _ _ _ _ _ _ ((setRow_other _ _ _ _ (by omega)).trans HX5.out.2), hHeld.out⟩
        refine AllReadyH.cons (o := { dst := some 5, op := Op.alloc 33, type := 0, pos := "sha.go:96", after := #[], guard := none }) rfl (fun K hK => ?_) AllReadyH.nil
        go_simp
        refine hK.out _ _ ?_ (fun hHeld => ?_)
        · exact Lib.hid (HBr.out.alloc HBr.out.size _)
        clear hK K
        try simp only [Act.put, List.setIfInBounds_toArray, List.set_cons_zero, List.set_cons_succ]
        obtain ⟨g5, hg5⟩ : ∃ g, g = Wa.heap.size := ⟨_, rfl⟩
        rw [← hg5]
        obtain ⟨W26, hW⟩ : ∃ W', W' = Wa.alloc (.cells (hc fun _ => 0) 33) := ⟨_, rfl⟩
        change wpAnyH _ _ _ _ _ _ _ _ (Wa.alloc (.cells (hc fun _ => 0) 33))
        rw [← hW]
        have HBr' := Lib.hid (show Below W0.heap.size W0 W26 from by rw [hW]; exact HBr.out.alloc HBr.out.size _)
        have hl5 : g5 < W26.heap.size := by rw [hW, hg5]; simp
        have HX5 := Lib.hid (And.intro hl5 (show W26.heap[g5]? = some (.cells (hc fun _ => 0) 33 (0, 0)) from by rw [hW, hg5]; exact heap_alloc_new _ _))
        have hlo5 : W0.heap.size ≤ g5 := by rw [hg5]; exact HBr.out.size
        clear hW hg5 HBr hHeld
        have HBr := HBr'
        clear HBr'
        refine wpAnyH_ready (rs := [3, 8]) (by kernel_rfl) (by simp) ?_
        refine AllReadyH.cons (o := { dst := some 26, op := Op.call { callee := Callee.value (Operand.func 31), args := #[Operand.tmp 25], argTypes := #[32] }, type := 33, pos := "sha.go:96", after := #[{ on := 2, ground := Ground.data }], guard := none }) rfl (fun K hK => ?_) ?_
        · go_simp
          refine (HC1.out _ HBr.out).mono ?_
          rintro e W27 ⟨rfl, hb⟩
          refine hK.out _ _ ?_ (fun hHeld => ?_)
          · exact Lib.hid (below_chain HBr.out hb)
          clear hK K
          replace HX5 := Lib.hid ((hb.block _ HX5.out.1).trans HX5.out.2)
          have hL5 := Nat.lt_of_lt_of_le hl5 hb.size
          replace HX5 := Lib.hid (And.intro hL5 HX5.out)
          clear hl5
          have hl5 := hL5
          clear hL5
          clear hb HBr
          have HBr := hHeld
          clear hHeld
          refine wpAnyH_ready (rs := [7, 8]) (by kernel_rfl) (by simp) ?_
          refine AllReadyH.cons (o := { dst := some 30, op := Op.call { callee := Callee.value (Operand.func 31), args := #[Operand.tmp 29], argTypes := #[32] }, type := 33, pos := "sha.go:96", after := #[{ on := 6, ground := Ground.data }, { on := 3, ground := Ground.chain }], guard := none }) rfl (fun K hK => ?_) ?_
          · go_simp
            refine (HC2.out _ HBr.out).mono ?_
            rintro e W28 ⟨rfl, hb⟩
            refine hK.out _ _ ?_ (fun hHeld => ?_)
            · exact Lib.hid (below_chain HBr.out hb)
            clear hK K
            replace HX5 := Lib.hid ((hb.block _ HX5.out.1).trans HX5.out.2)
            have hL5 := Nat.lt_of_lt_of_le hl5 hb.size
            replace HX5 := Lib.hid (And.intro hL5 HX5.out)
            clear hl5
            have hl5 := hL5
            clear hL5
            clear hb HBr
            have HBr := hHeld
            clear hHeld
            refine wpAnyH_ready (rs := [8]) (by kernel_rfl) (by simp) ?_
            refine AllReadyH.cons (o := { dst := some 4, op := Op.alloc 33, type := 0, pos := "sha.go:96", after := #[], guard := none }) rfl (fun K hK => ?_) AllReadyH.nil
            go_simp
            refine hK.out _ _ ?_ (fun hHeld => ?_)
            · exact Lib.hid (HBr.out.alloc HBr.out.size _)
            clear hK K
            try simp only [Act.put, List.setIfInBounds_toArray, List.set_cons_zero, List.set_cons_succ]
            obtain ⟨g4, hg4⟩ : ∃ g, g = W28.heap.size := ⟨_, rfl⟩
            rw [← hg4]
            obtain ⟨W29, hW⟩ : ∃ W', W' = W28.alloc (.cells (hc fun _ => 0) 33) := ⟨_, rfl⟩
            change wpAnyH _ _ _ _ _ _ _ _ (W28.alloc (.cells (hc fun _ => 0) 33))
            rw [← hW]
            have HBr' := Lib.hid (show Below W0.heap.size W0 W29 from by rw [hW]; exact HBr.out.alloc HBr.out.size _)
            have hl4 : g4 < W29.heap.size := by rw [hW, hg4]; simp
            have HX4 := Lib.hid (And.intro hl4 (show W29.heap[g4]? = some (.cells (hc fun _ => 0) 33 (0, 0)) from by rw [hW, hg4]; exact heap_alloc_new _ _))
            have hne54 : g5 ≠ g4 := by rw [hg4]; exact Nat.ne_of_lt hl5
            have hL5 : g5 < W29.heap.size := by rw [hW]; simp; omega
            replace HX5 := Lib.hid (And.intro hL5 (show W29.heap[g5]? = some (.cells (hc fun _ => 0) 33 (0, 0)) from by rw [hW]; exact (Below.heap_alloc _ _ _ hl5).trans HX5.out.2))
            clear hl5
            have hl5 := hL5
            clear hL5
            have hlo4 : W0.heap.size ≤ g4 := by rw [hg4]; exact HBr.out.size
            clear hW hg4 HBr hHeld
            have HBr := HBr'
            clear HBr'
            refine wpAnyH_ready (rs := [10]) (by kernel_rfl) (by simp) ?_
            refine AllReadyH.cons (o := { dst := none, op := Op.store 33 (Operand.tmp 4) (Operand.tmp 26), type := 0, pos := "sha.go:96", after := #[{ on := 8, ground := Ground.data }, { on := 3, ground := Ground.data }, { on := 7, ground := Ground.chain }, { on := 0, ground := Ground.phase }, { on := 1, ground := Ground.phase }, { on := 2, ground := Ground.phase }, { on := 3, ground := Ground.phase }, { on := 4, ground := Ground.textOnly Departure.lateStores }, { on := 5, ground := Ground.textOnly Departure.lateStores }, { on := 6, ground := Ground.textOnly Departure.lateStoresUnsure }, { on := 7, ground := Ground.phase }, { on := 8, ground := Ground.phase }, { on := 9, ground := Ground.phase }], guard := none }) rfl (fun K hK => ?_) AllReadyH.nil
            rw [if_pos (by rfl)]
            refine wp_store_row 33 (.tmp 4) (.tmp 26) (by rfl) g4 C1 (by rfl) (by rfl) 33 (hc fun _ => 0) HX4.out.2 HC1s.out HC1z.out HC1a.out ?_
            refine hK.out _ _ ?_ (fun hHeld => ?_)
            · exact Lib.hid (below_setRow HBr.out hlo4 C1)
            clear hK K
            try simp only [Act.put]
            refine wpAnyH_ready (rs := [11]) (by kernel_rfl) (by simp) ?_
            refine AllReadyH.cons (o := { dst := none, op := Op.store 33 (Operand.tmp 5) (Operand.tmp 30), type := 0, pos := "sha.go:96", after := #[{ on := 9, ground := Ground.data }, { on := 7, ground := Ground.data }, { on := 10, ground := Ground.chain }, { on := 0, ground := Ground.phase }, { on := 1, ground := Ground.phase }, { on := 2, ground := Ground.phase }, { on := 3, ground := Ground.phase }, { on := 4, ground := Ground.phase }, { on := 5, ground := Ground.phase }, { on := 6, ground := Ground.phase }, { on := 7, ground := Ground.phase }, { on := 8, ground := Ground.phase }, { on := 9, ground := Ground.phase }, { on := 10, ground := Ground.phase }], guard := none }) rfl (fun K hK => ?_) AllReadyH.nil
            rw [if_pos (by rfl)]
            refine wp_store_row 33 (.tmp 5) (.tmp 30) (by rfl) g5 C2 (by rfl) (by rfl) 33 (hc fun _ => 0) ((setRow_other _ _ _ _ (by omega)).trans HX5.out.2) HC2s.out HC2z.out HC2a.out ?_
            refine hK.out _ _ ?_ (fun hHeld => ?_)
            · exact Lib.hid (below_setRow (below_setRow HBr.out hlo4 C1) hlo5 C2)
            clear hK K
            try simp only [Act.put]
            refine wpAnyH_done (by kernel_rfl) ?_ _
            exact HEND g4 g5 _ ⟨by omega, hlo4, hlo5, (setRow_other _ _ _ _ (by omega)).trans (setRow_heap _ _ _ _ _ _ HX4.out.2), setRow_heap _ _ _ _ _ _ ((setRow_other _ _ _ _ (by omega)).trans HX5.out.2), hHeld.out⟩
          refine AllReadyH.cons (o := { dst := some 4, op := Op.alloc 33, type := 0, pos := "sha.go:96", after := #[], guard := none }) rfl (fun K hK => ?_) AllReadyH.nil
          go_simp
          refine hK.out _ _ ?_ (fun hHeld => ?_)
          · exact Lib.hid (HBr.out.alloc HBr.out.size _)
          clear hK K
          try simp only [Act.put, List.setIfInBounds_toArray, List.set_cons_zero, List.set_cons_succ]
          obtain ⟨g4, hg4⟩ : ∃ g, g = W27.heap.size := ⟨_, rfl⟩
          rw [← hg4]
          obtain ⟨W30, hW⟩ : ∃ W', W' = W27.alloc (.cells (hc fun _ => 0) 33) := ⟨_, rfl⟩
          change wpAnyH _ _ _ _ _ _ _ _ (W27.alloc (.cells (hc fun _ => 0) 33))
          rw [← hW]
          have HBr' := Lib.hid (show Below W0.heap.size W0 W30 from by rw [hW]; exact HBr.out.alloc HBr.out.size _)
          have hl4 : g4 < W30.heap.size := by rw [hW, hg4]; simp
          have HX4 := Lib.hid (And.intro hl4 (show W30.heap[g4]? = some (.cells (hc fun _ => 0) 33 (0, 0)) from by rw [hW, hg4]; exact heap_alloc_new _ _))
          have hne54 : g5 ≠ g4 := by rw [hg4]; exact Nat.ne_of_lt hl5
          have hL5 : g5 < W30.heap.size := by rw [hW]; simp; omega
          replace HX5 := Lib.hid (And.intro hL5 (show W30.heap[g5]? = some (.cells (hc fun _ => 0) 33 (0, 0)) from by rw [hW]; exact (Below.heap_alloc _ _ _ hl5).trans HX5.out.2))
          clear hl5
          have hl5 := hL5
          clear hL5
          have hlo4 : W0.heap.size ≤ g4 := by rw [hg4]; exact HBr.out.size
          clear hW hg4 HBr hHeld
          have HBr := HBr'
          clear HBr'
          refine wpAnyH_ready (rs := [7]) (by kernel_rfl) (by simp) ?_
          refine AllReadyH.cons (o := { dst := some 30, op := Op.call { callee := Callee.value (Operand.func 31), args := #[Operand.tmp 29], argTypes := #[32] }, type := 33, pos := "sha.go:96", after := #[{ on := 6, ground := Ground.data }, { on := 3, ground := Ground.chain }], guard := none }) rfl (fun K hK => ?_) AllReadyH.nil
          go_simp
          refine (HC2.out _ HBr.out).mono ?_
          rintro e W31 ⟨rfl, hb⟩
          refine hK.out _ _ ?_ (fun hHeld => ?_)
          · exact Lib.hid (below_chain HBr.out hb)
          clear hK K
          replace HX5 := Lib.hid ((hb.block _ HX5.out.1).trans HX5.out.2)
          have hL5 := Nat.lt_of_lt_of_le hl5 hb.size
          replace HX5 := Lib.hid (And.intro hL5 HX5.out)
          clear hl5
          have hl5 := hL5
          clear hL5
          replace HX4 := Lib.hid ((hb.block _ HX4.out.1).trans HX4.out.2)
          have hL4 := Nat.lt_of_lt_of_le hl4 hb.size
          replace HX4 := Lib.hid (And.intro hL4 HX4.out)
          clear hl4
          have hl4 := hL4
          clear hL4
          clear hb HBr
          have HBr := hHeld
          clear hHeld
          refine wpAnyH_ready (rs := [10]) (by kernel_rfl) (by simp) ?_
          refine AllReadyH.cons (o := { dst := none, op := Op.store 33 (Operand.tmp 4) (Operand.tmp 26), type := 0, pos := "sha.go:96", after := #[{ on := 8, ground := Ground.data }, { on := 3, ground := Ground.data }, { on := 7, ground := Ground.chain }, { on := 0, ground := Ground.phase }, { on := 1, ground := Ground.phase }, { on := 2, ground := Ground.phase }, { on := 3, ground := Ground.phase }, { on := 4, ground := Ground.textOnly Departure.lateStores }, { on := 5, ground := Ground.textOnly Departure.lateStores }, { on := 6, ground := Ground.textOnly Departure.lateStoresUnsure }, { on := 7, ground := Ground.phase }, { on := 8, ground := Ground.phase }, { on := 9, ground := Ground.phase }], guard := none }) rfl (fun K hK => ?_) AllReadyH.nil
          rw [if_pos (by rfl)]
          refine wp_store_row 33 (.tmp 4) (.tmp 26) (by rfl) g4 C1 (by rfl) (by rfl) 33 (hc fun _ => 0) HX4.out.2 HC1s.out HC1z.out HC1a.out ?_
          refine hK.out _ _ ?_ (fun hHeld => ?_)
          · exact Lib.hid (below_setRow HBr.out hlo4 C1)
          clear hK K
          try simp only [Act.put]
          refine wpAnyH_ready (rs := [11]) (by kernel_rfl) (by simp) ?_
          refine AllReadyH.cons (o := { dst := none, op := Op.store 33 (Operand.tmp 5) (Operand.tmp 30), type := 0, pos := "sha.go:96", after := #[{ on := 9, ground := Ground.data }, { on := 7, ground := Ground.data }, { on := 10, ground := Ground.chain }, { on := 0, ground := Ground.phase }, { on := 1, ground := Ground.phase }, { on := 2, ground := Ground.phase }, { on := 3, ground := Ground.phase }, { on := 4, ground := Ground.phase }, { on := 5, ground := Ground.phase }, { on := 6, ground := Ground.phase }, { on := 7, ground := Ground.phase }, { on := 8, ground := Ground.phase }, { on := 9, ground := Ground.phase }, { on := 10, ground := Ground.phase }], guard := none }) rfl (fun K hK => ?_) AllReadyH.nil
          rw [if_pos (by rfl)]
          refine wp_store_row 33 (.tmp 5) (.tmp 30) (by rfl) g5 C2 (by rfl) (by rfl) 33 (hc fun _ => 0) ((setRow_other _ _ _ _ (by omega)).trans HX5.out.2) HC2s.out HC2z.out HC2a.out ?_
          refine hK.out _ _ ?_ (fun hHeld => ?_)
          · exact Lib.hid (below_setRow (below_setRow HBr.out hlo4 C1) hlo5 C2)
          clear hK K
          try simp only [Act.put]
          refine wpAnyH_done (by kernel_rfl) ?_ _
          exact HEND g4 g5 _ ⟨by omega, hlo4, hlo5, (setRow_other _ _ _ _ (by omega)).trans (setRow_heap _ _ _ _ _ _ HX4.out.2), setRow_heap _ _ _ _ _ _ ((setRow_other _ _ _ _ (by omega)).trans HX5.out.2), hHeld.out⟩
        refine AllReadyH.cons (o := { dst := some 4, op := Op.alloc 33, type := 0, pos := "sha.go:96", after := #[], guard := none }) rfl (fun K hK => ?_) AllReadyH.nil
        go_simp
        refine hK.out _ _ ?_ (fun hHeld => ?_)
        · exact Lib.hid (HBr.out.alloc HBr.out.size _)
        clear hK K
        try simp only [Act.put, List.setIfInBounds_toArray, List.set_cons_zero, List.set_cons_succ]
        obtain ⟨g4, hg4⟩ : ∃ g, g = W26.heap.size := ⟨_, rfl⟩
        rw [← hg4]
        obtain ⟨W32, hW⟩ : ∃ W', W' = W26.alloc (.cells (hc fun _ => 0) 33) := ⟨_, rfl⟩
        change wpAnyH _ _ _ _ _ _ _ _ (W26.alloc (.cells (hc fun _ => 0) 33))
        rw [← hW]
        have HBr' := Lib.hid (show Below W0.heap.size W0 W32 from by rw [hW]; exact HBr.out.alloc HBr.out.size _)
        have hl4 : g4 < W32.heap.size := by rw [hW, hg4]; simp
        have HX4 := Lib.hid (And.intro hl4 (show W32.heap[g4]? = some (.cells (hc fun _ => 0) 33 (0, 0)) from by rw [hW, hg4]; exact heap_alloc_new _ _))
        have hne54 : g5 ≠ g4 := by rw [hg4]; exact Nat.ne_of_lt hl5
        have hL5 : g5 < W32.heap.size := by rw [hW]; simp; omega
        replace HX5 := Lib.hid (And.intro hL5 (show W32.heap[g5]? = some (.cells (hc fun _ => 0) 33 (0, 0)) from by rw [hW]; exact (Below.heap_alloc _ _ _ hl5).trans HX5.out.2))
        clear hl5
        have hl5 := hL5
        clear hL5
        have hlo4 : W0.heap.size ≤ g4 := by rw [hg4]; exact HBr.out.size
        clear hW hg4 HBr hHeld
        have HBr := HBr'
        clear HBr'
        refine wpAnyH_ready (rs := [3]) (by kernel_rfl) (by simp) ?_
        refine AllReadyH.cons (o := { dst := some 26, op := Op.call { callee := Callee.value (Operand.func 31), args := #[Operand.tmp 25], argTypes := #[32] }, type := 33, pos := "sha.go:96", after := #[{ on := 2, ground := Ground.data }], guard := none }) rfl (fun K hK => ?_) AllReadyH.nil
        go_simp
        refine (HC1.out _ HBr.out).mono ?_
        rintro e W33 ⟨rfl, hb⟩
        refine hK.out _ _ ?_ (fun hHeld => ?_)
        · exact Lib.hid (below_chain HBr.out hb)
        clear hK K
        replace HX5 := Lib.hid ((hb.block _ HX5.out.1).trans HX5.out.2)
        have hL5 := Nat.lt_of_lt_of_le hl5 hb.size
        replace HX5 := Lib.hid (And.intro hL5 HX5.out)
        clear hl5
        have hl5 := hL5
        clear hL5
        replace HX4 := Lib.hid ((hb.block _ HX4.out.1).trans HX4.out.2)
        have hL4 := Nat.lt_of_lt_of_le hl4 hb.size
        replace HX4 := Lib.hid (And.intro hL4 HX4.out)
        clear hl4
        have hl4 := hL4
        clear hL4
        clear hb HBr
        have HBr := hHeld
        clear hHeld
        refine wpAnyH_ready (rs := [7]) (by kernel_rfl) (by simp) ?_
        refine AllReadyH.cons (o := { dst := some 30, op := Op.call { callee := Callee.value (Operand.func 31), args := #[Operand.tmp 29], argTypes := #[32] }, type := 33, pos := "sha.go:96", after := #[{ on := 6, ground := Ground.data }, { on := 3, ground := Ground.chain }], guard := none }) rfl (fun K hK => ?_) AllReadyH.nil
        go_simp
        refine (HC2.out _ HBr.out).mono ?_
        rintro e W34 ⟨rfl, hb⟩
        refine hK.out _ _ ?_ (fun hHeld => ?_)
        · exact Lib.hid (below_chain HBr.out hb)
        clear hK K
        replace HX5 := Lib.hid ((hb.block _ HX5.out.1).trans HX5.out.2)
        have hL5 := Nat.lt_of_lt_of_le hl5 hb.size
        replace HX5 := Lib.hid (And.intro hL5 HX5.out)
        clear hl5
        have hl5 := hL5
        clear hL5
        replace HX4 := Lib.hid ((hb.block _ HX4.out.1).trans HX4.out.2)
        have hL4 := Nat.lt_of_lt_of_le hl4 hb.size
        replace HX4 := Lib.hid (And.intro hL4 HX4.out)
        clear hl4
        have hl4 := hL4
        clear hL4
        clear hb HBr
        have HBr := hHeld
        clear hHeld
        refine wpAnyH_ready (rs := [10]) (by kernel_rfl) (by simp) ?_
        refine AllReadyH.cons (o := { dst := none, op := Op.store 33 (Operand.tmp 4) (Operand.tmp 26), type := 0, pos := "sha.go:96", after := #[{ on := 8, ground := Ground.data }, { on := 3, ground := Ground.data }, { on := 7, ground := Ground.chain }, { on := 0, ground := Ground.phase }, { on := 1, ground := Ground.phase }, { on := 2, ground := Ground.phase }, { on := 3, ground := Ground.phase }, { on := 4, ground := Ground.textOnly Departure.lateStores }, { on := 5, ground := Ground.textOnly Departure.lateStores }, { on := 6, ground := Ground.textOnly Departure.lateStoresUnsure }, { on := 7, ground := Ground.phase }, { on := 8, ground := Ground.phase }, { on := 9, ground := Ground.phase }], guard := none }) rfl (fun K hK => ?_) AllReadyH.nil
        rw [if_pos (by rfl)]
        refine wp_store_row 33 (.tmp 4) (.tmp 26) (by rfl) g4 C1 (by rfl) (by rfl) 33 (hc fun _ => 0) HX4.out.2 HC1s.out HC1z.out HC1a.out ?_
        refine hK.out _ _ ?_ (fun hHeld => ?_)
        · exact Lib.hid (below_setRow HBr.out hlo4 C1)
        clear hK K
        try simp only [Act.put]
        refine wpAnyH_ready (rs := [11]) (by kernel_rfl) (by simp) ?_
        refine AllReadyH.cons (o := { dst := none, op := Op.store 33 (Operand.tmp 5) (Operand.tmp 30), type := 0, pos := "sha.go:96", after := #[{ on := 9, ground := Ground.data }, { on := 7, ground := Ground.data }, { on := 10, ground := Ground.chain }, { on := 0, ground := Ground.phase }, { on := 1, ground := Ground.phase }, { on := 2, ground := Ground.phase }, { on := 3, ground := Ground.phase }, { on := 4, ground := Ground.phase }, { on := 5, ground := Ground.phase }, { on := 6, ground := Ground.phase }, { on := 7, ground := Ground.phase }, { on := 8, ground := Ground.phase }, { on := 9, ground := Ground.phase }, { on := 10, ground := Ground.phase }], guard := none }) rfl (fun K hK => ?_) AllReadyH.nil
        rw [if_pos (by rfl)]
        refine wp_store_row 33 (.tmp 5) (.tmp 30) (by rfl) g5 C2 (by rfl) (by rfl) 33 (hc fun _ => 0) ((setRow_other _ _ _ _ (by omega)).trans HX5.out.2) HC2s.out HC2z.out HC2a.out ?_
        refine hK.out _ _ ?_ (fun hHeld => ?_)
        · exact Lib.hid (below_setRow (below_setRow HBr.out hlo4 C1) hlo5 C2)
        clear hK K
        try simp only [Act.put]
        refine wpAnyH_done (by kernel_rfl) ?_ _
        exact HEND g4 g5 _ ⟨by omega, hlo4, hlo5, (setRow_other _ _ _ _ (by omega)).trans (setRow_heap _ _ _ _ _ _ HX4.out.2), setRow_heap _ _ _ _ _ _ ((setRow_other _ _ _ _ (by omega)).trans HX5.out.2), hHeld.out⟩
end Go.Proofs.Ytmpbimechgelfaa
