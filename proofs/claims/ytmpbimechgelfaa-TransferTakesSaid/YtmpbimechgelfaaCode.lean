/- sha.Code's contract. -/
import Derived.Test.YtmpbimechgelfaaRepeat
namespace Go.Proofs.Ytmpbimechgelfaa
open Go Go.RowKit

theorem Prt.row {w : World} {t : TypeId} {vs : List Value} {ls : List (List Nat)} (hlen : vs.length = ls.length) (ok : ∀ (j : Nat) v l, vs[j]? = some v → ls[j]? = some l → ∃ B c, v = .slice B l.length c ∧ Bs w w.heap.size B l) (byt : ∀ l ∈ ls, Byt l) :
    Prt (w.alloc (.cells vs.toArray t)) (some ⟨w.heap.size, 0, none⟩) vs ls where
  len := hlen
  rd := fun _ => ⟨_, 0, rfl, fun j v hv => by rw [Nat.zero_add, cell_of_row _ _ _ _ _ _ (heap_alloc_new w _)]; simpa using hv⟩
  ok := fun j v l hv hl => by
    obtain ⟨B, c, e, hB⟩ := ok j v l hv hl
    exact ⟨B, c, e, Bs.next hB ((Below.refl _ _).alloc (Nat.le_refl _) _)⟩
  byt := byt
theorem Prt.one {w : World} {t : TypeId} {A : Option Addr} {c : Nat} {l : List Nat} (h : Bs w w.heap.size A l) (hb : Byt l) : Prt (w.alloc (.cells #[.slice A l.length c] t)) (some ⟨w.heap.size, 0, none⟩) [.slice A l.length c] [l] := by
  refine Prt.row rfl (fun j v m hv hm => ?_) (by simpa using hb)
  match j with
  | 0 => simp at hv hm; subst hv hm; exact ⟨A, c, rfl, h⟩
  | j + 1 => simp at hv
theorem Prt.two {w : World} {t : TypeId} {A A2 : Option Addr} {c c2 : Nat} {l l2 : List Nat} (h : Bs w w.heap.size A l) (hb : Byt l) (h2 : Bs w w.heap.size A2 l2) (hb2 : Byt l2) :
    Prt (w.alloc (.cells #[.slice A l.length c, .slice A2 l2.length c2] t)) (some ⟨w.heap.size, 0, none⟩) [.slice A l.length c, .slice A2 l2.length c2] [l, l2] := by
  refine Prt.row rfl (fun j v m hv hm => ?_) (by intro x hx; simp at hx; rcases hx with rfl | rfl <;> assumption)
  match j with
  | 0 => simp at hv hm; subst hv hm; exact ⟨A, c, rfl, h⟩
  | 1 => simp at hv hm; subst hv hm; exact ⟨A2, c2, rfl, h2⟩
  | j + 2 => simp at hv
theorem Prt.three {w : World} {t : TypeId} {A A2 A3 : Option Addr} {c c2 c3 : Nat} {l l2 l3 : List Nat} (h : Bs w w.heap.size A l) (hb : Byt l) (h2 : Bs w w.heap.size A2 l2) (hb2 : Byt l2) (h3 : Bs w w.heap.size A3 l3) (hb3 : Byt l3) :
    Prt (w.alloc (.cells #[.slice A l.length c, .slice A2 l2.length c2, .slice A3 l3.length c3] t)) (some ⟨w.heap.size, 0, none⟩) [.slice A l.length c, .slice A2 l2.length c2, .slice A3 l3.length c3] [l, l2, l3] := by
  refine Prt.row rfl (fun j v m hv hm => ?_) (by intro x hx; simp at hx; rcases hx with rfl | rfl | rfl <;> assumption)
  match j with
  | 0 => simp at hv hm; subst hv hm; exact ⟨A, c, rfl, h⟩
  | 1 => simp at hv hm; subst hv hm; exact ⟨A2, c2, rfl, h2⟩
  | 2 => simp at hv hm; subst hv hm; exact ⟨A3, c3, rfl, h3⟩
  | j + 3 => simp at hv
theorem Prt.none (w : World) : Prt w none [] [] := ⟨rfl, fun h => absurd h (by simp), fun j v l hv => by simp at hv, by simp⟩
/-- A box that holds a hash reads as its bytes. -/
theorem Bs.box {w : World} {g t B : Nat} {h : Nat → Nat} (hg : w.heap[g]? = some (.cells (hc h) t (0, 0))) (hB : g < B) : Bs w B (some ⟨g, 0, none⟩) (hl h) := fun _ =>
  ⟨g, 0, rfl, hB, fun j hj => by rw [hl_len] at hj; rw [Nat.zero_add, cell_of_row _ _ _ _ _ _ hg, hc_at h j (by omega)]⟩
theorem Fr.set {w : World} {base g cap n : Nat} {l : List Nat} (h : Fr w base (.slice (some ⟨g, 0, none⟩) n cap) l) (j x : Nat) (hj : j < l.length) :
    Fr (w.setCell ⟨g, j, none⟩ (.int .u8 (x : Int))) base (.slice (some ⟨g, 0, none⟩) n cap) (l.set j x) := by
  rcases h with ⟨h, _⟩ | ⟨g', cap', hv, hbs, hg, hc, hm, hcell, hsp⟩
  · cases h
  · injection hv with e1 e2 e3
    injection e1 with e1
    injection e1 with e1
    subst e1 e2 e3
    have hin := World.cell?_setCells_in g [.int .u8 (x : Int)] j w (by intro i hi; simp at hi; subst hi; exact (hsp _ (by omega)).1) 0 (by simp)
    refine .inr ⟨g, cap, by rw [List.length_set], hbs, fun h => by simpa [World.setCell] using hg h, by rw [List.length_set]; exact hc, hm, fun i hi => ?_, fun i hi => ⟨?_, ?_⟩⟩
    · rw [List.length_set] at hi
      by_cases e : i = j
      · subst e
        have : (w.setCell ⟨g, i, none⟩ (.int .u8 (x : Int))).cell? ⟨g, i, none⟩ = some (.int .u8 (x : Int)) := hin
        rw [this]; unfold bf; rw [List.getElem?_set_self hi]; rfl
      · have : (w.setCell ⟨g, j, none⟩ (.int .u8 (x : Int))).cell? ⟨g, i, none⟩ = w.cell? ⟨g, i, none⟩ := World.cell?_setCell_other _ _ _ _ (fun h => by injection h with _ h; omega)
        rw [this, hcell i hi]; unfold bf; rw [List.getElem?_set_ne (fun h => e h.symm)]
    · by_cases e : i = j
      · subst e
        have : (w.setCell ⟨g, i, none⟩ (.int .u8 (x : Int))).cell? ⟨g, i, none⟩ = some (.int .u8 (x : Int)) := hin
        rw [this]; rfl
      · have : (w.setCell ⟨g, j, none⟩ (.int .u8 (x : Int))).cell? ⟨g, i, none⟩ = w.cell? ⟨g, i, none⟩ := World.cell?_setCell_other _ _ _ _ (fun h => by injection h with _ h; omega)
        rw [this]; exact (hsp i hi).1
    · have := World.frozen?_setCells g [.int .u8 (x : Int)] j w ⟨g, i, none⟩
      rw [show w.setCell ⟨g, j, none⟩ (.int .u8 (x : Int)) = w.setCells g j [.int .u8 (x : Int)] from rfl, this]; exact (hsp i hi).2
theorem Fr.far {w : World} {base g cap n : Nat} {l : List Nat} (h : Fr w base (.slice (some ⟨g, 0, none⟩) n cap) l) {p : Addr} (hp : g ≠ p.block) (u : Value) : Fr (w.setCell p u) base (.slice (some ⟨g, 0, none⟩) n cap) l := by
  rcases h with ⟨h, _⟩ | ⟨g', cap', hv, hbs, hg, hc, hm, hcell, hsp⟩
  · cases h
  · injection hv with e1 e2 e3
    injection e1 with e1
    injection e1 with e1
    subst e1 e2 e3
    have hk : (w.setCell p u).heap[g]? = w.heap[g]? := heap_setCell_other w p g u hp
    refine .inr ⟨g, cap, rfl, hbs, fun h => by simpa [World.setCell] using hg h, hc, hm, fun i hi => ?_, fun i hi => ⟨?_, ?_⟩⟩
    · rw [show (w.setCell p u).cell? ⟨g, i, none⟩ = w.cell? ⟨g, i, none⟩ from World.cell?_of_block (w := w) hk]; exact hcell i hi
    · rw [show (w.setCell p u).cell? ⟨g, i, none⟩ = w.cell? ⟨g, i, none⟩ from World.cell?_of_block (w := w) hk]; exact (hsp i hi).1
    · rw [show (w.setCell p u).frozen? ⟨g, i, none⟩ = w.frozen? ⟨g, i, none⟩ from World.frozen?_of_block (w := w) hk]; exact (hsp i hi).2
theorem Fr.form {w : World} {base : Nat} {v : Value} {l : List Nat} (h : Fr w base v l) (hl : 0 < l.length) : ∃ g cap, v = .slice (some ⟨g, 0, none⟩) l.length cap ∧ base ≤ g ∧ g < w.heap.size ∧ l.length ≤ cap ∧ cap ≤ maxLen := by
  rcases h with ⟨_, rfl⟩ | ⟨g, cap, hv, hbs, hg, hc, hm, _⟩
  · simp at hl
  · exact ⟨g, cap, hv, hbs, hg (by omega), hc, hm⟩
theorem Fr.cellAt {w : World} {base g cap n : Nat} {l : List Nat} (h : Fr w base (.slice (some ⟨g, 0, none⟩) n cap) l) {j : Nat} (hj : j < l.length) : w.cell? ⟨g, j, none⟩ = some (bf l j) ∧ w.frozen? ⟨g, j, none⟩ = false := by
  rcases h with ⟨h, _⟩ | ⟨g', cap', hv, hbs, hg, hc, hm, hcell, hsp⟩
  · cases h
  · injection hv with e1 e2 e3
    injection e1 with e1
    injection e1 with e1
    subst e1 e2 e3
    exact ⟨hcell j hj, (hsp j (by omega)).2⟩

/-- A new box that a hash was stored in. -/
theorem box_made {w1 W : World} {C : Array Value} (h : W = (w1.alloc (.cells (hc fun _ => 0) 33)).setRow w1.heap.size C) : W.heap[w1.heap.size]? = some (.cells C 33 (0, 0)) ∧ Below w1.heap.size w1 W := by
  rw [h]
  exact ⟨setRow_heap _ _ _ _ _ _ (heap_alloc_new w1 _), below_setRow ((Below.refl _ _).alloc (Nat.le_refl _) _) (Nat.le_refl _) C⟩
theorem Fr.mono {w : World} {base base' : Nat} {v : Value} {l : List Nat} (h : Fr w base v l) (hb : base' ≤ base) : Fr w base' v l := by
  rcases h with h | ⟨g, cap, hv, hbs, rest⟩
  · exact .inl h
  · exact .inr ⟨g, cap, hv, Nat.le_trans hb hbs, rest⟩
theorem Fr.rdAt {w : World} {base g n cap : Nat} {l : List Nat} (h : Fr w base (.slice (some ⟨g, 0, none⟩) n cap) l) : Bs w w.heap.size (some ⟨g, 0, none⟩) l ∧ n = l.length := by
  obtain ⟨A, c, e, hb, _⟩ := h.rd
  injection e with e1 e2 e3
  subst e1 e2 e3
  exact ⟨hb, rfl⟩
/-- A key as it is used: one that is too long by its digest. -/
def keyN (k : List Nat) : List Nat := if 64 < k.length then hl (sumH k) else k
/-- A key, changed by x, in sixty-four bytes. -/
def xorK (k : List Nat) (x : Nat) : List Nat := (List.range 64).map fun i => x ^^^ (k[i]?.getD 0)
/-- The same, where the first n places are done. -/
def xk (k : List Nat) (x n : Nat) : List Nat := (List.range 64).map fun i => if i < n then x ^^^ (k[i]?.getD 0) else x
/-- The code of a text by a key. -/
def codeH (k t : List Nat) : Nat → Nat := sumH (xorK (keyN k) 92 ++ hl (sumH (xorK (keyN k) 54 ++ t)))
theorem xorK_len (k : List Nat) (x : Nat) : (xorK k x).length = 64 := by simp [xorK]
theorem xk_len (k : List Nat) (x n : Nat) : (xk k x n).length = 64 := by simp [xk]
theorem xk_zero (k : List Nat) (x : Nat) : xk k x 0 = List.replicate 64 x := by
  unfold xk
  refine List.ext_getElem (by simp) fun i h1 h2 => ?_
  rw [List.getElem_replicate, List.getElem_map, if_neg (Nat.not_lt_zero _)]
theorem xk_all (k : List Nat) (x : Nat) : xk k x k.length = xorK k x := by
  unfold xk xorK
  refine List.map_congr_left fun i _ => ?_
  by_cases h : i < k.length
  · rw [if_pos h]
  · rw [if_neg h, List.getElem?_eq_none (by omega)]; simp
theorem xk_set (k : List Nat) (x n : Nat) : (xk k x n).set n (x ^^^ (k[n]?.getD 0)) = xk k x (n + 1) := by
  unfold xk
  refine List.ext_getElem (by simp) fun i h1 h2 => ?_
  rw [List.getElem_set]
  simp only [List.getElem_map, List.getElem_range]
  by_cases h : n = i
  · subst h; rw [if_pos rfl, if_pos (by omega)]
  · rw [if_neg h]
    by_cases h2 : i < n
    · rw [if_pos h2, if_pos (by omega)]
    · rw [if_neg h2, if_neg (by omega)]
theorem xk_at (k : List Nat) (x n : Nat) (h : n < 64) : (xk k x n)[n]?.getD 0 = x := by unfold xk; simp [h]
theorem xor256 {a b : Nat} (h1 : a < 256) (h2 : b < 256) : a ^^^ b < 256 := Nat.xor_lt_two_pow (n := 8) h1 h2
theorem xorK_byt {k : List Nat} (h : Byt k) {x : Nat} (hx : x < 256) : Byt (xorK k x) := by
  intro y hy
  obtain ⟨i, -, rfl⟩ := List.mem_map.1 hy
  exact xor256 hx (h.at_ i)
theorem keyN_len (k : List Nat) : (keyN k).length ≤ 64 := by
  unfold keyN
  split
  · rw [hl_len]; omega
  · omega
theorem keyN_byt {k : List Nat} (h : Byt k) : Byt (keyN k) := by
  unfold keyN; split
  · exact hl_byt (sumH_lt k)
  · exact h
set_option maxRecDepth 100000 in
set_option maxHeartbeats 8000000 in
theorem code_any (A A2 : Option Addr) (c c2 : Nat) (k t : List Nat) (w : World) (hk : Bs w w.heap.size A k) (ht : Bs w w.heap.size A2 t) (hbk : Byt k) (hbt : Byt t) (hlk : k.length ≤ 800000) (hlt : t.length ≤ 800000) :
    Calls Try.prog 30 #[.slice A k.length c, .slice A2 t.length c2] w fun e w' => e = .returned (.agg (hc (codeH k t))) ∧ Below w.heap.size w w' := by
  have HKB := Lib.hid hk
  have HTB := Lib.hid ht
  have HBK := Lib.hid hbk
  have HBT := Lib.hid hbt
  obtain ⟨n, hn⟩ : ∃ n, n = k.length := ⟨_, rfl⟩
  obtain ⟨m, hm⟩ : ∃ m, m = t.length := ⟨_, rfl⟩
  rw [← hn] at hlk ⊢
  rw [← hm] at hlt ⊢
  have HN := Lib.hid hn
  have HM := Lib.hid hm
  have TB0 := Lib.hid ht
  clear hk ht hbk hbt hn hm HTB
  by_cases h64 : 64 < n
  · go_enter Try.func30, Try.ntmps30
    go_upto_region 2 with (fail)
    obtain ⟨W0, hW0⟩ : ∃ W0, W0 = w.alloc (.cells (hc fun _ => 0) 33) := ⟨_, rfl⟩
    change Code.wp _ _ _ _ (w.alloc (.cells (hc fun _ => 0) 33))
    rw [← hW0]
    have HS0 := Lib.hid (show W0.heap.size = w.heap.size + 1 from by rw [hW0]; simp)
    have HB0 := Lib.hid (show Below w.heap.size w W0 from by rw [hW0]; exact (by repeat (first | exact Below.refl _ _ | assumption | refine below_drewN ?_ _ | refine Below.drew ?_ | refine Below.alloc ?_ (by simp; try omega) _ | refine Below.setCell ?_ (by simp; try omega) _)))
    have HO0 := Lib.hid (show W0.heap[w.heap.size]? = some (.cells (hc fun _ => 0) 33 (0, 0)) from by rw [hW0]; exact heap_alloc_new w _)
    clear hW0
    refine wp_region_list ?_
    repeat (first | go_values | go_skip | go_guarded | go_step | go_upon)
    refine (sum_any _ _ [.slice A n c] [k] _ (by have h := Prt.one (t := 31) (c := c) (Bs.next HKB.out HB0.out) HBK.out; rw [← HN.out] at h; exact h) (Nat.le_refl _) (by simp) (by simp; have := HN.out; omega)).mono ?_
    rintro e w1 ⟨rfl, hb1⟩
    obtain ⟨C1, hC1⟩ : ∃ C, C = hc (sumH k) := ⟨_, rfl⟩
    rw [show hc (sumH [k].flatten) = C1 from by rw [hC1]; simp]
    have HC1s := Lib.hid (show (Try.prog.info? 33).map (·.size) = some C1.size from by rw [hC1]; exact size_hc)
    have HC1a := Lib.hid (show C1.all (·.oneCell') = true from by rw [hC1]; exact hc_all _)
    have HC1z := Lib.hid (show (hc fun _ => 0).size = C1.size from by rw [hC1, hc_size, hc_size])
    have HC1 := Lib.hid hC1
    have HB1 := Lib.hid (show Below W0.heap.size W0 w1 from below_chain ((Below.refl _ _).alloc (Nat.le_refl _) _) hb1)
    clear hC1 hb1
    dsimp only
    repeat (first
      | refine wpList_store_row (by rfl) 33 (.tmp 5) (.tmp 16) (by rfl) w1.heap.size C1 (by rfl) (by rfl) 33 (hc fun _ => 0) (by exact heap_alloc_new w1 _) HC1s.out HC1z.out HC1a.out ?_
      | go_values | go_skip | go_guarded | go_step | go_upon)
    obtain ⟨W2, hW2⟩ : ∃ W, W = (w1.alloc (.cells (hc fun _ => 0) 33)).setRow w1.heap.size C1 := ⟨_, rfl⟩
    change Calls _ _ _ (((w1.alloc (.cells (hc fun _ => 0) 33)).setRow w1.heap.size C1).alloc (.cells #[.int .u8 54] 5)) _
    rw [← hW2]
    have HBX := Lib.hid (box_made hW2).1
    have HB2 := Lib.hid (show Below W0.heap.size W0 W2 from below_chain HB1.out (box_made hW2).2)
    have hsz2 : W2.heap.size = w1.heap.size + 1 := by rw [hW2]; simp [World.setRow]
    obtain ⟨g5, hg5⟩ : ∃ g, g = w1.heap.size := ⟨_, rfl⟩
    rw [← hg5] at HBX hsz2 ⊢
    have HSZ2 := Lib.hid hsz2
    clear hW2 hg5 hsz2 HB1
    obtain ⟨p54, hp54⟩ : ∃ p, p = g5 + 1 := ⟨_, rfl⟩
    rw [← hp54]
    have HP54 := Lib.hid (show p54 = W2.heap.size from by rw [hp54, HSZ2.out])
    have HKK0 := Lib.hid (show Bs W2 W2.heap.size (some ⟨g5, 0, none⟩) (keyN k) from by
      unfold keyN
      rw [if_pos (by rw [← HN.out]; exact h64)]
      exact Bs.box (by rw [← HC1.out]; exact HBX.out) (by rw [HSZ2.out]; omega))
    have hk32 : (keyN k).length = 32 := by unfold keyN; rw [if_pos (by rw [← HN.out]; exact h64), hl_len]
    obtain ⟨Ak, nk, ck, hE, hnk, HKK1⟩ : ∃ Ak nk ck, Value.slice (some ⟨g5, 0, none⟩) 32 32 = Value.slice Ak nk ck ∧ nk = (keyN k).length ∧ Hid (Bs W2 W2.heap.size Ak (keyN k)) := ⟨_, _, _, rfl, hk32.symm, HKK0⟩
    rw [hE]
    clear hE hk32 hp54 HKK0 HBX HSZ2 HC1 HC1s HC1a HC1z
    obtain ⟨kk, hkk⟩ : ∃ kk, kk = keyN k := ⟨_, rfl⟩
    rw [← hkk] at hnk HKK1
    have hnk64 : nk ≤ 64 := by rw [hnk, hkk]; exact keyN_len k
    have HYK := Lib.hid (show Byt kk from by rw [hkk]; exact keyN_byt HBK.out)
    have HNK := Lib.hid hnk
    have HEK := Lib.hid hkk
    have HKK := HKK1
    clear hnk hkk HKK1
    refine (repeat_any p54 0 1 54 _ (by rw [HP54.out]; exact cell_of_one (heap_alloc_new W2 _))).mono ?_
    rintro e w3 ⟨v1, rfl, hf1, hb1⟩
    obtain ⟨g1, c1, rfl, hg1, hl1, -, -⟩ := hf1.form (by simp)
    rw [List.length_replicate] at hf1 ⊢
    rw [World.size_alloc] at hf1 hg1
    have HB3 := Lib.hid (show Below W2.heap.size W2 w3 from below_chain ((Below.refl _ _).alloc (Nat.le_refl _) _) hb1)
    have HF1 := Lib.hid hf1
    clear hf1 hb1
    go_wp2_with fail
    refine (repeat_any w3.heap.size 0 1 92 _ (by exact cell_of_one (heap_alloc_new w3 _))).mono ?_
    rintro e w4 ⟨v2, rfl, hf2, hb2⟩
    obtain ⟨g2, c4, rfl, hg2, hl2, -, -⟩ := hf2.form (by simp)
    rw [List.length_replicate] at hf2 ⊢
    rw [World.size_alloc] at hf2 hg2
    have HB34 := Lib.hid (show Below w3.heap.size w3 w4 from below_chain ((Below.refl _ _).alloc (Nat.le_refl _) _) hb2)
    have hne : g1 ≠ g2 := by omega
    have hw3 := HB3.out.size
    have hw34 := HB34.out.size
    have HB4 := Lib.hid (show Below W2.heap.size W2 w4 from below_chain HB3.out HB34.out)
    obtain ⟨B0, hB0⟩ : ∃ B, B = W2.heap.size := ⟨_, rfl⟩
    have HF1' := Lib.hid (show Fr w4 B0 (.slice (some ⟨g1, 0, none⟩) 64 c1) (xk kk 54 0) from by rw [xk_zero]; exact (Fr.below HF1.out HB34.out).mono (by omega))
    have HF2' := Lib.hid (show Fr w4 B0 (.slice (some ⟨g2, 0, none⟩) 64 c4) (xk kk 92 0) from by rw [xk_zero]; exact hf2.mono (by omega))
    have hg1B : B0 ≤ g1 := by omega
    have hg2B : B0 ≤ g2 := by omega
    have hB2 := HB2.out.size
    rw [← hB0] at hB2
    have HBZ := Lib.hid hB0
    have HB4' := Lib.hid (show Below B0 W2 w4 from by rw [hB0]; exact HB4.out)
    have HRK := Lib.hid (show Bs W2 B0 Ak kk from by rw [hB0]; exact HKK.out)
    clear hf2 hb2 hB0 HB3 HB34 HF1 hw3 hw34
    go_wp2_with fail
    go_loopw [24] (fun i wr => ∃ q : Nat, i = .int .i64 (q : Int) ∧ q ≤ nk ∧ Fr wr B0 (.slice (some ⟨g1, 0, none⟩) 64 c1) (xk kk 54 q) ∧ Fr wr B0 (.slice (some ⟨g2, 0, none⟩) 64 c4) (xk kk 92 q) ∧ Below B0 W2 wr) (fun i _ => (nk - intOf i).toNat)
    case atStart => exact ⟨0, rfl, Nat.zero_le _, HF1'.out, HF2'.out, HB4'.out⟩
    case round =>
      obtain ⟨q, rfl, hq, hf1, hf2, hb⟩ := hrel
      have HF1 := Lib.hid hf1
      have HF2 := Lib.hid hf2
      have HBR := Lib.hid hb
      clear hf1 hf2 hb
      by_cases hqn : q < nk
      · obtain ⟨bk, ok, rfl, hbk, hck⟩ := HRK.out (by rw [← HNK.out]; omega)
        obtain ⟨x, hx⟩ : ∃ x, x = kk[q]?.getD 0 := ⟨_, rfl⟩
        have hx256 : x < 256 := by rw [hx]; exact HYK.out.at_ q
        have d0 : wr.cell? ⟨bk, ok + q, none⟩ = some (.int .u8 (x : Int)) := by rw [HBR.out.cell (p := ⟨bk, ok + q, none⟩) hbk, hck q (by rw [← HNK.out]; omega), hx]; rfl
        have d1 := (HF1.out.cellAt (j := q) (by rw [xk_len]; omega)).1
        have d2 := (HF1.out.cellAt (j := q) (by rw [xk_len]; omega)).2
        have d3 := (HF2.out.cellAt (j := q) (by rw [xk_len]; omega)).1
        have d4 := (HF2.out.cellAt (j := q) (by rw [xk_len]; omega)).2
        unfold bf at d1 d3
        rw [xk_at kk _ q (by omega)] at d1 d3
        have e1 : bits BinOp.xor IntKind.u8 54 (x : Int) = ((54 ^^^ x : Nat) : Int) := u8_xor_nat 54 x (by omega) hx256
        have e2 : bits BinOp.xor IntKind.u8 92 (x : Int) = ((92 ^^^ x : Nat) : Int) := u8_xor_nat 92 x (by omega) hx256
        have hq64 : (q : Int) < 64 := by omega
        have HX := Lib.hid hx
        clear hck hx
        go_wp2_with fail
        go_roundw
        case rel =>
          refine ⟨q + 1, by go_num, by omega, ?_, ?_, ?_⟩
          · rw [← xk_set, ← HX.out]
            exact (HF1.out.set q (54 ^^^ x) (by rw [xk_len]; omega)).far (p := ⟨g2, q, none⟩) hne _
          · rw [← xk_set, ← HX.out]
            exact (HF2.out.far (p := ⟨g1, q, none⟩) (fun e => hne e.symm) _).set q (92 ^^^ x) (by rw [xk_len]; omega)
          · exact (HBR.out.setCell (p := ⟨g1, q, none⟩) hg1B _).setCell (p := ⟨g2, q, none⟩) hg2B _
        case measure => simp [intOf]; omega
      · obtain rfl : q = nk := by omega
        have HI := Lib.hid (show Fr wr B0 (.slice (some ⟨g1, 0, none⟩) 64 c1) (xorK kk 54) from by rw [← xk_all, ← HNK.out]; exact HF1.out)
        have HU := Lib.hid (show Fr wr B0 (.slice (some ⟨g2, 0, none⟩) 64 c4) (xorK kk 92) from by rw [← xk_all, ← HNK.out]; exact HF2.out)
        have HT := Lib.hid (show Bs wr wr.heap.size A2 t from by
          have h1 := Bs.next (Bs.next TB0.out HB0.out) (below_chain HB2.out (by rw [← HBZ.out]; exact HBR.out))
          exact h1)
        clear HF1 HF2
        obtain ⟨W5, hW5⟩ : ∃ W5, W5 = wr := ⟨_, rfl⟩
        subst hW5
        go_upto_region 11 with (fail)
        refine wp_region_list ?_
        repeat (first | go_values | go_skip | go_guarded | go_step | go_upon)
        refine (sum_any _ _ [.slice (some ⟨g1, 0, none⟩) 64 c1, .slice A2 m c2] [xorK kk 54, t] _ (by have h := Prt.two (t := 31) (c := c1) (c2 := c2) (HI.out.rdAt).1 (xorK_byt HYK.out (by omega)) HT.out HBT.out; rw [xorK_len, ← HM.out] at h; exact h) (Nat.le_refl _) (by simp) (by simp [xorK_len]; have := HM.out; omega)).mono ?_
        rintro e w5 ⟨rfl, hb5⟩
        obtain ⟨H1, hH1⟩ : ∃ h, h = sumH (xorK kk 54 ++ t) := ⟨_, rfl⟩
        obtain ⟨C1, hC1⟩ : ∃ C, C = hc H1 := ⟨_, rfl⟩
        rw [show hc (sumH [xorK kk 54, t].flatten) = C1 from by rw [hC1, hH1]; simp]
        have HC1s := Lib.hid (show (Try.prog.info? 33).map (·.size) = some C1.size from by rw [hC1]; exact size_hc)
        have HC1a := Lib.hid (show C1.all (·.oneCell') = true from by rw [hC1]; exact hc_all _)
        have HC1z := Lib.hid (show (hc fun _ => 0).size = C1.size from by rw [hC1, hc_size, hc_size])
        have HC1 := Lib.hid hC1
        have HH1 := Lib.hid hH1
        have HB5 := Lib.hid (show Below W5.heap.size W5 w5 from below_chain ((Below.refl _ _).alloc (Nat.le_refl _) _) hb5)
        clear hC1 hH1 hb5
        dsimp only
        repeat (first
          | refine wpList_store_row (by rfl) 33 (.tmp 10) (.tmp 47) (by rfl) w5.heap.size C1 (by rfl) (by rfl) 33 (hc fun _ => 0) (by exact heap_alloc_new w5 _) HC1s.out HC1z.out HC1a.out ?_
          | go_values | go_skip | go_guarded | go_step | go_upon)
        obtain ⟨W6, hW6⟩ : ∃ W, W = (w5.alloc (.cells (hc fun _ => 0) 33)).setRow w5.heap.size C1 := ⟨_, rfl⟩
        change Calls _ _ _ (((w5.alloc (.cells (hc fun _ => 0) 33)).setRow w5.heap.size C1).alloc (.cells #[.slice (some ⟨g2, 0, none⟩) 64 c4, .slice (some ⟨w5.heap.size, 0, none⟩) 32 32] 31)) _
        have hsz6 : w5.heap.size + 1 = W6.heap.size := by rw [hW6]; simp [World.setRow]
        rw [← hW6, hsz6]
        have HX6 := Lib.hid (show Bs W6 W6.heap.size (some ⟨w5.heap.size, 0, none⟩) (hl H1) from Bs.box (by rw [← HC1.out]; exact (box_made hW6).1) (by omega))
        have HB6 := Lib.hid (show Below W5.heap.size W5 W6 from below_chain HB5.out (box_made hW6).2)
        have HU6 := Lib.hid (HU.out.below HB6.out)
        have HH1b := Lib.hid (show Byt (hl H1) from by rw [HH1.out]; exact hl_byt (sumH_lt _))
        have HBW := Lib.hid (show Below W0.heap.size W0 W6 from below_chain (below_chain HB2.out (by rw [← HBZ.out]; exact HBR.out)) HB6.out)
        clear hW6 hsz6 HC1 HC1s HC1a HC1z HB5
        refine (sum_any _ _ [.slice (some ⟨g2, 0, none⟩) 64 c4, .slice (some ⟨w5.heap.size, 0, none⟩) 32 32] [xorK kk 92, hl H1] _ (by have h := Prt.two (t := 31) (c := c4) (c2 := 32) (HU6.out.rdAt).1 (xorK_byt HYK.out (by omega)) HX6.out HH1b.out; rw [xorK_len, hl_len] at h; exact h) (Nat.le_refl _) (by simp) (by simp [xorK_len, hl_len])).mono ?_
        rintro e w7 ⟨rfl, hb7⟩
        obtain ⟨C2, hC2⟩ : ∃ C, C = hc (sumH (xorK kk 92 ++ hl H1)) := ⟨_, rfl⟩
        rw [show hc (sumH [xorK kk 92, hl H1].flatten) = C2 from by rw [hC2]; simp]
        have HC2s := Lib.hid (show (Try.prog.info? 33).map (·.size) = some C2.size from by rw [hC2]; exact size_hc)
        have HC2a := Lib.hid (show C2.all (·.oneCell') = true from by rw [hC2]; exact hc_all _)
        have HC2z := Lib.hid (show (hc fun _ => 0).size = C2.size from by rw [hC2, hc_size, hc_size])
        have HFIN := Lib.hid (show hc (codeH k t) = C2 from by rw [hC2]; unfold codeH; rw [← HEK.out, ← HH1.out])
        have HB7 := Lib.hid (show Below W0.heap.size W0 w7 from below_chain HBW.out (below_chain ((Below.refl _ _).alloc (Nat.le_refl _) _) hb7))
        have HO7 := Lib.hid (show w7.heap[w.heap.size]? = some (.cells (hc fun _ => 0) 33 (0, 0)) from by rw [HB7.out.block _ (by rw [HS0.out]; omega)]; exact HO0.out)
        clear hC2 hb7
        dsimp only
        repeat (first
          | refine wpList_store_row (by rfl) 33 (.tmp 4) (.tmp 51) (by rfl) w.heap.size C2 (by rfl) (by rfl) 33 (hc fun _ => 0) HO7.out HC2s.out HC2z.out HC2a.out ?_
          | go_values | go_skip | go_guarded | go_step | go_upon)
        exact bodyPost_ret (v := .agg C2) (results_cell_row (by rfl) _ _ w.heap.size 33 _ (0, 0) _ (by rfl) (setRow_heap _ _ _ _ _ _ HO7.out) Try.underlying33 (by rfl) HC2s.out) rfl ⟨by rw [HFIN.out], below_setRow (HB0.out.trans (HB7.out.mono (by rw [HS0.out]; omega))) (Nat.le_refl _) C2⟩
  · go_enter Try.func30, Try.ntmps30
    go_wp2_with fail
    obtain ⟨W0, hW0⟩ : ∃ W0, W0 = w.alloc (.cells (hc fun _ => 0) 33) := ⟨_, rfl⟩
    change Calls _ _ _ ((w.alloc (.cells (hc fun _ => 0) 33)).alloc (.cells #[.int .u8 54] 5)) _
    rw [← hW0]
    have HS0 := Lib.hid (show W0.heap.size = w.heap.size + 1 from by rw [hW0]; simp)
    have HB0 := Lib.hid (show Below w.heap.size w W0 from by rw [hW0]; exact (by repeat (first | exact Below.refl _ _ | assumption | refine below_drewN ?_ _ | refine Below.drew ?_ | refine Below.alloc ?_ (by simp; try omega) _ | refine Below.setCell ?_ (by simp; try omega) _)))
    have HO0 := Lib.hid (show W0.heap[w.heap.size]? = some (.cells (hc fun _ => 0) 33 (0, 0)) from by rw [hW0]; exact heap_alloc_new w _)
    clear hW0
    obtain ⟨p54, hp54⟩ : ∃ p, p = w.heap.size + 1 := ⟨_, rfl⟩
    rw [← hp54]
    obtain ⟨W2, hW2⟩ : ∃ W, W = W0 := ⟨_, rfl⟩
    rw [← hW2]
    have HP54 := Lib.hid (show p54 = W2.heap.size from by rw [hp54, hW2, HS0.out])
    have HB2 := Lib.hid (show Below W0.heap.size W0 W2 from by rw [hW2]; exact Below.refl _ _)
    have hkk : keyN k = k := by unfold keyN; rw [if_neg (by rw [← HN.out]; exact h64)]
    obtain ⟨Ak, nk, ck, hE, hnk, HKK1⟩ : ∃ Ak nk ck, Value.slice A n c = Value.slice Ak nk ck ∧ nk = (keyN k).length ∧ Hid (Bs W2 W2.heap.size Ak (keyN k)) := ⟨_, _, _, rfl, by rw [hkk]; exact HN.out, by rw [hkk, hW2]; exact Lib.hid (Bs.next HKB.out HB0.out)⟩
    rw [hE]
    clear hE hkk hp54 hW2
    obtain ⟨kk, hkk⟩ : ∃ kk, kk = keyN k := ⟨_, rfl⟩
    rw [← hkk] at hnk HKK1
    have hnk64 : nk ≤ 64 := by rw [hnk, hkk]; exact keyN_len k
    have HYK := Lib.hid (show Byt kk from by rw [hkk]; exact keyN_byt HBK.out)
    have HNK := Lib.hid hnk
    have HEK := Lib.hid hkk
    have HKK := HKK1
    clear hnk hkk HKK1
    refine (repeat_any p54 0 1 54 _ (by rw [HP54.out]; exact cell_of_one (heap_alloc_new W2 _))).mono ?_
    rintro e w3 ⟨v1, rfl, hf1, hb1⟩
    obtain ⟨g1, c1, rfl, hg1, hl1, -, -⟩ := hf1.form (by simp)
    rw [List.length_replicate] at hf1 ⊢
    rw [World.size_alloc] at hf1 hg1
    have HB3 := Lib.hid (show Below W2.heap.size W2 w3 from below_chain ((Below.refl _ _).alloc (Nat.le_refl _) _) hb1)
    have HF1 := Lib.hid hf1
    clear hf1 hb1
    go_wp2_with fail
    refine (repeat_any w3.heap.size 0 1 92 _ (by exact cell_of_one (heap_alloc_new w3 _))).mono ?_
    rintro e w4 ⟨v2, rfl, hf2, hb2⟩
    obtain ⟨g2, c4, rfl, hg2, hl2, -, -⟩ := hf2.form (by simp)
    rw [List.length_replicate] at hf2 ⊢
    rw [World.size_alloc] at hf2 hg2
    have HB34 := Lib.hid (show Below w3.heap.size w3 w4 from below_chain ((Below.refl _ _).alloc (Nat.le_refl _) _) hb2)
    have hne : g1 ≠ g2 := by omega
    have hw3 := HB3.out.size
    have hw34 := HB34.out.size
    have HB4 := Lib.hid (show Below W2.heap.size W2 w4 from below_chain HB3.out HB34.out)
    obtain ⟨B0, hB0⟩ : ∃ B, B = W2.heap.size := ⟨_, rfl⟩
    have HF1' := Lib.hid (show Fr w4 B0 (.slice (some ⟨g1, 0, none⟩) 64 c1) (xk kk 54 0) from by rw [xk_zero]; exact (Fr.below HF1.out HB34.out).mono (by omega))
    have HF2' := Lib.hid (show Fr w4 B0 (.slice (some ⟨g2, 0, none⟩) 64 c4) (xk kk 92 0) from by rw [xk_zero]; exact hf2.mono (by omega))
    have hg1B : B0 ≤ g1 := by omega
    have hg2B : B0 ≤ g2 := by omega
    have hB2 := HB2.out.size
    rw [← hB0] at hB2
    have HBZ := Lib.hid hB0
    have HB4' := Lib.hid (show Below B0 W2 w4 from by rw [hB0]; exact HB4.out)
    have HRK := Lib.hid (show Bs W2 B0 Ak kk from by rw [hB0]; exact HKK.out)
    clear hf2 hb2 hB0 HB3 HB34 HF1 hw3 hw34
    go_wp2_with fail
    go_loopw [24] (fun i wr => ∃ q : Nat, i = .int .i64 (q : Int) ∧ q ≤ nk ∧ Fr wr B0 (.slice (some ⟨g1, 0, none⟩) 64 c1) (xk kk 54 q) ∧ Fr wr B0 (.slice (some ⟨g2, 0, none⟩) 64 c4) (xk kk 92 q) ∧ Below B0 W2 wr) (fun i _ => (nk - intOf i).toNat)
    case atStart => exact ⟨0, rfl, Nat.zero_le _, HF1'.out, HF2'.out, HB4'.out⟩
    case round =>
      obtain ⟨q, rfl, hq, hf1, hf2, hb⟩ := hrel
      have HF1 := Lib.hid hf1
      have HF2 := Lib.hid hf2
      have HBR := Lib.hid hb
      clear hf1 hf2 hb
      by_cases hqn : q < nk
      · obtain ⟨bk, ok, rfl, hbk, hck⟩ := HRK.out (by rw [← HNK.out]; omega)
        obtain ⟨x, hx⟩ : ∃ x, x = kk[q]?.getD 0 := ⟨_, rfl⟩
        have hx256 : x < 256 := by rw [hx]; exact HYK.out.at_ q
        have d0 : wr.cell? ⟨bk, ok + q, none⟩ = some (.int .u8 (x : Int)) := by rw [HBR.out.cell (p := ⟨bk, ok + q, none⟩) hbk, hck q (by rw [← HNK.out]; omega), hx]; rfl
        have d1 := (HF1.out.cellAt (j := q) (by rw [xk_len]; omega)).1
        have d2 := (HF1.out.cellAt (j := q) (by rw [xk_len]; omega)).2
        have d3 := (HF2.out.cellAt (j := q) (by rw [xk_len]; omega)).1
        have d4 := (HF2.out.cellAt (j := q) (by rw [xk_len]; omega)).2
        unfold bf at d1 d3
        rw [xk_at kk _ q (by omega)] at d1 d3
        have e1 : bits BinOp.xor IntKind.u8 54 (x : Int) = ((54 ^^^ x : Nat) : Int) := u8_xor_nat 54 x (by omega) hx256
        have e2 : bits BinOp.xor IntKind.u8 92 (x : Int) = ((92 ^^^ x : Nat) : Int) := u8_xor_nat 92 x (by omega) hx256
        have hq64 : (q : Int) < 64 := by omega
        have HX := Lib.hid hx
        clear hck hx
        go_wp2_with fail
        go_roundw
        case rel =>
          refine ⟨q + 1, by go_num, by omega, ?_, ?_, ?_⟩
          · rw [← xk_set, ← HX.out]
            exact (HF1.out.set q (54 ^^^ x) (by rw [xk_len]; omega)).far (p := ⟨g2, q, none⟩) hne _
          · rw [← xk_set, ← HX.out]
            exact (HF2.out.far (p := ⟨g1, q, none⟩) (fun e => hne e.symm) _).set q (92 ^^^ x) (by rw [xk_len]; omega)
          · exact (HBR.out.setCell (p := ⟨g1, q, none⟩) hg1B _).setCell (p := ⟨g2, q, none⟩) hg2B _
        case measure => simp [intOf]; omega
      · obtain rfl : q = nk := by omega
        have HI := Lib.hid (show Fr wr B0 (.slice (some ⟨g1, 0, none⟩) 64 c1) (xorK kk 54) from by rw [← xk_all, ← HNK.out]; exact HF1.out)
        have HU := Lib.hid (show Fr wr B0 (.slice (some ⟨g2, 0, none⟩) 64 c4) (xorK kk 92) from by rw [← xk_all, ← HNK.out]; exact HF2.out)
        have HT := Lib.hid (show Bs wr wr.heap.size A2 t from by
          have h1 := Bs.next (Bs.next TB0.out HB0.out) (below_chain HB2.out (by rw [← HBZ.out]; exact HBR.out))
          exact h1)
        clear HF1 HF2
        obtain ⟨W5, hW5⟩ : ∃ W5, W5 = wr := ⟨_, rfl⟩
        subst hW5
        go_upto_region 11 with (fail)
        refine wp_region_list ?_
        repeat (first | go_values | go_skip | go_guarded | go_step | go_upon)
        refine (sum_any _ _ [.slice (some ⟨g1, 0, none⟩) 64 c1, .slice A2 m c2] [xorK kk 54, t] _ (by have h := Prt.two (t := 31) (c := c1) (c2 := c2) (HI.out.rdAt).1 (xorK_byt HYK.out (by omega)) HT.out HBT.out; rw [xorK_len, ← HM.out] at h; exact h) (Nat.le_refl _) (by simp) (by simp [xorK_len]; have := HM.out; omega)).mono ?_
        rintro e w5 ⟨rfl, hb5⟩
        obtain ⟨H1, hH1⟩ : ∃ h, h = sumH (xorK kk 54 ++ t) := ⟨_, rfl⟩
        obtain ⟨C1, hC1⟩ : ∃ C, C = hc H1 := ⟨_, rfl⟩
        rw [show hc (sumH [xorK kk 54, t].flatten) = C1 from by rw [hC1, hH1]; simp]
        have HC1s := Lib.hid (show (Try.prog.info? 33).map (·.size) = some C1.size from by rw [hC1]; exact size_hc)
        have HC1a := Lib.hid (show C1.all (·.oneCell') = true from by rw [hC1]; exact hc_all _)
        have HC1z := Lib.hid (show (hc fun _ => 0).size = C1.size from by rw [hC1, hc_size, hc_size])
        have HC1 := Lib.hid hC1
        have HH1 := Lib.hid hH1
        have HB5 := Lib.hid (show Below W5.heap.size W5 w5 from below_chain ((Below.refl _ _).alloc (Nat.le_refl _) _) hb5)
        clear hC1 hH1 hb5
        dsimp only
        repeat (first
          | refine wpList_store_row (by rfl) 33 (.tmp 10) (.tmp 47) (by rfl) w5.heap.size C1 (by rfl) (by rfl) 33 (hc fun _ => 0) (by exact heap_alloc_new w5 _) HC1s.out HC1z.out HC1a.out ?_
          | go_values | go_skip | go_guarded | go_step | go_upon)
        obtain ⟨W6, hW6⟩ : ∃ W, W = (w5.alloc (.cells (hc fun _ => 0) 33)).setRow w5.heap.size C1 := ⟨_, rfl⟩
        change Calls _ _ _ (((w5.alloc (.cells (hc fun _ => 0) 33)).setRow w5.heap.size C1).alloc (.cells #[.slice (some ⟨g2, 0, none⟩) 64 c4, .slice (some ⟨w5.heap.size, 0, none⟩) 32 32] 31)) _
        have hsz6 : w5.heap.size + 1 = W6.heap.size := by rw [hW6]; simp [World.setRow]
        rw [← hW6, hsz6]
        have HX6 := Lib.hid (show Bs W6 W6.heap.size (some ⟨w5.heap.size, 0, none⟩) (hl H1) from Bs.box (by rw [← HC1.out]; exact (box_made hW6).1) (by omega))
        have HB6 := Lib.hid (show Below W5.heap.size W5 W6 from below_chain HB5.out (box_made hW6).2)
        have HU6 := Lib.hid (HU.out.below HB6.out)
        have HH1b := Lib.hid (show Byt (hl H1) from by rw [HH1.out]; exact hl_byt (sumH_lt _))
        have HBW := Lib.hid (show Below W0.heap.size W0 W6 from below_chain (below_chain HB2.out (by rw [← HBZ.out]; exact HBR.out)) HB6.out)
        clear hW6 hsz6 HC1 HC1s HC1a HC1z HB5
        refine (sum_any _ _ [.slice (some ⟨g2, 0, none⟩) 64 c4, .slice (some ⟨w5.heap.size, 0, none⟩) 32 32] [xorK kk 92, hl H1] _ (by have h := Prt.two (t := 31) (c := c4) (c2 := 32) (HU6.out.rdAt).1 (xorK_byt HYK.out (by omega)) HX6.out HH1b.out; rw [xorK_len, hl_len] at h; exact h) (Nat.le_refl _) (by simp) (by simp [xorK_len, hl_len])).mono ?_
        rintro e w7 ⟨rfl, hb7⟩
        obtain ⟨C2, hC2⟩ : ∃ C, C = hc (sumH (xorK kk 92 ++ hl H1)) := ⟨_, rfl⟩
        rw [show hc (sumH [xorK kk 92, hl H1].flatten) = C2 from by rw [hC2]; simp]
        have HC2s := Lib.hid (show (Try.prog.info? 33).map (·.size) = some C2.size from by rw [hC2]; exact size_hc)
        have HC2a := Lib.hid (show C2.all (·.oneCell') = true from by rw [hC2]; exact hc_all _)
        have HC2z := Lib.hid (show (hc fun _ => 0).size = C2.size from by rw [hC2, hc_size, hc_size])
        have HFIN := Lib.hid (show hc (codeH k t) = C2 from by rw [hC2]; unfold codeH; rw [← HEK.out, ← HH1.out])
        have HB7 := Lib.hid (show Below W0.heap.size W0 w7 from below_chain HBW.out (below_chain ((Below.refl _ _).alloc (Nat.le_refl _) _) hb7))
        have HO7 := Lib.hid (show w7.heap[w.heap.size]? = some (.cells (hc fun _ => 0) 33 (0, 0)) from by rw [HB7.out.block _ (by rw [HS0.out]; omega)]; exact HO0.out)
        clear hC2 hb7
        dsimp only
        repeat (first
          | refine wpList_store_row (by rfl) 33 (.tmp 4) (.tmp 51) (by rfl) w.heap.size C2 (by rfl) (by rfl) 33 (hc fun _ => 0) HO7.out HC2s.out HC2z.out HC2a.out ?_
          | go_values | go_skip | go_guarded | go_step | go_upon)
        exact bodyPost_ret (v := .agg C2) (results_cell_row (by rfl) _ _ w.heap.size 33 _ (0, 0) _ (by rfl) (setRow_heap _ _ _ _ _ _ HO7.out) Try.underlying33 (by rfl) HC2s.out) rfl ⟨by rw [HFIN.out], below_setRow (HB0.out.trans (HB7.out.mono (by rw [HS0.out]; omega))) (Nat.le_refl _) C2⟩
end Go.Proofs.Ytmpbimechgelfaa
