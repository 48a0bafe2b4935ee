/- TransferEnds holds: a node that asks again and again has all in the end, and it is the image. Conditions: none. -/
import Derived.Test.YtmpbimechgelfaaTAwake
import Derived.Test.YtmpbimechgelfaaTOpen
import Derived.Test.YtmpbimechgelfaaEnd
import Derived.Test.YtmpbimechgelfaaWhole
namespace Go.Proofs.Ytmpbimechgelfaa
open Go.ChangeShapes Go.WideShapes Go.ChangeAt Go.RowKit Go.Joins Go.Deep

theorem info_o : (Try.prog.info? 22).map (fun i => (i.zero, i.size, i.bytes)) = some (some (.slice none 0 0), 1, 24) := by kernel_rfl
/-- 'append' of slices of Booleans, at a plain region. -/
theorem wpl_qw {w : World} {ops : Array Oper} {rest : List Oper} {o : Oper} {a : Act} {Q : Exit → Act → World → Prop} (hgd : o.guard = none) (s y : Operand)
    (ho : o.op = .call { callee := .builtin .append, args := #[s, y], argTypes := #[23, 23] }) (hty : o.type = 23) {base B : Nat} {v : Value} {vs us : List Value} (h : Own w base 22 1 v vs.length (vf vs)) (A : Option Addr) (n c : Nat) (hn : n = us.length)
    (hs : a.eval s = v) (hy : a.eval y = .slice A n c) (hr : Rd w B 1 A us.length (vf us)) (hc : A = none → c = 0) (h1 : ∀ j, j < us.length → (vf us j).oneCell' = true) (hlen : vs.length + us.length ≤ 2000000) (hbase : base ≤ w.heap.size)
    (hk : ∀ v' w', Own w' base 22 1 v' (vs ++ us).length (vf (vs ++ us)) → Below base w w' → wpList Try.prog ops Q rest (a.put o.dst v') w') : wpList Try.prog ops Q (o :: rest) a w := by
  obtain ⟨i0, hi0, hz0, hz1, hz2⟩ := info_parts info_o
  subst hn
  obtain ⟨v', w', hrun, h2, h3, _⟩ := run_app (P := Try.prog) w base 23 23 22 i0 _ 1 24 Try.underlying23 hi0 hz0 hz1 hz2 rfl (by omega) v vs.length (vf vs) h B A us.length c (vf us) hr hc (fun j hj => h1 j (by omega)) (by unfold maxLen; omega) (by omega) hbase
  have hbl : Below base w w' := (Below.refl _ _).grown h3 hbase (fun k hk => (Own.block h k hk).1)
  refine wpList_plain hgd fun K hK => ?_
  unfold Oper.wp execOp
  simp only [ho, hty, resolve, invoke, builtin, Sem.run_bind, Sem.run_pure, Result.andThen_ok, List.map_toArray, List.map_cons, List.map_nil, hs, hy, hrun]
  refine hK _ _ (hk v' w' ?_ hbl)
  rw [List.length_append]
  exact Own.congr h2 fun j hj => vf_app vs us j hj
theorem pb_vals {w : World} {B : Nat} {A : Option Addr} {vs : List Value} {ls : List (List Bool)} (h : Pb w B A vs ls) (j : Nat) (hj : j < vs.length) : (vf vs j).oneCell' = true := by
  obtain ⟨A', c, e, _⟩ := h.ok j vs[j] (ls[j]'(by rw [← h.len]; exact hj)) (List.getElem?_eq_getElem hj) (List.getElem?_eq_getElem (by rw [← h.len]; exact hj))
  unfold vf
  rw [List.getElem?_eq_getElem hj, Option.getD_some, e]
  rfl
theorem pb_snoc {w : World} {base : Nat} {A A2 Aa : Option Addr} {n c ca : Nat} {vs : List Value} {ls : List (List Bool)} {La : List Bool} {x : Value} (ho : Own w base 22 1 (.slice A n c) (vs ++ [x]).length (vf (vs ++ [x]))) (hp : Pb w w.heap.size A2 vs ls)
    (ha : Bo w w.heap.size Aa La) (hx : x = .slice Aa La.length ca) (hl : La.length ≤ maxLen) : Pb w w.heap.size A (vs ++ [x]) (ls ++ [La]) where
  len := by simp [hp.len]
  rd := by
    obtain ⟨A', c', e, _⟩ := Own.shape ho
    injection e with e1 e2 e3
    have h := ho
    rw [e2] at h
    have h2 := Own.rd h
    have e4 : (vs ++ [x]).length = (ls ++ [La]).length := by simp [hp.len]
    rw [e4] at h2
    exact h2
  ok := fun j v m hv hm => by
    rw [List.getElem?_append] at hv hm
    by_cases hj : j < vs.length
    · rw [if_pos hj] at hv
      rw [if_pos (by rw [← hp.len]; exact hj)] at hm
      exact hp.ok j v m hv hm
    · rw [if_neg hj] at hv
      rw [if_neg (by rw [← hp.len]; exact hj), ← hp.len] at hm
      obtain ⟨i, hi⟩ : ∃ i, i = j - vs.length := ⟨_, rfl⟩
      rw [← hi] at hv hm
      match i with
      | 0 => simp at hv hm; subst hv hm; exact ⟨Aa, ca, hx, ha, hl⟩
      | i + 1 => simp at hv
theorem bf_rep (n j : Nat) : bf (List.replicate n 0) j = .int .u8 0 := by
  unfold bf
  rw [List.getElem?_replicate]
  split <;> rfl
/-- The slice A, in another block than go, reads as the Booleans L. -/
def Bh (w : World) (go : Nat) (A : Option Addr) (L : List Bool) : Prop := ∃ b off, A = some ⟨b, off, none⟩ ∧ b < w.heap.size ∧ b ≠ go ∧ ∀ j, j < L.length → w.cell? ⟨b, off + j, none⟩ = some (bb L j)
theorem Bh.bo {w : World} {go : Nat} {A : Option Addr} {L : List Bool} (h : Bh w go A L) : Bo w w.heap.size A L := fun _ => by
  obtain ⟨b, off, e, h1, _, h3⟩ := h
  exact ⟨b, off, e, h1, fun j hj => h3 j (by omega)⟩
theorem Bh.next {w w' : World} {go : Nat} {A : Option Addr} {L : List Bool} (h : Bh w go A L) (hb : Below w.heap.size w w') : Bh w' go A L := by
  obtain ⟨b, off, e, h1, h2, h3⟩ := h
  exact ⟨b, off, e, Nat.lt_of_lt_of_le h1 hb.size, h2, fun j hj => (hb.cell (p := ⟨b, off + j, none⟩) h1).trans (h3 j hj)⟩
theorem Bh.set {w : World} {go : Nat} {A : Option Addr} {L : List Bool} (h : Bh w go A L) (q : Nat) (u : Value) : Bh (w.setCell ⟨go, q, none⟩ u) go A L := by
  obtain ⟨b, off, e, h1, h2, h3⟩ := h
  refine ⟨b, off, e, by simpa using h1, h2, fun j hj => ?_⟩
  rw [World.cell?_setCell_other _ _ _ _ (fun e2 => h2 (by cases e2; rfl))]
  exact h3 j hj
theorem bh_of {w : World} {go base : Nat} {v : Value} {L : List Bool} (h : Ol w base v L) (hn : 0 < L.length) (hgo : (base ≤ go → w.heap.size ≤ go) ) : ∃ A c, v = .slice A L.length c ∧ Bh w go A L := by
  obtain ⟨g, c, rfl, hb, hlt, _⟩ := Own.form h hn
  refine ⟨_, c, rfl, g, 0, rfl, hlt, ?_, fun j hj => by rw [Nat.zero_add]; exact Own.cell h j (by omega)⟩
  intro e
  have := hgo (by omega)
  omega
theorem yieldsIf_slice2 {ops : Array Oper} {S : World → Prop} {op : Oper} {a : Act} (hw : Region.wanted op (yielded ops a.tmps) = true) (ty : TypeId) (x lo hi : Operand) (ho : op.op = .slice ty x (some lo) (some hi) none)
    (ht : Try.prog.underlying ty = some (.slice (Try.prog.elem ty))) (v0 v1 v2 v : Value) (hx : a.eval x = v0) (hl : a.eval lo = v1) (hh : a.eval hi = v2) (hrun : ∀ W, (Instr.slice ty v0 (some v1) (some v2) none).run Try.prog W = .ok v W) : YieldsIf Try.prog ops S op v a :=
  .inl ⟨hw, fun w _ => by
    unfold execOp
    simp only [ho, hx, hl, hh, Option.map_some, Option.map_none, Sem.run_bind, Sem.run_pure, Result.andThen_ok, run_sliceAt_slice (h := ht), hrun]⟩
theorem u64_some (x : Int) : ∃ y : Nat, IntKind.u64.wrap x = (y : Int) ∧ y < 18446744073709551616 := by
  rw [IntKind.wrap_u64]
  exact ⟨(x % 18446744073709551616).toNat, by omega, by omega⟩
theorem Pb.nextB {w w' : World} {B : Nat} {A : Option Addr} {vs : List Value} {ls : List (List Bool)} (h : Pb w B A vs ls) (hb : Below B w w') (hB : B ≤ w'.heap.size) : Pb w' w'.heap.size A vs ls :=
  ⟨h.len, (Rd.below h.rd hb).more hB, fun j v l hv hl => by obtain ⟨A', c, e, h', hm⟩ := h.ok j v l hv hl; exact ⟨A', c, e, (Rd.below h' hb).more hB, hm⟩⟩
theorem ob_set {w : World} {base g n cap : Nat} {l : List Nat} (h : Ob w base (.slice (some ⟨g, 0, none⟩) n cap) l) (hn : n = l.length) (k x : Nat) :
    Ob (w.setCell ⟨g, k, none⟩ (.int .u8 (x : Int))) base (.slice (some ⟨g, 0, none⟩) n cap) (l.set k x) := by
  subst hn
  have h2 := (Own.set h k (.int .u8 (x : Int))).1
  unfold Ob
  rw [List.length_set]
  refine Own.congr h2 fun j hj => ?_
  unfold bf
  rw [List.getElem?_set]
  by_cases e : j = k
  · subst e; rw [if_pos rfl, if_pos rfl, if_pos (by omega)]; rfl
  · rw [if_neg e, if_neg (fun h => e h.symm)]
/-- What the loop keeps: n chunks are missing. -/
def EInv (l : List Nat) (k nh n0 go : Nat) (W8 : World) (n : Nat) (Ah : Option Addr) (Lh : List Bool) (w : World) : Prop :=
  Lh.length = nh ∧ missB Lh = n ∧ Bh w go Ah Lh ∧ (∃ Lo, Ob w go (.slice (some ⟨go, 0, none⟩) n0 n0) Lo ∧ EOut l k nh Lh Lo) ∧ Below go W8 w ∧ go < w.heap.size
set_option maxRecDepth 100000 in
set_option maxHeartbeats 8000000 in
theorem transferEnds_walk (w : World) (A0 : Option Addr) (c0 : Nat) (l : List Nat) (hi0 : InB w A0 c0 l) (kI : Int) (_hf : Fit kI) (A2 : Option Addr) (c2 : Nat) (vs : List Value) (ls : List (List Bool)) (hp : Pb w w.heap.size A2 vs ls) (hnn : A2 = none → ls.length = 0 ∧ c2 = 0) (hz : ls.length ≤ c2 ∧ c2 ≤ maxLen)
    (d : Nat) (hd : d < 18446744073709551616) :
    Calls Try.prog 6 #[.slice A0 l.length c0, .int .i64 kI, .slice A2 ls.length c2, .int .u64 (d : Int)] w fun e w' => e = .returned (.bool true) ∧ Below w.heap.size w w' := by
  have hcm0 : l.length ≤ maxLen := Nat.le_trans hi0.cap.1 hi0.cap.2
  have hcm2 : ls.length ≤ maxLen := by omega
  unfold maxLen at hcm0 hcm2
  have HI0 := Lib.hid hi0
  have HP := Lib.hid hp
  have HNN := Lib.hid hnn
  have HD := Lib.hid hd
  obtain ⟨n0, hn0⟩ : ∃ n, n = l.length := ⟨_, rfl⟩
  obtain ⟨m, hm⟩ : ∃ n, n = ls.length := ⟨_, rfl⟩
  rw [← hn0] at hcm0 ⊢
  rw [← hm] at hcm2 ⊢
  have HN0 := Lib.hid hn0
  have HM := Lib.hid hm
  clear hi0 hp hnn hz hd hn0 hm _hf
  go_enter Try.func6, Try.ntmps6
  go_wp2_with fail
  refine (tawake_any _).mono ?_
  rintro e w1 ⟨rfl, hb1⟩
  have HB1 := Lib.hid hb1
  have HJ0 := Lib.hid (HI0.out.next hb1)
  have HP1 := Lib.hid (HP.out.next hb1)
  clear HI0 HP hb1
  have HBD := Lib.hid (build3 A0 c0 l kI w1 HJ0.out.bs HJ0.out.cap.1 HJ0.out.byt)
  rw [← HN0.out] at HBD
  go_wp2_with fail
  refine HBD.out.mono ?_
  rintro e w2 ⟨hb2, rfl | ⟨k, M, hs, rfl, rfl, hm⟩⟩
  · have HBF := Lib.hid (below_setRow (below_chain HB1.out (hb2.alloc hb2.size (.cells mc0 35))) (Nat.le_trans HB1.out.size hb2.size) mc0)
    have HMs : Hid ((Try.prog.info? 35).map (·.size) = some mc0.size) := Lib.hid size_mcv
    clear hb2 HBD
    dsimp only
    repeat (first
      | refine wpList_store_row (by rfl) 35 (.tmp 10) (.tmp 35) (by rfl) w2.heap.size mc0 (by rfl) (by rfl) 35 mc0 (by exact heap_alloc_new w2 _) HMs.out rfl (by exact mcv_all 0 0 none 0 0 (fun _ => 0)) ?_
      | go_values | go_skip | go_guarded | go_step | go_upon)
    go_wp2_with fail
    go_ret
    exact ⟨rfl, HBF.out⟩
  · have HM2 := Lib.hid hm
    have HMs := Lib.hid hm.size
    have HMz := Lib.hid hm.size0
    have HMa := Lib.hid hm.all
    have HB2 := Lib.hid hb2
    have HBF := Lib.hid (below_setRow (below_chain HB1.out (hb2.alloc hb2.size (.cells mc0 35))) (Nat.le_trans HB1.out.size hb2.size) M)
    clear hm hb2 HBD
    dsimp only
    by_cases h600 : 600 < n0
    · have d1 : decide ((600 : Int) < (n0 : Int)) = true := by simp; omega
      repeat (first
        | refine wpList_store_row (by rfl) 35 (.tmp 10) (.tmp 35) (by rfl) w2.heap.size M (by rfl) (by rfl) 35 mc0 (by exact heap_alloc_new w2 _) HMs.out HMz.out HMa.out ?_
        | go_values | go_skip | go_guarded | go_step | go_upon)
      go_wp2_with fail
      go_ret
      exact ⟨rfl, HBF.out⟩
    have d1 : decide ((600 : Int) < (n0 : Int)) = false := by simp; omega
    by_cases h8 : 8 < m
    · have d2 : decide ((8 : Int) < (m : Int)) = true := by simp; omega
      repeat (first
        | refine wpList_store_row (by rfl) 35 (.tmp 10) (.tmp 35) (by rfl) w2.heap.size M (by rfl) (by rfl) 35 mc0 (by exact heap_alloc_new w2 _) HMs.out HMz.out HMa.out ?_
        | go_values | go_skip | go_guarded | go_step | go_upon)
      go_wp2_with fail
      go_ret
      exact ⟨rfl, HBF.out⟩
    have d2 : decide ((8 : Int) < (m : Int)) = false := by simp; omega
    repeat (first
      | refine wpList_store_row (by rfl) 35 (.tmp 10) (.tmp 35) (by rfl) w2.heap.size M (by rfl) (by rfl) 35 mc0 (by exact heap_alloc_new w2 _) HMs.out HMz.out HMa.out ?_
      | refine wpList_load_row (by rfl) 35 (.tmp 10) (by rfl) w2.heap.size (by rfl) 35 M (0, 0) _ (by exact (mbox_made rfl).1) Try.underlying35 (by rfl) HMs.out ?_
      | go_values | go_skip | go_guarded | go_step | go_upon)
    obtain ⟨W3, hW3⟩ : ∃ W, W = (w2.alloc (.cells mc0 35)).setRow w2.heap.size M := ⟨_, rfl⟩
    change Calls _ _ _ ((w2.alloc (.cells mc0 35)).setRow w2.heap.size M) _
    rw [← hW3]
    obtain ⟨hrow3, hb23⟩ := mbox_made hW3
    obtain ⟨g, hg⟩ : ∃ g, g = w2.heap.size := ⟨_, rfl⟩
    rw [← hg] at hrow3 ⊢
    have hlt3 : g < W3.heap.size := (Array.getElem?_eq_some_iff.1 hrow3).1
    have HB3 := Lib.hid (below_chain HB2.out hb23)
    have HM3 := Lib.hid (HM2.out.next hb23)
    have HROW := Lib.hid (fun (W : World) (hb : Below W3.heap.size W3 W) => show W.heap[g]? = some (.cells M 35 (0, 0)) from (hb.block _ hlt3).trans hrow3)
    have HK0 := Lib.hid (fun (W : World) (hb : Below W3.heap.size W3 W) => (HJ0.out.next HB3.out).next hb)
    have HPB3 := Lib.hid (HP1.out.next HB3.out)
    have HB03 := Lib.hid (below_chain HB1.out HB3.out)
    clear hW3 hrow3 hb23 hg hlt3 HM2 HB2 HBF
    obtain ⟨nh, hnh⟩ : ∃ n, n = hs.length := ⟨_, rfl⟩
    obtain ⟨La, hLa⟩ : ∃ L, L = fndL (l.length : Int) (k : Int) hs l hs.length := ⟨_, rfl⟩
    have HF := Lib.hid (find_ok HM3.out A0 c0 l (HK0.out W3 (Below.refl _ _)).bs HJ0.out.cap.1 HJ0.out.byt)
    rw [← hLa, ← HN0.out] at HF
    have hchk := HM3.out.chk
    obtain ⟨-, -, -, -, hhs, -⟩ := HM3.out
    have HLA := Lib.hid (show La.length = nh from by rw [hLa, fndL_len, hnh])
    have HAT := Lib.hid (fun (j : Nat) (hj : j < nh) => show La[j]?.getD false = true from by
      have h := fnd_at (b := l) hchk hhs (i := j) (by rw [← hnh]; exact hj) (fun t _ _ => rfl)
      rw [hLa, h]
      exact decide_eq_true (Nat.min_le_right _ _))
    have hcf := chk_facts hchk
    rw [← hnh] at hchk hcf hhs
    have HCK := Lib.hid hchk
    have HHS := Lib.hid hhs
    have hnh1 : 1 ≤ nh := hcf.2.2.2.2.1
    have hnh64 : nh ≤ 64 := hcf.2.2.2.2.2.1
    have HNH := Lib.hid hnh
    clear hnh hLa hchk hcf hhs
    refine HF.out.mono ?_
    rintro e w4 ⟨v4, rfl, hol4, hb4⟩
    obtain ⟨Aa, ca, rfl, hboa, -, -, -⟩ := hol4.rd
    rw [HLA.out]
    have HBOA := Lib.hid hboa
    have HB4 := Lib.hid hb4
    clear hol4 hboa hb4 HF
    have HQ0 := Lib.hid (show Own (w4.alloc (.cells #[] 22)) w4.heap.size 22 1 (.slice (some ⟨w4.heap.size, 0, none⟩) 0 0) ([] : List Value).length (vf []) from Own.made (f := vf []) w4 #[] 0 (Nat.le_refl _) (by unfold maxLen; omega) rfl)
    have HPQ := Lib.hid (HPB3.out.next (below_chain HB4.out ((Below.refl _ _).alloc (Nat.le_refl _) (.cells #[] 22))))
    have HVL := Lib.hid (show vs.length = m from by rw [HM.out]; exact HPB3.out.len)
    obtain ⟨m1, hm1⟩ : ∃ x, x = m + 1 := ⟨_, rfl⟩
    have HM1 := Lib.hid hm1
    clear hm1
    go_upto_region 8 with (fail)
    refine wp_region_list ?_
    repeat (first
      | (refine wpl_qw (by rfl) (.tmp 52) (.tmp 53) (by rfl) (by rfl) HQ0.out A2 m c2 HVL.out.symm (by rfl) (by rfl) (by rw [HPQ.out.len]; exact HPQ.out.rd) (fun e => (HNN.out e).2) (fun j hj => pb_vals HPQ.out j hj) (by rw [HVL.out]; simp; omega) (by simp) ?_
         intro v5 w5 ho5 hb5
         rw [List.nil_append] at ho5
         have HQ5 := Lib.hid (Own.alloc ho5 (.cells #[.slice Aa nh ca] 22))
         have HB5 := Lib.hid (show Below w4.heap.size w4 w5 from ((Below.refl _ _).alloc (Nat.le_refl _) _).trans hb5)
         clear ho5 hb5)
      | (refine wpl_qw (by rfl) (.tmp 54) (.tmp 56) (by rfl) (by rfl) HQ5.out (us := [.slice Aa nh ca]) (some ⟨w5.heap.size, 0, none⟩) 1 1 rfl (by rfl) (by rfl) (B := w5.heap.size + 1) (fun _ => ⟨w5.heap.size, 0, rfl, by omega, fun j hj => by
             obtain rfl : j = 0 := by simp at hj; omega
             exact cell_of_one (heap_alloc_new w5 _)⟩) (by intro e; cases e) (fun j hj => by
             obtain rfl : j = 0 := by simp at hj; omega
             rfl) (by rw [HVL.out]; simp; omega) (by have := HB5.out.size; simp; omega) ?_
         intro v6 w6 ho6 hb6
         have hb46 : Below w4.heap.size w4 w6 := (HB5.out.alloc HB5.out.size (.cells #[.slice Aa nh ca] 22)).trans hb6
         have HB6 := Lib.hid (below_chain HB4.out hb46)
         have hl6 : (vs ++ [Value.slice Aa nh ca]).length = m1 := by simp [HVL.out, HM1.out]
         obtain ⟨A13, c13, rfl, -, -, -⟩ := Own.shape ho6
         have HPB6 := Lib.hid (pb_snoc ho6 (HPB3.out.next HB6.out) (HBOA.out.next hb46) (by rw [HLA.out]) (by rw [HLA.out]; unfold maxLen; omega))
         rw [hl6]
         have HR6 := Lib.hid (HROW.out w6 HB6.out)
         have HBA6 := Lib.hid (HBOA.out.next hb46)
         clear ho6 hb6 hb46 hl6)
      | refine wpList_load_row (by rfl) 35 (.tmp 10) (by rfl) g (by rfl) 35 M (0, 0) _ HR6.out Try.underlying35 (by rfl) HMs.out ?_
      | go_values | go_skip | go_guarded | go_step | go_upon)
    refine (none_ok (HM3.out.next HB6.out)).mono ?_
    rintro e w7 ⟨v7, rfl, hol7, hb7⟩
    have HB7 := Lib.hid (below_chain HB6.out hb7)
    have HPB7 := Lib.hid (HPB6.out.next hb7)
    have HBA7 := Lib.hid (HBA6.out.next hb7)
    obtain ⟨go, hgo⟩ : ∃ g, g = w7.heap.size := ⟨_, rfl⟩
    obtain ⟨A14, c14, rfl, hbh7⟩ := bh_of (go := go) hol7 (by rw [List.length_replicate, ← HNH.out]; omega) (fun _ => Nat.le_of_eq hgo.symm)
    rw [List.length_replicate]
    rw [← HNH.out] at hbh7 ⊢
    have HBH7 := Lib.hid hbh7
    have HGO := Lib.hid hgo
    clear hol7 hb7 hgo hbh7 HPB6 HQ0 HPQ HR6 HQ5 HB5
    obtain ⟨i0, hi0, hz0, hz1, hz2⟩ := info_parts info_u8
    have HI0 := Lib.hid hi0
    have HZ0 := Lib.hid hz0
    have HZ1 := Lib.hid hz1
    have HZ2 := Lib.hid hz2
    clear hi0 hz0 hz1 hz2
    have hn0I : (0 : Int) ≤ (n0 : Int) := by omega
    go_upto_region 10 with (fail)
    refine wp_region_list ?_
    repeat (first
      | (refine wpList_make_full _ (by rfl) (.tmp 61) (.tmp 61) 31 (by rfl) go 5 i0 _ 1 Try.underlying31 HI0.out HZ0.out HZ1.out .i64 .i64 (n0 : Int) (n0 : Int) n0 (by rfl) (by rfl) rfl rfl (by rw [HZ2.out]; omega) (by unfold maxLen; omega) (Nat.le_of_eq HGO.out) ?_
         intro w8 ho8 hg8
         have HO8 := Lib.hid ho8
         have HG8 := Lib.hid hg8
         have hb8 : Below w7.heap.size w7 w8 := (Below.refl _ _).grown hg8 (Nat.le_refl _) (by intro k hk; cases hk)
         have HB8 := Lib.hid hb8
         obtain ⟨AM, cM, hcM⟩ := Mok.cell2 (HM3.out.next (below_chain HB7.out hb8)) (HROW.out w8 (below_chain HB7.out hb8))
         rw [← HNH.out] at hcM
         clear ho8 hg8 hb8)
      | go_values | go_skip | go_guarded | go_step | go_upon)
    rw [← HGO.out]
    have HST := Lib.hid (show EInv l k nh n0 go w8 nh A14 (List.replicate nh false) w8 from by
      refine ⟨List.length_replicate, by unfold missB; rw [List.countP_replicate]; rfl, HBH7.out.next HB8.out, ⟨List.replicate n0 0, ?_, by rw [List.length_replicate, HN0.out], fun i hi h => ?_⟩, Below.refl _ _, ?_⟩
      · have h := HO8.out
        rw [← HGO.out] at h
        unfold Ob Own
        rw [List.length_replicate]
        refine cast ?_ h
        congr 1
        rw [show (Value.int .u8 0).cells = #[.int .u8 0] from rfl, toList_madeCells_one]
        refine List.ext_getElem? fun i => ?_
        rw [List.getElem?_replicate, List.getElem?_map]
        by_cases hi : i < n0 * 1
        · rw [if_pos hi, List.getElem?_range hi]; exact congrArg some (bf_rep n0 i).symm
        · rw [if_neg hi, List.getElem?_eq_none (by simp; omega)]; rfl
      · rw [List.getElem?_replicate] at h
        split at h <;> cases h
      · have h := HO8.out
        rw [← HGO.out] at h
        exact (World.ownsRow.lt h go rfl).2)
    clear HO8 HG8 HBH7
    go_loopw [14, 16] (fun v x wr => ∃ (n : Nat) (Ah : Option Addr) (ch : Nat) (Lh : List Bool), v = .slice Ah nh ch ∧ x = .int .i64 (n : Int) ∧ n ≤ nh ∧ EInv l k nh n0 go w8 n Ah Lh wr) (fun _ x _ => (intOf x).toNat)
    case atStart => exact ⟨nh, A14, c14, _, rfl, rfl, Nat.le_refl _, HST.out⟩
    case round =>
      obtain ⟨n, Ah, ch, Lh, rfl, rfl, hn, hinv⟩ := hrel
      have HINV := Lib.hid hinv
      clear hinv
      obtain ⟨hLl, hms, hbh, ⟨Lo, hob, heo⟩, hbw, hgw⟩ := HINV.out
      have HLl := Lib.hid hLl
      have HMS := Lib.hid hms
      have HBH := Lib.hid hbh
      have HOB := Lib.hid hob
      have HEO := Lib.hid heo
      have HBG := Lib.hid (show Below go w8 wr ∧ go < wr.heap.size from ⟨hbw, hgw⟩)
      have HW3 := Lib.hid (fun (W : World) (hb : Below go w8 W) => show Below W3.heap.size W3 W from (below_chain HB7.out HB8.out).trans (hb.mono (by rw [HGO.out]; exact HB7.out.size)))
      have HPW := Lib.hid (fun (W : World) (hb : Below go w8 W ∧ go < W.heap.size) => show Pb W W.heap.size A13 (vs ++ [Value.slice Aa nh ca]) (ls ++ [La]) from by
        have h := HPB7.out
        rw [← HGO.out] at h
        have hb8 := HB8.out
        rw [← HGO.out] at hb8
        exact h.nextB (hb8.trans hb.1) (Nat.le_of_lt hb.2))
      have hm1 : (ls ++ [La]).length = m1 := by rw [List.length_append, HM1.out, HM.out]; rfl
      have HM1L := Lib.hid hm1
      clear hLl hms hbh hob heo hbw hgw HINV HST hm1
      by_cases hn0 : n = 0
      · subst hn0
        have hall : ∀ i, i < nh → Lh[i]?.getD false = true := fun i hi => miss_all HMS.out (by rw [HLl.out]; exact hi)
        have HPKC := Lib.hid (pick_any d Lh Ah ch A13 c13 _ (ls ++ [La]) wr HBH.out.bo (HPW.out wr HBG.out) (by rw [HM1L.out, HM1.out]; omega) (by rw [HLl.out]; omega) HD.out)
        rw [pick_no (fun i hi => hall i (by rw [← HLl.out]; exact hi)), HLl.out, HM1L.out] at HPKC
        have hlo : Lo = l := HEO.out.whole HCK.out hall
        have HOBl := Lib.hid (show Ob wr go (.slice (some ⟨go, 0, none⟩) n0 n0) l from by rw [← hlo]; exact HOB.out)
        have hdl : doneB Lh = true := by unfold doneB; rw [HMS.out, HLl.out, decide_eq_true (show 0 < nh by omega)]; rfl
        have hma : missB La = 0 := miss_none (fun i hi => HAT.out i (by rw [HLA.out] at hi; exact hi))
        have hda : doneB La = true := by unfold doneB; rw [hma, HLA.out, decide_eq_true (show 0 < nh by omega)]; rfl
        have HBA := Lib.hid (fun (W : World) (hb : Below go w8 W ∧ go < W.heap.size) => show Bo W W.heap.size Aa La from by
          have h7 := HBA7.out
          rw [← HGO.out] at h7
          have hb8 := HB8.out
          rw [← HGO.out] at hb8
          exact Rd.more (Rd.below (Rd.below h7 hb8) hb.1) (Nat.le_of_lt hb.2))
        clear hall hlo hma
        unfold pkV at HPKC
        go_upto_region 26 with (fail)
        refine wp_region_list ?_
        repeat (first | go_values | go_skip | go_guarded | go_step | go_upon)
        refine HPKC.out.mono ?_
        rintro e w10 ⟨rfl, hb10⟩
        have HBG10 := Lib.hid (below_both HBG.out hb10)
        have HDH := Lib.hid (done_any Lh Ah ch w10 (HBH.out.next hb10).bo (by rw [HLl.out]; omega))
        rw [hdl, HLl.out] at HDH
        have HO10 := Lib.hid (HOBl.out.next hb10)
        clear hb10 HPKC hdl
        have HR10 := Lib.hid (HROW.out w10 (HW3.out w10 HBG10.out.1))
        obtain ⟨-, hbs10, -, -⟩ := HO10.out.sl
        have HWH := Lib.hid (whole_ok (HM3.out.next (HW3.out w10 HBG10.out.1)) (some ⟨go, 0, none⟩) n0 hbs10 HJ0.out.byt)
        rw [← HN0.out] at HWH
        have HDA := Lib.hid (fun (W : World) (hb : Below w10.heap.size w10 W) => done_any La Aa ca W (HBA.out W (below_both HBG10.out hb)) (by rw [HLA.out]; omega))
        rw [hda, HLA.out] at HDA
        clear hbs10 hda
        go_upto_region 27 with (fail)
        refine wp_region_list ?_
        repeat (first | go_values | go_skip | go_guarded | go_step | go_upon)
        refine HDH.out.mono ?_
        rintro e w' ⟨rfl, hw⟩
        have hw2 := hw.symm
        clear hw
        subst hw2
        dsimp only
        repeat (first
          | refine wpl_load_row_g (by rfl) 35 (.tmp 10) (by rfl) g (by rfl) 35 M (0, 0) _ HR10.out Try.underlying35 (by rfl) HMs.out ?_
          | go_values | go_skip | go_guarded | go_step | go_upon)
        refine HWH.out.mono ?_
        rintro e w11 ⟨rfl, hb11⟩
        have HD11 := Lib.hid (HDA.out w11 hb11)
        have HBF := Lib.hid (below_chain HB03.out (HW3.out w11 (below_both HBG10.out hb11).1))
        clear hb11
        go_wp2_with fail
        refine HD11.out.mono ?_
        rintro e w' ⟨rfl, hw⟩
        have hw2 := hw.symm
        clear hw
        subst hw2
        go_wp2_with fail
        go_ret
        exact ⟨rfl, HBF.out⟩
      · have hnI : (0 : Int) < (n : Int) := by omega
        obtain ⟨i0', hi1, hi2⟩ := miss_some (l := Lh) (by rw [HMS.out]; omega)
        obtain ⟨dd, hdd, hddl⟩ := u64_some ((d : Int) + (n : Int) * 7)
        obtain ⟨j, p, hpk, hj, hjf, hpl, hph⟩ := pick_yes (d := dd) (ls := ls ++ [La]) hi1 hi2 (someB_last (HAT.out i0' (by rw [← HLl.out]; exact hi1)))
        have HPKC := Lib.hid (pick_any dd Lh Ah ch A13 c13 _ (ls ++ [La]) wr HBH.out.bo (HPW.out wr HBG.out) (by rw [HM1L.out, HM1.out]; omega) (by rw [HLl.out]; omega) hddl)
        rw [hpk, HLl.out, HM1L.out] at HPKC
        rw [HLl.out] at hj
        rw [HM1L.out] at hpl
        have HDD := Lib.hid hdd
        clear hdd hddl hpk hi1 hi2
        go_upto_region 14 with (fail)
        refine wp_region_list ?_
        repeat (first | go_values | go_skip | go_guarded | go_step | go_upon)
        rw [HDD.out]
        refine HPKC.out.mono ?_
        rintro e w10 ⟨rfl, hb10⟩
        have HB10 := Lib.hid hb10
        have HBG10 := Lib.hid (below_both HBG.out hb10)
        have HBH10 := Lib.hid (HBH.out.next hb10)
        have HOB10 := Lib.hid (HOB.out.next hb10)
        unfold pkV
        clear hb10 HPKC HDD HBG HBH HOB HB10
        obtain ⟨b13, o13, A15, c15, rfl, hb13, hcell13, hbo15, hml15⟩ := (HPW.out w10 HBG10.out).at_ (i := p) (by rw [HM1L.out]; exact hpl)
        obtain ⟨np, hnp⟩ : ∃ n, n = ((ls ++ [La])[p]?.getD []).length := ⟨_, rfl⟩
        rw [← hnp] at hcell13 hml15
        have hjnp : j < np := by
          rw [hnp]
          refine Nat.lt_of_not_le fun hle => ?_
          unfold hasB at hph
          rw [List.getElem?_eq_none hle] at hph
          cases hph
        obtain ⟨b15, o15, rfl, hlt15, hc15⟩ := hbo15 (by rw [← hnp]; omega)
        have ck15 : w10.cell? ⟨b15, o15 + j, none⟩ = some (.bool true) := by
          rw [hc15 j (by rw [← hnp]; omega)]
          unfold bb
          unfold hasB at hph
          rw [hph]
        obtain ⟨bh, oh, rfl, hlth, hneh, hch⟩ := HBH10.out
        have ckh : w10.cell? ⟨bh, oh + j, none⟩ = some (.bool false) := by
          rw [hch j (by rw [HLl.out]; exact hj)]
          unfold bb
          rw [hjf]
        have e0 : decide ((j : Int) < 0) = false := decide_eq_false (by omega)
        have e1 : decide ((nh : Int) ≤ (j : Int)) = false := decide_eq_false (by omega)
        have e1' : decide (nh ≤ j) = false := decide_eq_false (by omega)
        have e2 : decide ((p : Int) < 0) = false := decide_eq_false (by omega)
        have e3 : decide ((m1 : Int) ≤ (p : Int)) = false := decide_eq_false (by omega)
        have e3' : decide (m1 ≤ p) = false := decide_eq_false (by omega)
        have e4 : decide ((np : Int) ≤ (j : Int)) = false := decide_eq_false (by omega)
        have e4' : decide (np ≤ j) = false := decide_eq_false (by omega)
        have e5 : ((n : Int) != (n : Int)) = false := by simp
        have hjI : (j : Int) < (nh : Int) := by omega
        have hpI : (p : Int) < (m1 : Int) := by omega
        have hjpI : (j : Int) < (np : Int) := by omega
        have HJF := Lib.hid hjf
        have HMI := Lib.hid (missing_any Lh _ ch w10 HBH10.out.bo (by rw [HLl.out]; omega))
        rw [HMS.out, HLl.out] at HMI
        clear hb13 hbo15 hml15 hnp hc15 hlt15 hph hjf hlth hneh hch
        go_wp2_with fail
        refine HMI.out.mono ?_
        rintro e w' ⟨rfl, hw⟩
        have hw2 := hw.symm
        clear hw
        subst hw2
        have HR17 := Lib.hid (HROW.out w10 (HW3.out w10 HBG10.out.1))
        obtain ⟨hpt, hFT⟩ := part_lt HCK.out hj
        have HPT := Lib.hid (part_ok (HM3.out.next (HW3.out w10 HBG10.out.1)) (j : Int))
        rw [← HNH.out, from_nat hpt, to_nat hpt] at HPT
        obtain ⟨F, hF⟩ : ∃ F, F = j * k := ⟨_, rfl⟩
        obtain ⟨T, hT⟩ : ∃ T, T = min ((j + 1) * k) l.length := ⟨_, rfl⟩
        rw [← hF, ← hT] at HPT
        rw [← hF, ← hT] at hFT
        have hTn : T ≤ n0 := by rw [hT, HN0.out]; exact Nat.min_le_right _ _
        have HF := Lib.hid hF
        have HT := Lib.hid hT
        clear hF hT hpt HMI
        go_upto_region 17 with (fail)
        refine wp_region_list ?_
        repeat (first
          | refine wpList_load_row (by rfl) 35 (.tmp 10) (by rfl) g (by rfl) 35 M (0, 0) _ HR17.out Try.underlying35 (by rfl) HMs.out ?_
          | go_values | go_skip | go_guarded | go_step | go_upon)
        refine HPT.out.mono ?_
        rintro e w11 ⟨rfl, hb11⟩
        have HBG11 := Lib.hid (below_both HBG10.out hb11)
        have HBH11 := Lib.hid (HBH10.out.next hb11)
        have HOB11 := Lib.hid (HOB10.out.next hb11)
        clear hb11 HPT HBG10 HBH10 HOB10 HR17 ck15 ckh hcell13 e0 e1 e1' e2 e3 e3' e4 e4' e5
        have hnc0 : n0 ≤ c0 := by rw [HN0.out]; exact HJ0.out.cap.1
        obtain ⟨A16, hsl, hrd, -⟩ := slice_lh Try.underlying31 size_5 A0 n0 c0 F T (Nat.le_of_lt hFT) hTn hnc0
        obtain ⟨q16, hq16⟩ : ∃ q, q = T - F := ⟨_, rfl⟩
        obtain ⟨c16, hc16⟩ : ∃ q, q = c0 - F := ⟨_, rfl⟩
        rw [← hq16, ← hc16] at hsl
        have hchl : chunkL l k j = cutL l F T := by unfold chunkL; rw [← HF.out, ← HT.out]
        have hlen16 : (chunkL l k j).length = q16 := by rw [hchl, hq16]; exact cutL_len (by rw [← HN0.out]; exact hTn)
        have HTK := Lib.hid (fun (W : World) (hb : Below w11.heap.size w11 W) => show Calls Try.prog 21 #[.agg M, .slice (some ⟨bh, oh, none⟩) nh ch, .int .i64 (j : Int), .slice A16 q16 c16] W (TakeEnd W.heap.size 0 (Lh.set j true) W) from by
          have hbw := below_both HBG11.out hb
          have hW := HW3.out W hbw.1
          have hs16 : Bs W W.heap.size A16 (chunkL l k j) := by
            rw [hchl]
            refine cut_bs (by rw [← HN0.out]; exact hTn) ?_
            have h := (HK0.out W hW).bs
            unfold Bs at h
            rw [← HN0.out] at h
            exact hrd _ _ _ h
          have h := take_ok (HM3.out.next hW) (some ⟨bh, oh, none⟩) ch Lh (j : Int) A16 c16 (chunkL l k j) (HBH11.out.next hb).bo (fun e => by cases e) (by rw [HLl.out]; omega) hs16 (by rw [hchl]; exact cutL_byt HJ0.out.byt _ _)
          have hv := ver_chunk HCK.out hj
          rw [← HHS.out] at hv
          rw [hv, HLl.out, ← HNH.out, hlen16, decide_eq_true rfl] at h
          exact h)
        have HRNG := Lib.hid (fun (W : World) (hb : Below w11.heap.size w11 W) => box_range (HROW.out W (HW3.out W (below_both HBG11.out hb).1)))
        clear hrd hq16 hc16 hchl hlen16
        go_upto_region 18 with (fail)
        refine wp_region_held_drew (S := fun w' => Hid (Below w11.heap.size w11 w')) (by kernel_rfl) (Lib.hid (Below.refl _ _).drew) (fun hHeld => ?_)
        refine wpAnyH_take (i := 0) (oi := { dst := some 142, op := Op.load 35 (Operand.tmp 10), type := 35, pos := "law.go:71", after := #[], guard := none }) (v := .agg M) rfl (by kernel_rfl) (by kernel_rfl) (by kernel_rfl) (fun _ _ _ h => h) (by exact yieldsIf_load_mid (by rfl) 35 (.tmp 10) (by rfl) g 0 (by rfl) M.toList _ (fun w' hw' => HRNG.out w' hw'.out) Try.underlying35 (by rfl) (by rw [Array.length_toList]; exact HMs.out)) (by assumption) ?_
        simp only [Act.put, List.setIfInBounds_toArray, List.set_cons_zero, List.set_cons_succ]
        refine wpAnyH_take (i := 1) (oi := { dst := some 143, op := Op.move (Operand.tmp 14), type := 22, pos := "law.go:71", after := #[], guard := none }) (v := ?_) rfl (by kernel_rfl) (by kernel_rfl) (by kernel_rfl) (fun _ _ _ h => h) (Or.inl ⟨by rfl, ?_⟩) (by assumption) ?_
        rotate_left 1
        · intro ws hSw; (try dsimp only at hSw); go_simp; all_goals with_reducible rfl
        simp only [Act.put, List.setIfInBounds_toArray, List.set_cons_zero, List.set_cons_succ]
        refine wpAnyH_take (i := 2) (oi := { dst := some 144, op := Op.move (Operand.tmp 17), type := 3, pos := "law.go:71", after := #[], guard := none }) (v := ?_) rfl (by kernel_rfl) (by kernel_rfl) (by kernel_rfl) (fun _ _ _ h => h) (Or.inl ⟨by rfl, ?_⟩) (by assumption) ?_
        rotate_left 1
        · intro ws hSw; (try dsimp only at hSw); go_simp; all_goals with_reducible rfl
        simp only [Act.put, List.setIfInBounds_toArray, List.set_cons_zero, List.set_cons_succ]
        refine wpAnyH_take (i := 3) (oi := { dst := some 145, op := Op.move (Operand.tmp 0), type := 31, pos := "law.go:71", after := #[], guard := none }) (v := ?_) rfl (by kernel_rfl) (by kernel_rfl) (by kernel_rfl) (fun _ _ _ h => h) (Or.inl ⟨by rfl, ?_⟩) (by assumption) ?_
        rotate_left 1
        · intro ws hSw; (try dsimp only at hSw); go_simp; all_goals with_reducible rfl
        simp only [Act.put, List.setIfInBounds_toArray, List.set_cons_zero, List.set_cons_succ]
        refine wpAnyH_take (i := 4) (oi := { dst := some 146, op := Op.move (Operand.tmp 20), type := 3, pos := "law.go:71", after := #[], guard := none }) (v := ?_) rfl (by kernel_rfl) (by kernel_rfl) (by kernel_rfl) (fun _ _ _ h => h) (Or.inl ⟨by rfl, ?_⟩) (by assumption) ?_
        rotate_left 1
        · intro ws hSw; (try dsimp only at hSw); go_simp; all_goals with_reducible rfl
        simp only [Act.put, List.setIfInBounds_toArray, List.set_cons_zero, List.set_cons_succ]
        refine wpAnyH_take (i := 5) (oi := { dst := some 147, op := Op.move (Operand.tmp 21), type := 3, pos := "law.go:71", after := #[], guard := none }) (v := ?_) rfl (by kernel_rfl) (by kernel_rfl) (by kernel_rfl) (fun _ _ _ h => h) (Or.inl ⟨by rfl, ?_⟩) (by assumption) ?_
        rotate_left 1
        · intro ws hSw; (try dsimp only at hSw); go_simp; all_goals with_reducible rfl
        simp only [Act.put, List.setIfInBounds_toArray, List.set_cons_zero, List.set_cons_succ]
        refine wpAnyH_take (i := 6) (oi := { dst := some 148, op := Op.slice 31 (Operand.tmp 145) (some (Operand.tmp 146)) (some (Operand.tmp 147)) none, type := 31, pos := "law.go:71", after := #[{ on := 3, ground := Ground.data }, { on := 4, ground := Ground.data }, { on := 5, ground := Ground.data }], guard := none }) (v := .slice A16 q16 c16) rfl (by kernel_rfl) (by kernel_rfl) (by kernel_rfl) (fun _ _ _ h => h) (by exact yieldsIf_slice2 (by rfl) 31 (.tmp 145) (.tmp 146) (.tmp 147) (by rfl) under_slice _ _ _ _ (by rfl) (by rfl) (by rfl) hsl) (by assumption) ?_
        simp only [Act.put, List.setIfInBounds_toArray, List.set_cons_zero, List.set_cons_succ]
        clear hHeld
        obtain ⟨Xa, hWa⟩ : ∃ W, W = w11.drew := ⟨_, rfl⟩
        have HBx := Lib.hid (show _ from show Below w11.heap.size w11 Xa from by rw [hWa]; exact (Below.refl _ _).drew)
        rw [← hWa]
        clear hWa
        refine wpAnyH_ready (rs := [7]) (by kernel_rfl) (by simp) ?_
        refine AllReadyH.cons (o := { dst := some 149, op := Op.call { callee := Callee.value (Operand.func 21), args := #[Operand.tmp 142, Operand.tmp 143, Operand.tmp 144, Operand.tmp 148], argTypes := #[35, 22, 3, 31] }, type := 39, pos := "law.go:71", after := #[{ on := 0, ground := Ground.data }, { on := 1, ground := Ground.data }, { on := 2, ground := Ground.data }, { on := 6, ground := Ground.data }], guard := none }) rfl (fun K hK => ?_) AllReadyH.nil
        go_simp
        (with_reducible refine (HTK.out Xa HBx.out).mono ?_)
        rintro e X1 ⟨v18, rfl, hol, hb⟩
        obtain ⟨A18, c18, rfl, hbh18⟩ := bh_of (go := go) hol (by rw [List.length_set, HLl.out]; omega) (fun h => absurd h (by have := (below_both HBG11.out HBx.out).2; omega))
        rw [List.length_set, HLl.out]
        refine hK.out _ _ ?_ (fun hHeld => ?_)
        · exact Lib.hid (below_chain HBx.out hb)
        clear hHeld hK K
        try simp only [Act.put, List.setIfInBounds_toArray, List.set_cons_zero, List.set_cons_succ]
        replace HBx := Lib.hid (below_chain HBx.out hb)
        have HBH18 := Lib.hid hbh18
        clear hbh18 hol
        clear hb
        have hHeld : (fun w' => Hid (Below w11.heap.size w11 w')) X1 := Lib.hid HBx.out
        refine wpAnyH_take (i := 8) (oi := { dst := some 141, op := Op.move (Operand.tmp 149), type := 39, pos := "law.go:71", after := #[{ on := 7, ground := Ground.data }], guard := none }) (v := ?_) rfl (by kernel_rfl) (by kernel_rfl) (by kernel_rfl) (fun _ _ _ h => h) (Or.inl ⟨by rfl, ?_⟩) (by assumption) ?_
        rotate_left 1
        · intro ws hSw; (try dsimp only at hSw); go_simp; all_goals with_reducible rfl
        simp only [Act.put, List.setIfInBounds_toArray, List.set_cons_zero, List.set_cons_succ]
        clear hHeld
        have hHeld : (fun w' => Hid (Below w11.heap.size w11 w')) X1 := Lib.hid HBx.out
        refine wpAnyH_take (i := 9) (oi := { dst := some 150, op := Op.extract (Operand.tmp 141) 0, type := 22, pos := "law.go:71", after := #[{ on := 8, ground := Ground.data }], guard := none }) (v := ?_) rfl (by kernel_rfl) (by kernel_rfl) (by kernel_rfl) (fun _ _ _ h => h) (Or.inl ⟨by rfl, ?_⟩) (by assumption) ?_
        rotate_left 1
        · intro ws hSw; (try dsimp only at hSw); go_simp; all_goals with_reducible rfl
        simp only [Act.put, List.setIfInBounds_toArray, List.set_cons_zero, List.set_cons_succ]
        clear hHeld
        have hHeld : (fun w' => Hid (Below w11.heap.size w11 w')) X1 := Lib.hid HBx.out
        refine wpAnyH_take (i := 10) (oi := { dst := some 151, op := Op.extract (Operand.tmp 141) 1, type := 36, pos := "law.go:71", after := #[{ on := 8, ground := Ground.data }, { on := 11, ground := Ground.gcOnly Departure.lateStores }], guard := none }) (v := ?_) rfl (by kernel_rfl) (by kernel_rfl) (by kernel_rfl) (fun _ _ _ h => h) (Or.inl ⟨by rfl, ?_⟩) (by assumption) ?_
        rotate_left 1
        · intro ws hSw; (try dsimp only at hSw); go_simp; all_goals with_reducible rfl
        simp only [Act.put, List.setIfInBounds_toArray, List.set_cons_zero, List.set_cons_succ]
        clear hHeld
        have hHeld : (fun w' => Hid (Below w11.heap.size w11 w')) X1 := Lib.hid HBx.out
        refine wpAnyH_take (i := 11) (oi := { dst := some 22, op := Op.assign (Operand.tmp 150), type := 22, pos := "law.go:71", after := #[{ on := 9, ground := Ground.data }, { on := 7, ground := Ground.chain }, { on := 0, ground := Ground.phase }, { on := 1, ground := Ground.phase }, { on := 2, ground := Ground.phase }, { on := 3, ground := Ground.phase }, { on := 4, ground := Ground.phase }, { on := 5, ground := Ground.phase }, { on := 6, ground := Ground.phase }, { on := 7, ground := Ground.phase }, { on := 8, ground := Ground.phase }, { on := 9, ground := Ground.phase }, { on := 10, ground := Ground.textOnly Departure.lateStores }], guard := none }) (v := ?_) rfl (by kernel_rfl) (by kernel_rfl) (by kernel_rfl) (fun _ _ _ h => h) (Or.inl ⟨by rfl, ?_⟩) (by assumption) ?_
        rotate_left 1
        · intro ws hSw; (try dsimp only at hSw); go_simp; all_goals with_reducible rfl
        simp only [Act.put, List.setIfInBounds_toArray, List.set_cons_zero, List.set_cons_succ]
        clear hHeld
        have hHeld : (fun w' => Hid (Below w11.heap.size w11 w')) X1 := Lib.hid HBx.out
        refine wpAnyH_take (i := 12) (oi := { dst := some 23, op := Op.assign (Operand.tmp 151), type := 36, pos := "law.go:71", after := #[{ on := 10, ground := Ground.data }, { on := 11, ground := Ground.chain }, { on := 0, ground := Ground.phase }, { on := 1, ground := Ground.phase }, { on := 2, ground := Ground.phase }, { on := 3, ground := Ground.phase }, { on := 4, ground := Ground.phase }, { on := 5, ground := Ground.phase }, { on := 6, ground := Ground.phase }, { on := 7, ground := Ground.phase }, { on := 8, ground := Ground.phase }, { on := 9, ground := Ground.phase }, { on := 10, ground := Ground.phase }, { on := 11, ground := Ground.phase }], guard := none }) (v := ?_) rfl (by kernel_rfl) (by kernel_rfl) (by kernel_rfl) (fun _ _ _ h => h) (Or.inl ⟨by rfl, ?_⟩) (by assumption) ?_
        rotate_left 1
        · intro ws hSw; (try dsimp only at hSw); go_simp; all_goals with_reducible rfl
        simp only [Act.put, List.setIfInBounds_toArray, List.set_cons_zero, List.set_cons_succ]
        clear hHeld
        refine wpAnyH_done (by kernel_rfl) ?_ _
        clear hsl
        have HBG12 := Lib.hid (below_both HBG11.out HBx.out)
        have HOB12 := Lib.hid (HOB11.out.next HBx.out)
        clear HBx HBG11 HOB11 HTK HRNG HBH11
        go_wp2_with fail
        obtain ⟨WR, hWR⟩ : ∃ W, W = wr := ⟨_, rfl⟩
        subst hWR
        go_loopw [24] (fun x wr => ∃ (q : Nat) (L : List Nat), x = .int .i64 (q : Int) ∧ F ≤ q ∧ q ≤ T ∧ Cpy l Lo F q L ∧ Ob wr go (.slice (some ⟨go, 0, none⟩) n0 n0) L ∧ Bh wr go A18 (Lh.set j true) ∧ Below go w8 wr ∧ go < wr.heap.size) (fun x _ => (T - intOf x).toNat)
        case atStart => exact ⟨F, Lo, rfl, Nat.le_refl _, Nat.le_of_lt hFT, Cpy.start HEO.out.1, HOB12.out, HBH18.out, HBG12.out⟩
        case round =>
          obtain ⟨q, L, rfl, hFq, hqT, hcp, hob, hbh, hbw, hgw⟩ := hrel
          have HCP := Lib.hid hcp
          have HBHq := Lib.hid hbh
          by_cases hlt : q < T
          · have hqI : (q : Int) < (T : Int) := by omega
            have hqn : q < n0 := by omega
            have hqnI : (q : Int) < (n0 : Int) := by omega
            obtain ⟨b0, o0, hA0, hlt0, hc0⟩ := (HK0.out wr (HW3.out wr hbw)).bs (by rw [← HN0.out]; omega)
            obtain ⟨x, hx⟩ : ∃ x, x = l[q]?.getD 0 := ⟨_, rfl⟩
            have ck0 : wr.cell? ⟨b0, o0 + q, none⟩ = some (.int .u8 (x : Int)) := by
              rw [hc0 q (by rw [← HN0.out]; omega), hx]
              rfl
            have hob' : Own wr go 5 1 (.slice (some ⟨go, 0, none⟩) L.length n0) L.length (bf L) := by
              have h := hob
              unfold Ob at h
              rw [show L.length = n0 from by rw [hcp.1, HN0.out]] at h ⊢
              exact h
            have ckg : wr.cell? ⟨go, q, none⟩ = some (bf L q) := hob'.cell q (by rw [hcp.1, ← HN0.out]; omega)
            have cfg : wr.frozen? ⟨go, q, none⟩ = false := hob'.free q
            have HREL := Lib.hid (show Cpy l Lo F (q + 1) (L.set q x) ∧ Ob (wr.setCell ⟨go, q, none⟩ (.int .u8 (x : Int))) go (.slice (some ⟨go, 0, none⟩) n0 n0) (L.set q x) ∧ Bh (wr.setCell ⟨go, q, none⟩ (.int .u8 (x : Int))) go A18 (Lh.set j true) ∧ Below go w8 (wr.setCell ⟨go, q, none⟩ (.int .u8 (x : Int))) ∧ go < (wr.setCell ⟨go, q, none⟩ (.int .u8 (x : Int))).heap.size from
              ⟨by rw [hx]; exact hcp.next hFq (by rw [← HN0.out]; exact hqn), ob_set hob (by rw [hcp.1, HN0.out]) q x, hbh.set q _, hbw.setCell (Nat.le_refl _) _, by simpa using hgw⟩)
            subst hA0
            clear hc0 hx hob hob' hcp hbh hbw hgw hlt0
            go_wp2_with fail
            go_roundw
            case rel => exact ⟨q + 1, L.set q x, by first | rfl | go_num, by omega, by omega, HREL.out⟩
            case measure => simp [intOf]; omega
          · obtain rfl : q = T := by omega
            have HINV2 := Lib.hid (show EInv l k nh n0 go w8 (n - 1) A18 (Lh.set j true) wr from by
              refine ⟨by rw [List.length_set, HLl.out], ?_, hbh, ⟨L, hob, ?_⟩, hbw, hgw⟩
              · have h := miss_set (l := Lh) (i := j) (by rw [HLl.out]; exact hj) HJF.out
                rw [HMS.out] at h
                omega
              · exact HEO.out.next (by rw [← HF.out, ← HT.out]; exact HCP.out))
            clear hob hcp hbh hbw hgw
            go_wp2_with fail
            go_roundw
            case rel => exact ⟨n - 1, A18, c18, Lh.set j true, rfl, by rw [show (n : Int) - 1 = ((n - 1 : Nat) : Int) from by omega], by omega, HINV2.out⟩
            case measure => simp [intOf]; omega

set_option maxRecDepth 100000 in
theorem transferEnds_lifted (os : Os) (started : os.Started) (H : Type) (enc : TypeId × Value → H) :
    ReturnsInHanded {} Try.checked os 6 .any (Rows.transferEndsSpec.pre6 enc Try.prog Try.f6 Rows.transferEndsRow.domain false) (Rows.transferEndsSpec.post enc Try.prog Try.f6 false true false false) := by
  refine returnsInHanded_of_change (C := Try.checked) own started (by kernel_rfl) Try.func6
    (ChangeSpec.witness6 (enc := enc) (C := Try.checked) false ⟨#[], #[.slice none 0 0, .int .i64 0, .slice none 0 0, .int .u64 0], []⟩ 8 (by kernel_rfl) (by kernel_rfl) (by kernel_rfl) (by kernel_rfl)) ?_
  intro W base args ds gs before hval0 hW _ _
  have hval : ∀ (j : Nat) t v, Try.f6.params[j]? = some t → args[j]? = some v → Value.okWide Try.prog W .any base t v := hval0
  have hW' := hW
  obtain ⟨p, q, hA0, hV, rfl, _, _⟩ := hW
  have hA : DataW.TrodAll enc Try.prog W 0 (fun _ => true) true Try.f6.params.toList args.toList ds p := hA0
  rw [Try.params6] at hA hval
  obtain ⟨v0, vs0, d0, ds0, p0, q0, hargs, rfl, rfl, h0, r0⟩ := trodAll_cons hA
  obtain ⟨v1, vs1, d1, ds1, p1, q1, rfl, rfl, rfl, h1, r1⟩ := trodAll_cons r0
  obtain ⟨v2, vs2, d2, ds2, p2, q2, rfl, rfl, rfl, h2, r2⟩ := trodAll_cons r1
  obtain ⟨v3, vs3, d3, ds3, p3, q3, rfl, rfl, rfl, h3, r3⟩ := trodAll_cons r2
  obtain ⟨rfl, rfl, rfl⟩ := trodAll_nil r3
  obtain rfl : args = #[v0, v1, v2, v3] := by cases args; simp_all
  obtain ⟨rfl, rfl⟩ := trodVars_none hV
  have k0 := h0
  have lt0 : ∀ x ∈ p0, x.block < W.heap.size := by obtain ⟨m, hm⟩ := k0; exact DataW.trod_lt m _ _ _ hm
  obtain ⟨A0, c0, l0, rfl, b0⟩ := open_B (hval 0 31 v0 rfl rfl) h0
  have k1 := h1
  have lt1 : ∀ x ∈ p1, x.block < W.heap.size := by obtain ⟨m, hm⟩ := k1; exact DataW.trod_lt m _ _ _ hm
  obtain ⟨n1, rfl, f1⟩ := open_i64 Try.underlying3 (hval 1 3 v1 rfl rfl) h1
  have k2 := h2
  have lt2 : ∀ x ∈ p2, x.block < W.heap.size := by obtain ⟨m, hm⟩ := k2; exact DataW.trod_lt m _ _ _ hm
  obtain ⟨A2, c2, ws2, l2, rfl, b2, n2, z2⟩ := open_Os (hval 2 23 v2 rfl rfl) h2
  have k3 := h3
  have lt3 : ∀ x ∈ p3, x.block < W.heap.size := by obtain ⟨m, hm⟩ := k3; exact DataW.trod_lt m _ _ _ hm
  obtain ⟨n3, rfl, f3⟩ := open_u64 (hval 3 24 v3 rfl rfl) h3
  clear hA0 hval0 hval
  refine (transferEnds_walk W A0 c0 l0 b0 n1 f1 A2 c2 ws2 l2 b2 n2 z2 n3 f3).mono fun e W' ⟨he, bel⟩ => ?_
  subst he
  exact ⟨_, rfl, _, _, _, [], _, [], hW', trodAll_mk1 (shut_bool Try.underlying4 _), (trodAll_cons_mk (Below.trod laidOut (by kernel_rfl) (of_decide_eq_true (by kernel_rfl)) k0 bel lt0) (trodAll_cons_mk (Below.trod laidOut (by kernel_rfl) (of_decide_eq_true (by kernel_rfl)) k1 bel lt1) (trodAll_cons_mk (Below.trod laidOut (by kernel_rfl) (of_decide_eq_true (by kernel_rfl)) k2 bel lt2) (trodAll_cons_mk (Below.trod laidOut (by kernel_rfl) (of_decide_eq_true (by kernel_rfl)) k3 bel lt3) trodAll_mk0)))), rfl, bel.frame _, fun h => by cases h⟩

theorem transferEnds_holds : Rows.TransferEndsSaid :=
  OpenClaim.holds_of_wide 6 Try.f6 rfl rfl rfl rfl rfl rfl rfl ⟨rfl, rfl, rfl, rfl, rfl⟩ rfl rfl rfl rfl rfl (by kernel_rfl) Try.func6 (by kernel_rfl)
    (of_decide_eq_true (by kernel_rfl)) (by unfold Func.isWrapper; first | (rw [if_pos (by decide +kernel)]; kernel_rfl) | (rw [if_neg (by decide +kernel)]; exact ⟨rfl, rfl⟩))
    (fun os started H enc _ => transferEnds_lifted os started H enc)
#print axioms transferEnds_holds
end Go.Proofs.Ytmpbimechgelfaa
