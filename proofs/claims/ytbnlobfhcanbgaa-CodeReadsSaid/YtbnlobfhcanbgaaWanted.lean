/- wanted's contract. -/
import Derived.Test.YtbnlobfhcanbgaaWant1
import Derived.Test.YtbnlobfhcanbgaaPBox
import Derived.Test.YtbnlobfhcanbgaaCOpen
import Derived.Deep.Cut
namespace Go.Proofs.Ytbnlobfhcanbgaa
open Go Go.RowKit

/-- Bytes that are read, below block B. -/
structure BIn (w : World) (B : Nat) (A : Option Addr) (c : Nat) (l : List Nat) : Prop where
  bs : Bs w B A l
  none_ : A = none → l.length = 0 ∧ c = 0
  cap : l.length ≤ c ∧ c ≤ maxLen
  byt : Byt l
  len : l.length ≤ 1000
theorem BIn.below {w w' : World} {B c : Nat} {A : Option Addr} {l : List Nat} (h : BIn w B A c l) (hb : Below B w w') : BIn w' B A c l := ⟨h.bs.below hb, h.none_, h.cap, h.byt, h.len⟩
theorem BIn.drop {w : World} {B c k : Nat} {A A' : Option Addr} {l : List Nat} (h : BIn w B A c l) (hk : k ≤ l.length) (hA : (c = k ∧ A' = A) ∨ A' = A.map (·.add k)) : BIn w B A' (c - k) (l.drop k) := by
  refine ⟨h.bs.drop hk h.cap.1 hA, fun e => ?_, ?_, h.byt.drop k, ?_⟩
  · have : A = none := by
      rcases hA with ⟨_, h1⟩ | h1
      · rw [← h1]; exact e
      · rw [e] at h1; cases A with
        | none => rfl
        | some a => simp at h1
    have := h.none_ this
    rw [List.length_drop]; omega
  · have := h.cap; rw [List.length_drop]; omega
  · have := h.len; rw [List.length_drop]; omega
theorem own_snoc2 {w : World} {base : Nat} {v : Value} {L : List Pt} {y : Pt} (o : Own w base 28 37 v (L.length + 1) (fun j => if j < L.length * 37 then pf L j else pf [y] (j - L.length * 37))) :
    Own w base 28 37 v (L ++ [y]).length (pf (L ++ [y])) := by
  rw [List.length_append]
  exact o.congr fun j hj => pf_app L [y] j hj
/-- What wanted holds after some parts. -/
structure Wt (wr w : World) (v : Value) (out : List Pt) (R : List Pt) : Prop where
  own : Own wr w.heap.size 28 37 v out.length (pf out)
  bs : ∀ x ∈ out, Bs wr w.heap.size x.A x.b
  key : out.map key = R.map key
  below : Below w.heap.size w wr
  len : out.length ≤ 20
theorem hc_congr2 {f g : Nat → Nat} (h : ∀ j, j < 32 → f j = g j) : hc f = hc g := by
  unfold hc
  congr 1
  exact List.map_congr_left fun j hj => by rw [h j (by simpa using hj)]
theorem map_key_len {a b : List Pt} (h : a.map key = b.map key) : a.length = b.length := by have := congrArg List.length h; simpa using this
theorem Wt.put {wr w w8 w9 : World} {v v' : Value} {out R : List Pt} {y z : Pt} (h : Wt wr w v out R) (hb8 : Below w.heap.size w w8) (hs8 : w.heap.size ≤ w8.heap.size)
    (ho : Own w9 w.heap.size 28 37 v' (out.length + 1) (fun j => if j < out.length * 37 then pf out j else pf [y] (j - out.length * 37)))
    (hg : w8.grownBy w9 v.ownBlock) (hy : Bs w8 w.heap.size y.A y.b) (hk : _root_.Go.Proofs.Ytbnlobfhcanbgaa.key y = _root_.Go.Proofs.Ytbnlobfhcanbgaa.key z) (hl : out.length + 1 ≤ 20) (hbs : ∀ x ∈ out, Bs w8 w.heap.size x.A x.b) : Wt w9 w v' (out ++ [y]) (R ++ [z]) := by
  have hb9 : Below w.heap.size w8 w9 := (Below.refl _ _).grown hg hs8 (fun q e => (Own.block h.own q e).1)
  refine ⟨own_snoc2 ho, fun x hx => ?_, ?_, hb8.trans hb9, by rw [List.length_append]; exact hl⟩
  · rcases List.mem_append.1 hx with hx | hx
    · exact (hbs x hx).below hb9
    · obtain rfl : x = y := by simpa using hx
      exact hy.below hb9
  · rw [List.map_append, List.map_append, h.key]
    simp [hk]
set_option maxRecDepth 100000 in
set_option maxHeartbeats 20000000 in
theorem wanted_any (A : Option Addr) (c : Nat) (bs : List Nat) (A2 : Option Addr) (c2 : Nat) (l : List Pt) (w : World) (hin : InB w A c bs) (hbl : bs.length ≤ 1000) (hp : InPs w A2 c2 l) (hlen : l.length ≤ 20) :
    Calls Try.prog 17 #[.slice A bs.length c, .slice A2 l.length c2] w fun e w' => ∃ Ao co out, e = .returned (.tuple #[.slice Ao out.length co, .bool (decide ((readR l (some bs)).2 = some []))]) ∧ Wt w' w (.slice Ao out.length co) out (readR l (some bs)).1 := by
  obtain ⟨ip, hip, hpz0, hpz1, hpz2⟩ := info_parts info_pt
  have HIN := Lib.hid hin
  have HP := Lib.hid hp
  clear hin hp
  go_enter Try.func17, Try.ntmps17
  go_wp2_with fail
  go_loopw [0, 6, 7, 8] (fun bv v lo i wr => ∃ k : Nat, i = .int .i64 (k : Int) ∧ k ≤ l.length ∧ ∃ out A' c' r, Wt wr w v out (readR (l.take k) (some bs)).1 ∧ bv = .slice A' r.length c' ∧ BIn wr w.heap.size A' c' r ∧
      ((lo = .bool false ∧ (readR (l.take k) (some bs)).2 = some r) ∨ (lo = .bool true ∧ (readR (l.take k) (some bs)).2 = none)))
    (fun _ _ _ i _ => (l.length - intOf i).toNat)
  case atStart => exact ⟨0, rfl, Nat.zero_le _, [], A, c, bs, ⟨Own.nil, (fun _ h => by cases h), rfl, Below.refl _ _, Nat.zero_le _⟩, rfl, ⟨HIN.out.bs, HIN.out.none_, HIN.out.cap, HIN.out.byt, hbl⟩, .inl ⟨rfl, rfl⟩⟩
  case round =>
    obtain ⟨k, rfl, hk, out, A', c', r, hwt, rfl, hbi, hst⟩ := hrel
    have hbr := hwt.below
    have hszr := hbr.size
    by_cases hkl : k < l.length
    · obtain ⟨x, hx⟩ : ∃ x, l[k]? = some x := ⟨_, List.getElem?_eq_getElem hkl⟩
      have HPr := Lib.hid (HP.out.next hbr)
      obtain ⟨bb, off, rfl, hb, hat⟩ := (HP.out.at_ hx)
      have hpt := (HP.out.ok x (List.mem_of_getElem? hx))
      have HPT := Lib.hid hpt
      have h0 := (hbr.cell (p := ⟨bb, off + k * 37, none⟩) hb).trans hat.f0
      have h2 := (hbr.cell (p := ⟨bb, off + k * 37 + 2, none⟩) hb).trans hat.f2
      have h3 := (hbr.cell (p := ⟨bb, off + k * 37 + 3, none⟩) hb).trans hat.f3
      have HS := Lib.hid (readR_take l k x (some bs) hx)
      have HWT := Lib.hid hwt
      have HBI := Lib.hid hbi
      have hol : out.length ≤ k := by
        have h1 := map_key_len hwt.key
        have h2 := readR_len (l.take k) (some bs)
        rw [List.length_take] at h2
        omega
      have HX := Lib.hid hx
      have hcc := hbi.cap
      have hrl := hbi.len
      unfold maxLen at hcc
      clear hx hpt hat hwt hbi hbr
      generalize readR (l.take k) (some bs) = RR at *
      obtain ⟨R0, s0⟩ := RR
      simp only at hst
      have HST : Hid (s0 = s0) := Lib.hid rfl
      rcases hst with ⟨rfl, rfl⟩ | ⟨rfl, rfl⟩
      · by_cases hk1 : x.kind = 1
        · have hb1 : (x.kind == 1) = true := by simp [hk1]
          have HK := Lib.hid hk1
          clear hk1
          go_upto_region 6 with (fail)
          obtain ⟨W1, hW1⟩ : ∃ W1, W1 = (wr.alloc (.cells (ptc Pt.nil).toArray 28)).setRow wr.heap.size (ptc { Pt.nil with kind := x.kind }).toArray := ⟨_, rfl⟩
          have HW1 := Lib.hid hW1
          have HPB1 := Lib.hid (show PB W1 wr.heap.size { Pt.nil with kind := x.kind } from by rw [hW1]; exact PB.new _ _)
          have HBW1 := Lib.hid (show Below wr.heap.size wr W1 from by rw [hW1]; exact below_setRow ((Below.refl _ _).alloc (Nat.le_refl _) _) (Nat.le_refl _) _)
          have HSZ1 := Lib.hid (show W1.heap.size = wr.heap.size + 1 from by rw [hW1]; simp [World.setRow])
          clear hW1
          have hbw : bb < wr.heap.size := by omega
          have c0 := (HBW1.out.cell (p := ⟨bb, off + k * 37, none⟩) hbw).trans h0
          have c2' := (HBW1.out.cell (p := ⟨bb, off + k * 37 + 2, none⟩) hbw).trans h2
          have c3' := (HBW1.out.cell (p := ⟨bb, off + k * 37 + 3, none⟩) hbw).trans h3
          refine wp_region_list ?_
          repeat (first
            | (refine wpList_store_row (by rfl) 28 (.tmp 9) (.tmp 27) (by rfl) wr.heap.size (ptc { Pt.nil with kind := x.kind }).toArray (by rfl) (by rfl) 28 (ptc Pt.nil).toArray (alloc_new _ _ _ rfl) size_pt (ptsz _ _) (all_pt _) ?_
               have hw := HW1.out
               first
                 | rw [← hw]
                 | (change wpList _ _ _ _ _ ((wr.alloc (.cells (ptc Pt.nil).toArray 28)).setRow wr.heap.size (ptc { Pt.nil with kind := x.kind }).toArray); rw [← hw])
               clear hw)
            | go_values | go_skip | go_guarded | go_step | go_upon)
          clear HW1
          have HWT1 := Lib.hid (HWT.out.own.below HBW1.out)
          have HBI1 := Lib.hid (HBI.out.below (HBW1.out.mono hszr))
          have HBS1 := Lib.hid (fun x hx => (HWT.out.bs x hx).below (HBW1.out.mono hszr))
          refine (get_any A' c' r W1 (HBI1.out.bs.more (by rw [HSZ1.out]; omega)) HBI1.out.cap HBI1.out.byt (by omega)).mono ?_
          rintro e W2 ⟨rfl, l2⟩
          obtain ⟨G, hG⟩ : ∃ G, G = getR r := ⟨_, rfl⟩
          have HG := Lib.hid hG
          rw [← hG]
          clear hG
          obtain ⟨n, m⟩ := G
          simp only []
          have HB2 := Lib.hid (HBW1.out.trans (l2.mono (by rw [HSZ1.out]; omega)))
          have HPB2 := Lib.hid (HPB1.out.keep (l2.block _ HPB1.out.lt))
          clear l2 c0 c2' c3'
          have c0 := (HB2.out.cell (p := ⟨bb, off + k * 37, none⟩) hbw).trans h0
          have c2' := (HB2.out.cell (p := ⟨bb, off + k * 37 + 2, none⟩) hbw).trans h2
          have c3' := (HB2.out.cell (p := ⟨bb, off + k * 37 + 3, none⟩) hbw).trans h3
          have d1 := HPB2.out.cell 1 rfl
          have e1 := HPB2.out.free 1
          go_at_K
          go_upto_region 12 with (fail)
          obtain ⟨W3, hW3⟩ : ∃ W3, W3 = W2.setCell ⟨wr.heap.size, 1, none⟩ (.int .i64 n) := ⟨_, rfl⟩
          change Code.wp _ _ _ _ (W2.setCell ⟨wr.heap.size, 1, none⟩ (.int .i64 n))
          rw [← hW3]
          have HPB3 := Lib.hid (show PB W3 wr.heap.size { Pt.nil with kind := x.kind, n := n } from by rw [hW3]; exact HPB2.out.setN n)
          have HB3 := Lib.hid (show Below wr.heap.size wr W3 from by rw [hW3]; exact HB2.out.setCell (Nat.le_refl _) _)
          clear hW3 c0 c2' c3' d1 e1
          have c0 := (HB3.out.cell (p := ⟨bb, off + k * 37, none⟩) hbw).trans h0
          have c2' := (HB3.out.cell (p := ⟨bb, off + k * 37 + 2, none⟩) hbw).trans h2
          have c3' := (HB3.out.cell (p := ⟨bb, off + k * 37 + 3, none⟩) hbw).trans h3
          by_cases hlo : n < x.least
          · go_upto_region 28 with (fail)
            have HT := Lib.hid (show takeR x (some r) = (some { Pt.nil with kind := x.kind }, none) from (by rw [HK.out]; exact want1_no HK.out (by rw [← HG.out]; exact .inr (.inl hlo))))
            have HBx := Lib.hid (show Below wr.heap.size wr W3 from HB3.out)
            have HOx := Lib.hid ((Own.below HWT.out.own HBx.out).alloc (.cells (ptc { Pt.nil with kind := x.kind }).toArray 28))
            have hsx := HBx.out.size
            refine wp_region_list ?_
            repeat (first
              | (at_builtin
                 refine wpl_app _ rfl (.tmp 96) (.tmp 103) 23 rfl w.heap.size 28 ip _ 37 88 Try.underlying23 hip hpz0 hpz1 hpz2 (ptc_len Pt.nil) (by omega) _ out.length (pf out) rfl HOx.out (W3.heap.size + 1) (some ⟨W3.heap.size, 0, none⟩) 1 1 (pf [{ Pt.nil with kind := x.kind }]) rfl (Rd.new (pf_one { Pt.nil with kind := x.kind })) (by intro h; cases h) (pf_one1 { Pt.nil with kind := x.kind }) (by unfold maxLen; omega) (by omega) (by simp; omega) ?_
                 intro v8 w8 o8 g8 a8)
              | go_values | go_skip | go_guarded | go_step | go_upon)
            have hb8 : Below w.heap.size w (W3.alloc (.cells (ptc { Pt.nil with kind := x.kind }).toArray 28)) := (HWT.out.below.trans (HBx.out.mono hszr)).alloc (by omega) _
            have hput := HWT.out.put (z := { Pt.nil with kind := x.kind }) hb8 (by rw [World.size_alloc]; omega) o8 g8 Bs.nil rfl (by omega) (fun z hz => ((HWT.out.bs z hz).below ((HBx.out.mono hszr).alloc (by omega) _)))
            have hb9 : Below w.heap.size (W3.alloc (.cells (ptc { Pt.nil with kind := x.kind }).toArray 28)) w8 := (Below.refl _ _).grown g8 (by rw [World.size_alloc]; omega) (fun q e => (Own.block HWT.out.own q e).1)
            have hbi := HBI.out.below (((HBx.out.mono hszr).alloc (by omega) (.cells (ptc { Pt.nil with kind := x.kind }).toArray 28)).trans hb9)
            refine ⟨⟨k + 1, by go_num, by omega, out ++ [{ Pt.nil with kind := x.kind }], A', c', r, ?_, rfl, hbi, .inr ⟨rfl, ?_⟩⟩, ?_⟩
            rotate_left
            · rw [HS.out, HT.out]
            · simp [intOf]; omega
            · rw [HS.out, HT.out]; exact hput
          · by_cases hhi : x.most < n
            · go_upto_region 28 with (fail)
              have HT := Lib.hid (show takeR x (some r) = (some { Pt.nil with kind := x.kind }, none) from (by rw [HK.out]; exact want1_no HK.out (by rw [← HG.out]; exact .inr (.inr hhi))))
              have HBx := Lib.hid (show Below wr.heap.size wr W3 from HB3.out)
              have HOx := Lib.hid ((Own.below HWT.out.own HBx.out).alloc (.cells (ptc { Pt.nil with kind := x.kind }).toArray 28))
              have hsx := HBx.out.size
              refine wp_region_list ?_
              repeat (first
                | (at_builtin
                   refine wpl_app _ rfl (.tmp 96) (.tmp 103) 23 rfl w.heap.size 28 ip _ 37 88 Try.underlying23 hip hpz0 hpz1 hpz2 (ptc_len Pt.nil) (by omega) _ out.length (pf out) rfl HOx.out (W3.heap.size + 1) (some ⟨W3.heap.size, 0, none⟩) 1 1 (pf [{ Pt.nil with kind := x.kind }]) rfl (Rd.new (pf_one { Pt.nil with kind := x.kind })) (by intro h; cases h) (pf_one1 { Pt.nil with kind := x.kind }) (by unfold maxLen; omega) (by omega) (by simp; omega) ?_
                   intro v8 w8 o8 g8 a8)
                | go_values | go_skip | go_guarded | go_step | go_upon)
              have hb8 : Below w.heap.size w (W3.alloc (.cells (ptc { Pt.nil with kind := x.kind }).toArray 28)) := (HWT.out.below.trans (HBx.out.mono hszr)).alloc (by omega) _
              have hput := HWT.out.put (z := { Pt.nil with kind := x.kind }) hb8 (by rw [World.size_alloc]; omega) o8 g8 Bs.nil rfl (by omega) (fun z hz => ((HWT.out.bs z hz).below ((HBx.out.mono hszr).alloc (by omega) _)))
              have hb9 : Below w.heap.size (W3.alloc (.cells (ptc { Pt.nil with kind := x.kind }).toArray 28)) w8 := (Below.refl _ _).grown g8 (by rw [World.size_alloc]; omega) (fun q e => (Own.block HWT.out.own q e).1)
              have hbi := HBI.out.below (((HBx.out.mono hszr).alloc (by omega) (.cells (ptc { Pt.nil with kind := x.kind }).toArray 28)).trans hb9)
              refine ⟨⟨k + 1, by go_num, by omega, out ++ [{ Pt.nil with kind := x.kind }], A', c', r, ?_, rfl, hbi, .inr ⟨rfl, ?_⟩⟩, ?_⟩
              rotate_left
              · rw [HS.out, HT.out]
              · simp [intOf]; omega
              · rw [HS.out, HT.out]; exact hput
            · by_cases hm0 : m = 0
              · have hm0b : ((m : Int) == 0) = true := by rw [hm0]; rfl
                go_upto_region 28 with (fail)
                have HT := Lib.hid (show takeR x (some r) = (some { Pt.nil with kind := x.kind }, none) from (by rw [HK.out]; exact want1_no HK.out (by rw [← HG.out]; exact .inl hm0)))
                have HBx := Lib.hid (show Below wr.heap.size wr W3 from HB3.out)
                have HOx := Lib.hid ((Own.below HWT.out.own HBx.out).alloc (.cells (ptc { Pt.nil with kind := x.kind }).toArray 28))
                have hsx := HBx.out.size
                refine wp_region_list ?_
                repeat (first
                  | (at_builtin
                     refine wpl_app _ rfl (.tmp 96) (.tmp 103) 23 rfl w.heap.size 28 ip _ 37 88 Try.underlying23 hip hpz0 hpz1 hpz2 (ptc_len Pt.nil) (by omega) _ out.length (pf out) rfl HOx.out (W3.heap.size + 1) (some ⟨W3.heap.size, 0, none⟩) 1 1 (pf [{ Pt.nil with kind := x.kind }]) rfl (Rd.new (pf_one { Pt.nil with kind := x.kind })) (by intro h; cases h) (pf_one1 { Pt.nil with kind := x.kind }) (by unfold maxLen; omega) (by omega) (by simp; omega) ?_
                     intro v8 w8 o8 g8 a8)
                  | go_values | go_skip | go_guarded | go_step | go_upon)
                have hb8 : Below w.heap.size w (W3.alloc (.cells (ptc { Pt.nil with kind := x.kind }).toArray 28)) := (HWT.out.below.trans (HBx.out.mono hszr)).alloc (by omega) _
                have hput := HWT.out.put (z := { Pt.nil with kind := x.kind }) hb8 (by rw [World.size_alloc]; omega) o8 g8 Bs.nil rfl (by omega) (fun z hz => ((HWT.out.bs z hz).below ((HBx.out.mono hszr).alloc (by omega) _)))
                have hb9 : Below w.heap.size (W3.alloc (.cells (ptc { Pt.nil with kind := x.kind }).toArray 28)) w8 := (Below.refl _ _).grown g8 (by rw [World.size_alloc]; omega) (fun q e => (Own.block HWT.out.own q e).1)
                have hbi := HBI.out.below (((HBx.out.mono hszr).alloc (by omega) (.cells (ptc { Pt.nil with kind := x.kind }).toArray 28)).trans hb9)
                refine ⟨⟨k + 1, by go_num, by omega, out ++ [{ Pt.nil with kind := x.kind }], A', c', r, ?_, rfl, hbi, .inr ⟨rfl, ?_⟩⟩, ?_⟩
                rotate_left
                · rw [HS.out, HT.out]
                · simp [intOf]; omega
                · rw [HS.out, HT.out]; exact hput
              · have hm0b : ((m : Int) == 0) = false := by rw [beq_eq_false_iff_ne]; omega
                have HY := Lib.hid (want1_yes HK.out (by rw [← HG.out]; exact hm0) (by rw [← HG.out]; omega) (by rw [← HG.out]; omega))
                rw [← HG.out] at HY
                have HT := Lib.hid (show takeR x (some r) = (some { Pt.nil with kind := 1, n := n }, some (r.drop m)) from HY.out.1)
                have hmm : m ≤ r.length := HY.out.2
                have HBx := Lib.hid (show Below wr.heap.size wr W3 from HB3.out)
                have HPX := Lib.hid (show PB W3 wr.heap.size { Pt.nil with kind := x.kind, n := n } from HPB3.out)
                have HKX := Lib.hid (show key { Pt.nil with kind := x.kind, n := n } = key { Pt.nil with kind := 1, n := n } from by rw [HK.out])
                have HBSX := Lib.hid (show Bs W3 w.heap.size (Pt.A { Pt.nil with kind := x.kind, n := n }) (Pt.b { Pt.nil with kind := x.kind, n := n }) from Bs.nil)
                obtain ⟨wx, hwx⟩ : ∃ wx : Pt, wx = { Pt.nil with kind := x.kind, n := n } := ⟨_, rfl⟩
                rw [← hwx] at HPX HKX HBSX
                clear hwx HPB3 HPB1 HPB2 hm0
                have HOx := Lib.hid ((Own.below HWT.out.own HBx.out).alloc (.cells (ptc wx).toArray 28))
                have hsx := HBx.out.size
                have hwl := ptc_len wx
                have hwf := fold_pt wx
                by_cases hcm : c' = m
                · go_upto_region 29 with (fail)
                  refine wp_region_list ?_
                  repeat' (first
                    | (refine wpList_load_row (by rfl) 28 (.tmp 9) (by rfl) wr.heap.size (by rfl) 28 (ptc wx).toArray (0, 0) _ HPX.out Try.underlying28 (by rfl) size_pt ?_)
                    | (at_builtin
                       refine wpl_app _ rfl (.tmp 105) (.tmp 107) 23 rfl w.heap.size 28 ip _ 37 88 Try.underlying23 hip hpz0 hpz1 hpz2 (ptc_len Pt.nil) (by omega) _ out.length (pf out) rfl HOx.out (W3.heap.size + 1) (some ⟨W3.heap.size, 0, none⟩) 1 1 (pf [wx]) rfl (Rd.new (pf_one wx)) (by intro h; cases h) (pf_one1 wx) (by unfold maxLen; omega) (by omega) (by simp; omega) ?_
                       intro v8 w8 o8 g8 a8)
                    | go_values | go_skip | go_guarded | go_step | go_upon)
                  have hb8 : Below w.heap.size w (W3.alloc (.cells (ptc wx).toArray 28)) := (HWT.out.below.trans (HBx.out.mono hszr)).alloc (by omega) _
                  have hput := HWT.out.put hb8 (by rw [World.size_alloc]; omega) o8 g8 (HBSX.out.alloc (by omega) _) HKX.out (by omega) (fun z hz => ((HWT.out.bs z hz).below ((HBx.out.mono hszr).alloc (by omega) _)))
                  have hb9 : Below w.heap.size (W3.alloc (.cells (ptc wx).toArray 28)) w8 := (Below.refl _ _).grown g8 (by rw [World.size_alloc]; omega) (fun q e => (Own.block HWT.out.own q e).1)
                  have hbi := HBI.out.below (((HBx.out.mono hszr).alloc (by omega) (.cells (ptc wx).toArray 28)).trans hb9)
                  refine ⟨⟨k + 1, by go_num, by omega, out ++ [wx], A', 0, r.drop m, ?_, by rw [List.length_drop], (by have := hbi.drop (A' := A') hmm (.inl ⟨hcm, rfl⟩); rwa [show c' - m = 0 from by omega] at this), .inl ⟨rfl, ?_⟩⟩, ?_⟩
                  rotate_left
                  · rw [HS.out, HT.out]
                  · simp [intOf]; omega
                  · rw [HS.out, HT.out]; exact hput
                · go_upto_region 29 with (fail)
                  refine wp_region_list ?_
                  repeat' (first
                    | (refine wpList_load_row (by rfl) 28 (.tmp 9) (by rfl) wr.heap.size (by rfl) 28 (ptc wx).toArray (0, 0) _ HPX.out Try.underlying28 (by rfl) size_pt ?_)
                    | (at_builtin
                       refine wpl_app _ rfl (.tmp 105) (.tmp 107) 23 rfl w.heap.size 28 ip _ 37 88 Try.underlying23 hip hpz0 hpz1 hpz2 (ptc_len Pt.nil) (by omega) _ out.length (pf out) rfl HOx.out (W3.heap.size + 1) (some ⟨W3.heap.size, 0, none⟩) 1 1 (pf [wx]) rfl (Rd.new (pf_one wx)) (by intro h; cases h) (pf_one1 wx) (by unfold maxLen; omega) (by omega) (by simp; omega) ?_
                       intro v8 w8 o8 g8 a8)
                    | go_values | go_skip | go_guarded | go_step | go_upon)
                  have hb8 : Below w.heap.size w (W3.alloc (.cells (ptc wx).toArray 28)) := (HWT.out.below.trans (HBx.out.mono hszr)).alloc (by omega) _
                  have hput := HWT.out.put hb8 (by rw [World.size_alloc]; omega) o8 g8 (HBSX.out.alloc (by omega) _) HKX.out (by omega) (fun z hz => ((HWT.out.bs z hz).below ((HBx.out.mono hszr).alloc (by omega) _)))
                  have hb9 : Below w.heap.size (W3.alloc (.cells (ptc wx).toArray 28)) w8 := (Below.refl _ _).grown g8 (by rw [World.size_alloc]; omega) (fun q e => (Own.block HWT.out.own q e).1)
                  have hbi := HBI.out.below (((HBx.out.mono hszr).alloc (by omega) (.cells (ptc wx).toArray 28)).trans hb9)
                  refine ⟨⟨k + 1, by go_num, by omega, out ++ [wx], A'.map (·.add m), c' - m, r.drop m, ?_, by rw [List.length_drop], hbi.drop hmm (.inr rfl), .inl ⟨rfl, ?_⟩⟩, ?_⟩
                  rotate_left
                  · rw [HS.out, HT.out]
                  · simp [intOf]; omega
                  · rw [HS.out, HT.out]; exact hput
        · by_cases hk2 : x.kind = 2
          · have hb1 : (x.kind == 1) = false := by simp [hk2]
            have hb2 : (x.kind == 2) = true := by simp [hk2]
            have HK := Lib.hid hk2
            clear hk1 hk2
            go_upto_region 6 with (fail)
            obtain ⟨W1, hW1⟩ : ∃ W1, W1 = (wr.alloc (.cells (ptc Pt.nil).toArray 28)).setRow wr.heap.size (ptc { Pt.nil with kind := x.kind }).toArray := ⟨_, rfl⟩
            have HW1 := Lib.hid hW1
            have HPB1 := Lib.hid (show PB W1 wr.heap.size { Pt.nil with kind := x.kind } from by rw [hW1]; exact PB.new _ _)
            have HBW1 := Lib.hid (show Below wr.heap.size wr W1 from by rw [hW1]; exact below_setRow ((Below.refl _ _).alloc (Nat.le_refl _) _) (Nat.le_refl _) _)
            have HSZ1 := Lib.hid (show W1.heap.size = wr.heap.size + 1 from by rw [hW1]; simp [World.setRow])
            clear hW1
            have hbw : bb < wr.heap.size := by omega
            have c0 := (HBW1.out.cell (p := ⟨bb, off + k * 37, none⟩) hbw).trans h0
            have c2' := (HBW1.out.cell (p := ⟨bb, off + k * 37 + 2, none⟩) hbw).trans h2
            have c3' := (HBW1.out.cell (p := ⟨bb, off + k * 37 + 3, none⟩) hbw).trans h3
            refine wp_region_list ?_
            repeat (first
              | (refine wpList_store_row (by rfl) 28 (.tmp 9) (.tmp 27) (by rfl) wr.heap.size (ptc { Pt.nil with kind := x.kind }).toArray (by rfl) (by rfl) 28 (ptc Pt.nil).toArray (alloc_new _ _ _ rfl) size_pt (ptsz _ _) (all_pt _) ?_
                 have hw := HW1.out
                 first
                   | rw [← hw]
                   | (change wpList _ _ _ _ _ ((wr.alloc (.cells (ptc Pt.nil).toArray 28)).setRow wr.heap.size (ptc { Pt.nil with kind := x.kind }).toArray); rw [← hw])
                 clear hw)
              | go_values | go_skip | go_guarded | go_step | go_upon)
            clear HW1
            have HWT1 := Lib.hid (HWT.out.own.below HBW1.out)
            have HBI1 := Lib.hid (HBI.out.below (HBW1.out.mono hszr))
            have HBS1 := Lib.hid (fun x hx => (HWT.out.bs x hx).below (HBW1.out.mono hszr))
            refine (gettext_any w.heap.size A' c' r (x.most.tmod 100000) W1 (by rw [HSZ1.out]; omega) HBI1.out.bs HBI1.out.cap HBI1.out.none_ HBI1.out.byt (by omega)).mono ?_
            rintro e W2 ⟨At, ct, rfl, bt, l2⟩
            obtain ⟨G, hG⟩ : ∃ G, G = gtR (x.most.tmod 100000) r := ⟨_, rfl⟩
            have HG := Lib.hid hG
            rw [← hG] at bt ⊢
            clear hG
            obtain ⟨t, m⟩ := G
            simp only [] at bt ⊢
            have HBT := Lib.hid bt
            have HB2 := Lib.hid (HBW1.out.trans (l2.mono (by rw [HSZ1.out]; omega)))
            have HPB2 := Lib.hid (HPB1.out.keep (l2.block _ HPB1.out.lt))
            clear l2 c0 c2' c3' bt
            have c0 := (HB2.out.cell (p := ⟨bb, off + k * 37, none⟩) hbw).trans h0
            have d1 := HPB2.out.cell 4 rfl
            have e1 := HPB2.out.free 4
            go_at_K
            go_upto_region 18 with (fail)
            obtain ⟨W3, hW3⟩ : ∃ W3, W3 = W2.setCell ⟨wr.heap.size, 4, none⟩ (.slice At t.length ct) := ⟨_, rfl⟩
            change Code.wp _ _ _ _ (W2.setCell ⟨wr.heap.size, 4, none⟩ (.slice At t.length ct))
            rw [← hW3]
            have HPB3 := Lib.hid (show PB W3 wr.heap.size { Pt.nil with kind := x.kind, A := At, b := t, c := ct } from by rw [hW3]; exact HPB2.out.setB At t ct)
            have HB3 := Lib.hid (show Below wr.heap.size wr W3 from by rw [hW3]; exact HB2.out.setCell (Nat.le_refl _) _)
            have HBT3 := Lib.hid (show Bs W3 w.heap.size At t from by rw [hW3]; exact HBT.out.setCell (by exact hszr) _)
            clear hW3 c0 d1 e1
            have c0 := (HB3.out.cell (p := ⟨bb, off + k * 37, none⟩) hbw).trans h0
            by_cases hm0 : m = 0
            · have hm0b : ((m : Int) == 0) = true := by rw [hm0]; rfl
              go_upto_region 28 with (fail)
              have HT := Lib.hid (show takeR x (some r) = (some { Pt.nil with kind := x.kind }, none) from (by rw [HK.out]; exact want2_no HK.out (by rw [← HG.out]; exact hm0)))
              have HBx := Lib.hid (show Below wr.heap.size wr W3 from HB3.out)
              have HOx := Lib.hid ((Own.below HWT.out.own HBx.out).alloc (.cells (ptc { Pt.nil with kind := x.kind }).toArray 28))
              have hsx := HBx.out.size
              refine wp_region_list ?_
              repeat (first
                | (at_builtin
                   refine wpl_app _ rfl (.tmp 96) (.tmp 103) 23 rfl w.heap.size 28 ip _ 37 88 Try.underlying23 hip hpz0 hpz1 hpz2 (ptc_len Pt.nil) (by omega) _ out.length (pf out) rfl HOx.out (W3.heap.size + 1) (some ⟨W3.heap.size, 0, none⟩) 1 1 (pf [{ Pt.nil with kind := x.kind }]) rfl (Rd.new (pf_one { Pt.nil with kind := x.kind })) (by intro h; cases h) (pf_one1 { Pt.nil with kind := x.kind }) (by unfold maxLen; omega) (by omega) (by simp; omega) ?_
                   intro v8 w8 o8 g8 a8)
                | go_values | go_skip | go_guarded | go_step | go_upon)
              have hb8 : Below w.heap.size w (W3.alloc (.cells (ptc { Pt.nil with kind := x.kind }).toArray 28)) := (HWT.out.below.trans (HBx.out.mono hszr)).alloc (by omega) _
              have hput := HWT.out.put (z := { Pt.nil with kind := x.kind }) hb8 (by rw [World.size_alloc]; omega) o8 g8 Bs.nil rfl (by omega) (fun z hz => ((HWT.out.bs z hz).below ((HBx.out.mono hszr).alloc (by omega) _)))
              have hb9 : Below w.heap.size (W3.alloc (.cells (ptc { Pt.nil with kind := x.kind }).toArray 28)) w8 := (Below.refl _ _).grown g8 (by rw [World.size_alloc]; omega) (fun q e => (Own.block HWT.out.own q e).1)
              have hbi := HBI.out.below (((HBx.out.mono hszr).alloc (by omega) (.cells (ptc { Pt.nil with kind := x.kind }).toArray 28)).trans hb9)
              refine ⟨⟨k + 1, by go_num, by omega, out ++ [{ Pt.nil with kind := x.kind }], A', c', r, ?_, rfl, hbi, .inr ⟨rfl, ?_⟩⟩, ?_⟩
              rotate_left
              · rw [HS.out, HT.out]
              · simp [intOf]; omega
              · rw [HS.out, HT.out]; exact hput
            · have hm0b : ((m : Int) == 0) = false := by rw [beq_eq_false_iff_ne]; omega
              have HY := Lib.hid (want2_yes HK.out (by rw [← HG.out]; exact hm0))
              rw [← HG.out] at HY
              have HT := Lib.hid (show takeR x (some r) = (some { Pt.nil with kind := 2, b := t }, some (r.drop m)) from HY.out.1)
              have hmm : m ≤ r.length := HY.out.2
              have HBx := Lib.hid (show Below wr.heap.size wr W3 from HB3.out)
              have HPX := Lib.hid (show PB W3 wr.heap.size { Pt.nil with kind := x.kind, A := At, b := t, c := ct } from HPB3.out)
              have HKX := Lib.hid (show key { Pt.nil with kind := x.kind, A := At, b := t, c := ct } = key { Pt.nil with kind := 2, b := t } from by rw [HK.out]; rfl)
              have HBSX := Lib.hid (show Bs W3 w.heap.size (Pt.A { Pt.nil with kind := x.kind, A := At, b := t, c := ct }) (Pt.b { Pt.nil with kind := x.kind, A := At, b := t, c := ct }) from HBT3.out)
              obtain ⟨wx, hwx⟩ : ∃ wx : Pt, wx = { Pt.nil with kind := x.kind, A := At, b := t, c := ct } := ⟨_, rfl⟩
              rw [← hwx] at HPX HKX HBSX
              clear hwx HPB3 HPB1 HPB2 hm0
              have HOx := Lib.hid ((Own.below HWT.out.own HBx.out).alloc (.cells (ptc wx).toArray 28))
              have hsx := HBx.out.size
              have hwl := ptc_len wx
              have hwf := fold_pt wx
              by_cases hcm : c' = m
              · go_upto_region 29 with (fail)
                refine wp_region_list ?_
                repeat' (first
                  | (refine wpList_load_row (by rfl) 28 (.tmp 9) (by rfl) wr.heap.size (by rfl) 28 (ptc wx).toArray (0, 0) _ HPX.out Try.underlying28 (by rfl) size_pt ?_)
                  | (at_builtin
                     refine wpl_app _ rfl (.tmp 105) (.tmp 107) 23 rfl w.heap.size 28 ip _ 37 88 Try.underlying23 hip hpz0 hpz1 hpz2 (ptc_len Pt.nil) (by omega) _ out.length (pf out) rfl HOx.out (W3.heap.size + 1) (some ⟨W3.heap.size, 0, none⟩) 1 1 (pf [wx]) rfl (Rd.new (pf_one wx)) (by intro h; cases h) (pf_one1 wx) (by unfold maxLen; omega) (by omega) (by simp; omega) ?_
                     intro v8 w8 o8 g8 a8)
                  | go_values | go_skip | go_guarded | go_step | go_upon)
                have hb8 : Below w.heap.size w (W3.alloc (.cells (ptc wx).toArray 28)) := (HWT.out.below.trans (HBx.out.mono hszr)).alloc (by omega) _
                have hput := HWT.out.put hb8 (by rw [World.size_alloc]; omega) o8 g8 (HBSX.out.alloc (by omega) _) HKX.out (by omega) (fun z hz => ((HWT.out.bs z hz).below ((HBx.out.mono hszr).alloc (by omega) _)))
                have hb9 : Below w.heap.size (W3.alloc (.cells (ptc wx).toArray 28)) w8 := (Below.refl _ _).grown g8 (by rw [World.size_alloc]; omega) (fun q e => (Own.block HWT.out.own q e).1)
                have hbi := HBI.out.below (((HBx.out.mono hszr).alloc (by omega) (.cells (ptc wx).toArray 28)).trans hb9)
                refine ⟨⟨k + 1, by go_num, by omega, out ++ [wx], A', 0, r.drop m, ?_, by rw [List.length_drop], (by have := hbi.drop (A' := A') hmm (.inl ⟨hcm, rfl⟩); rwa [show c' - m = 0 from by omega] at this), .inl ⟨rfl, ?_⟩⟩, ?_⟩
                rotate_left
                · rw [HS.out, HT.out]
                · simp [intOf]; omega
                · rw [HS.out, HT.out]; exact hput
              · go_upto_region 29 with (fail)
                refine wp_region_list ?_
                repeat' (first
                  | (refine wpList_load_row (by rfl) 28 (.tmp 9) (by rfl) wr.heap.size (by rfl) 28 (ptc wx).toArray (0, 0) _ HPX.out Try.underlying28 (by rfl) size_pt ?_)
                  | (at_builtin
                     refine wpl_app _ rfl (.tmp 105) (.tmp 107) 23 rfl w.heap.size 28 ip _ 37 88 Try.underlying23 hip hpz0 hpz1 hpz2 (ptc_len Pt.nil) (by omega) _ out.length (pf out) rfl HOx.out (W3.heap.size + 1) (some ⟨W3.heap.size, 0, none⟩) 1 1 (pf [wx]) rfl (Rd.new (pf_one wx)) (by intro h; cases h) (pf_one1 wx) (by unfold maxLen; omega) (by omega) (by simp; omega) ?_
                     intro v8 w8 o8 g8 a8)
                  | go_values | go_skip | go_guarded | go_step | go_upon)
                have hb8 : Below w.heap.size w (W3.alloc (.cells (ptc wx).toArray 28)) := (HWT.out.below.trans (HBx.out.mono hszr)).alloc (by omega) _
                have hput := HWT.out.put hb8 (by rw [World.size_alloc]; omega) o8 g8 (HBSX.out.alloc (by omega) _) HKX.out (by omega) (fun z hz => ((HWT.out.bs z hz).below ((HBx.out.mono hszr).alloc (by omega) _)))
                have hb9 : Below w.heap.size (W3.alloc (.cells (ptc wx).toArray 28)) w8 := (Below.refl _ _).grown g8 (by rw [World.size_alloc]; omega) (fun q e => (Own.block HWT.out.own q e).1)
                have hbi := HBI.out.below (((HBx.out.mono hszr).alloc (by omega) (.cells (ptc wx).toArray 28)).trans hb9)
                refine ⟨⟨k + 1, by go_num, by omega, out ++ [wx], A'.map (·.add m), c' - m, r.drop m, ?_, by rw [List.length_drop], hbi.drop hmm (.inr rfl), .inl ⟨rfl, ?_⟩⟩, ?_⟩
                rotate_left
                · rw [HS.out, HT.out]
                · simp [intOf]; omega
                · rw [HS.out, HT.out]; exact hput
          · by_cases hk3 : x.kind = 3
            · have hb1 : (x.kind == 1) = false := by simp [hk3]
              have hb2 : (x.kind == 2) = false := by simp [hk3]
              have hb3 : (x.kind == 3) = true := by simp [hk3]
              have HK := Lib.hid hk3
              clear hk1 hk2 hk3
              go_upto_region 6 with (fail)
              obtain ⟨W1, hW1⟩ : ∃ W1, W1 = (wr.alloc (.cells (ptc Pt.nil).toArray 28)).setRow wr.heap.size (ptc { Pt.nil with kind := x.kind }).toArray := ⟨_, rfl⟩
              have HW1 := Lib.hid hW1
              have HPB1 := Lib.hid (show PB W1 wr.heap.size { Pt.nil with kind := x.kind } from by rw [hW1]; exact PB.new _ _)
              have HBW1 := Lib.hid (show Below wr.heap.size wr W1 from by rw [hW1]; exact below_setRow ((Below.refl _ _).alloc (Nat.le_refl _) _) (Nat.le_refl _) _)
              have HSZ1 := Lib.hid (show W1.heap.size = wr.heap.size + 1 from by rw [hW1]; simp [World.setRow])
              clear hW1
              have hbw : bb < wr.heap.size := by omega
              have c0 := (HBW1.out.cell (p := ⟨bb, off + k * 37, none⟩) hbw).trans h0
              have c2' := (HBW1.out.cell (p := ⟨bb, off + k * 37 + 2, none⟩) hbw).trans h2
              have c3' := (HBW1.out.cell (p := ⟨bb, off + k * 37 + 3, none⟩) hbw).trans h3
              refine wp_region_list ?_
              repeat (first
                | (refine wpList_store_row (by rfl) 28 (.tmp 9) (.tmp 27) (by rfl) wr.heap.size (ptc { Pt.nil with kind := x.kind }).toArray (by rfl) (by rfl) 28 (ptc Pt.nil).toArray (alloc_new _ _ _ rfl) size_pt (ptsz _ _) (all_pt _) ?_
                   have hw := HW1.out
                   first
                     | rw [← hw]
                     | (change wpList _ _ _ _ _ ((wr.alloc (.cells (ptc Pt.nil).toArray 28)).setRow wr.heap.size (ptc { Pt.nil with kind := x.kind }).toArray); rw [← hw])
                   clear hw)
                | go_values | go_skip | go_guarded | go_step | go_upon)
              clear HW1
              have HWT1 := Lib.hid (HWT.out.own.below HBW1.out)
              have HBI1 := Lib.hid (HBI.out.below (HBW1.out.mono hszr))
              have HBS1 := Lib.hid (fun x hx => (HWT.out.bs x hx).below (HBW1.out.mono hszr))
              obtain ⟨W0, hW0⟩ : ∃ W0, W0 = wr := ⟨_, rfl⟩
              subst hW0
              by_cases h32 : 32 ≤ r.length
              · have h32i : (32 : Int) ≤ (r.length : Int) := by omega
                obtain ⟨b3, off3, rfl, hb3, hcell⟩ := HBI.out.bs (by omega)
                have HC := Lib.hid hcell
                clear hcell
                go_loopw [10, 15] (fun kk q wr => ∃ j : Nat, q = .int .i64 (j : Int) ∧ j ≤ 32 ∧ ((j = 0 ∧ kk = .int .i64 0) ∨ (0 < j ∧ kk = .int .i64 32)) ∧ PB wr W0.heap.size { Pt.nil with kind := x.kind, h := fun i => if i < j then r[i]?.getD 0 else 0 } ∧ Below W0.heap.size W0 wr) (fun _ q _ => (32 - intOf q).toNat)
                case atStart => exact ⟨0, rfl, by omega, .inl ⟨rfl, rfl⟩, by
                  have e : (fun i => if i < 0 then r[i]?.getD 0 else 0) = (fun _ : Nat => 0) := funext fun i => if_neg (Nat.not_lt_zero i)
                  rw [e]; exact HPB1.out, HBW1.out⟩
                case round =>
                  obtain ⟨j, rfl, hj, hkk, hpb, hbq⟩ := hrel
                  have HPBj := Lib.hid hpb
                  have HBq := Lib.hid hbq
                  by_cases hj32 : j < 32
                  · have hv := ((hbq.cell (p := ⟨b3, off3 + j, none⟩) (by show b3 < _; omega)).trans (HC.out j (by omega)))
                    unfold bf at hv
                    have hr256 := HBI.out.byt.at_ j
                    have d1 := HPBj.out.cellH j hj32
                    have e1 := HPBj.out.free (5 + j)
                    simp only [Nat.lt_irrefl, if_false] at d1
                    clear hpb hbq
                    go_wp2_with fail
                    go_roundw
                    case rel =>
                      refine ⟨j + 1, by go_num, by omega, .inr ⟨by omega, rfl⟩, ?_, HBq.out.setCell (p := ⟨W0.heap.size, 5 + j, none⟩) (Nat.le_refl _) _⟩
                      have h1 := HPBj.out.setHq j (r[j]?.getD 0) hj32
                      have e : (fun i => if i = j then r[j]?.getD 0 else if i < j then r[i]?.getD 0 else 0) = (fun i => if i < j + 1 then r[i]?.getD 0 else 0) := funext fun i => by
                        by_cases h1 : i = j
                        · rw [if_pos h1, if_pos (by omega), h1]
                        · rw [if_neg h1]
                          by_cases h2 : i < j
                          · rw [if_pos h2, if_pos (by omega)]
                          · rw [if_neg h2, if_neg (by omega)]
                      simp only at h1
                      rw [e] at h1
                      exact h1
                    case measure => simp [intOf]; omega
                  · obtain rfl : j = 32 := by omega
                    obtain ⟨h, -⟩ | ⟨-, rfl⟩ := hkk
                    · omega
                    · clear hpb hbq hj hj32
                      have c0 := (HBq.out.cell (p := ⟨bb, off + k * 37, none⟩) hbw).trans h0
                      have hm0 : True := trivial
                      have HT := Lib.hid (show takeR x (some r) = (some { Pt.nil with kind := 3, h := fun j => r[j]?.getD 0 }, some (r.drop 32)) from want3_yes HK.out h32)
                      have hmm : 32 ≤ r.length := h32
                      have HBx := Lib.hid (show Below W0.heap.size W0 wr from HBq.out)
                      have HPX := Lib.hid (show PB wr W0.heap.size { Pt.nil with kind := x.kind, h := fun i => if i < 32 then r[i]?.getD 0 else 0 } from HPBj.out)
                      have HKX := Lib.hid (show key { Pt.nil with kind := x.kind, h := fun i => if i < 32 then r[i]?.getD 0 else 0 } = key { Pt.nil with kind := 3, h := fun j => r[j]?.getD 0 } from by rw [HK.out]; unfold key; simp only [Prod.mk.injEq, true_and]; exact hc_congr2 fun j hj => if_pos hj)
                      have HBSX := Lib.hid (show Bs wr w.heap.size (Pt.A { Pt.nil with kind := x.kind, h := fun i => if i < 32 then r[i]?.getD 0 else 0 }) (Pt.b { Pt.nil with kind := x.kind, h := fun i => if i < 32 then r[i]?.getD 0 else 0 }) from Bs.nil)
                      obtain ⟨wx, hwx⟩ : ∃ wx : Pt, wx = { Pt.nil with kind := x.kind, h := fun i => if i < 32 then r[i]?.getD 0 else 0 } := ⟨_, rfl⟩
                      rw [← hwx] at HPX HKX HBSX
                      clear hwx HPBj HPB1 hm0
                      have HOx := Lib.hid ((Own.below HWT.out.own HBx.out).alloc (.cells (ptc wx).toArray 28))
                      have hsx := HBx.out.size
                      have hwl := ptc_len wx
                      have hwf := fold_pt wx
                      by_cases hcm : c' = 32
                      · go_upto_region 29 with (fail)
                        refine wp_region_list ?_
                        repeat' (first
                          | (refine wpList_load_row (by rfl) 28 (.tmp 9) (by rfl) W0.heap.size (by rfl) 28 (ptc wx).toArray (0, 0) _ HPX.out Try.underlying28 (by rfl) size_pt ?_)
                          | (at_builtin
                             refine wpl_app _ rfl (.tmp 105) (.tmp 107) 23 rfl w.heap.size 28 ip _ 37 88 Try.underlying23 hip hpz0 hpz1 hpz2 (ptc_len Pt.nil) (by omega) _ out.length (pf out) rfl HOx.out (wr.heap.size + 1) (some ⟨wr.heap.size, 0, none⟩) 1 1 (pf [wx]) rfl (Rd.new (pf_one wx)) (by intro h; cases h) (pf_one1 wx) (by unfold maxLen; omega) (by omega) (by simp; omega) ?_
                             intro v8 w8 o8 g8 a8)
                          | go_values | go_skip | go_guarded | go_step | go_upon)
                        have hb8 : Below w.heap.size w (wr.alloc (.cells (ptc wx).toArray 28)) := (HWT.out.below.trans (HBx.out.mono hszr)).alloc (by omega) _
                        have hput := HWT.out.put hb8 (by rw [World.size_alloc]; omega) o8 g8 (HBSX.out.alloc (by omega) _) HKX.out (by omega) (fun z hz => ((HWT.out.bs z hz).below ((HBx.out.mono hszr).alloc (by omega) _)))
                        have hb9 : Below w.heap.size (wr.alloc (.cells (ptc wx).toArray 28)) w8 := (Below.refl _ _).grown g8 (by rw [World.size_alloc]; omega) (fun q e => (Own.block HWT.out.own q e).1)
                        have hbi := HBI.out.below (((HBx.out.mono hszr).alloc (by omega) (.cells (ptc wx).toArray 28)).trans hb9)
                        refine ⟨⟨k + 1, by go_num, by omega, out ++ [wx], (some ⟨b3, off3, none⟩ : Option Addr), 0, r.drop 32, ?_, by rw [List.length_drop], (by have := hbi.drop (A' := (some ⟨b3, off3, none⟩ : Option Addr)) hmm (.inl ⟨hcm, rfl⟩); rwa [show c' - 32 = 0 from by omega] at this), .inl ⟨rfl, ?_⟩⟩, ?_⟩
                        rotate_left
                        · rw [HS.out, HT.out]
                        · simp [intOf]; omega
                        · rw [HS.out, HT.out]; exact hput
                      · go_upto_region 29 with (fail)
                        refine wp_region_list ?_
                        repeat' (first
                          | (refine wpList_load_row (by rfl) 28 (.tmp 9) (by rfl) W0.heap.size (by rfl) 28 (ptc wx).toArray (0, 0) _ HPX.out Try.underlying28 (by rfl) size_pt ?_)
                          | (at_builtin
                             refine wpl_app _ rfl (.tmp 105) (.tmp 107) 23 rfl w.heap.size 28 ip _ 37 88 Try.underlying23 hip hpz0 hpz1 hpz2 (ptc_len Pt.nil) (by omega) _ out.length (pf out) rfl HOx.out (wr.heap.size + 1) (some ⟨wr.heap.size, 0, none⟩) 1 1 (pf [wx]) rfl (Rd.new (pf_one wx)) (by intro h; cases h) (pf_one1 wx) (by unfold maxLen; omega) (by omega) (by simp; omega) ?_
                             intro v8 w8 o8 g8 a8)
                          | go_values | go_skip | go_guarded | go_step | go_upon)
                        have hb8 : Below w.heap.size w (wr.alloc (.cells (ptc wx).toArray 28)) := (HWT.out.below.trans (HBx.out.mono hszr)).alloc (by omega) _
                        have hput := HWT.out.put hb8 (by rw [World.size_alloc]; omega) o8 g8 (HBSX.out.alloc (by omega) _) HKX.out (by omega) (fun z hz => ((HWT.out.bs z hz).below ((HBx.out.mono hszr).alloc (by omega) _)))
                        have hb9 : Below w.heap.size (wr.alloc (.cells (ptc wx).toArray 28)) w8 := (Below.refl _ _).grown g8 (by rw [World.size_alloc]; omega) (fun q e => (Own.block HWT.out.own q e).1)
                        have hbi := HBI.out.below (((HBx.out.mono hszr).alloc (by omega) (.cells (ptc wx).toArray 28)).trans hb9)
                        refine ⟨⟨k + 1, by go_num, by omega, out ++ [wx], some ⟨b3, off3 + 32, none⟩, c' - 32, r.drop 32, ?_, by rw [List.length_drop], hbi.drop hmm (.inr (by rw [Option.map_some, add_addr])), .inl ⟨rfl, ?_⟩⟩, ?_⟩
                        rotate_left
                        · rw [HS.out, HT.out]
                        · simp [intOf]; omega
                        · rw [HS.out, HT.out]; exact hput
              · have hd : decide (32 ≤ (r.length : Int)) = false := by simp; omega
                go_loopw [10, 15] (fun kk q wr => q = .int .i64 0 ∧ kk = .int .i64 0 ∧ wr = W1) (fun _ _ _ => 0)
                case atStart => exact ⟨rfl, rfl, rfl⟩
                case round =>
                  obtain ⟨rfl, rfl, rfl⟩ := hrel
                  go_upto_region 28 with (fail)
                  have HT := Lib.hid (show takeR x (some r) = (some { Pt.nil with kind := x.kind }, none) from (by rw [HK.out]; exact want3_no HK.out h32))
                  have HBx := Lib.hid (show Below W0.heap.size W0 wr from HBW1.out)
                  have HOx := Lib.hid ((Own.below HWT.out.own HBx.out).alloc (.cells (ptc { Pt.nil with kind := x.kind }).toArray 28))
                  have hsx := HBx.out.size
                  refine wp_region_list ?_
                  repeat (first
                    | (at_builtin
                       refine wpl_app _ rfl (.tmp 96) (.tmp 103) 23 rfl w.heap.size 28 ip _ 37 88 Try.underlying23 hip hpz0 hpz1 hpz2 (ptc_len Pt.nil) (by omega) _ out.length (pf out) rfl HOx.out (wr.heap.size + 1) (some ⟨wr.heap.size, 0, none⟩) 1 1 (pf [{ Pt.nil with kind := x.kind }]) rfl (Rd.new (pf_one { Pt.nil with kind := x.kind })) (by intro h; cases h) (pf_one1 { Pt.nil with kind := x.kind }) (by unfold maxLen; omega) (by omega) (by simp; omega) ?_
                       intro v8 w8 o8 g8 a8)
                    | go_values | go_skip | go_guarded | go_step | go_upon)
                  have hb8 : Below w.heap.size w (wr.alloc (.cells (ptc { Pt.nil with kind := x.kind }).toArray 28)) := (HWT.out.below.trans (HBx.out.mono hszr)).alloc (by omega) _
                  have hput := HWT.out.put (z := { Pt.nil with kind := x.kind }) hb8 (by rw [World.size_alloc]; omega) o8 g8 Bs.nil rfl (by omega) (fun z hz => ((HWT.out.bs z hz).below ((HBx.out.mono hszr).alloc (by omega) _)))
                  have hb9 : Below w.heap.size (wr.alloc (.cells (ptc { Pt.nil with kind := x.kind }).toArray 28)) w8 := (Below.refl _ _).grown g8 (by rw [World.size_alloc]; omega) (fun q e => (Own.block HWT.out.own q e).1)
                  have hbi := HBI.out.below (((HBx.out.mono hszr).alloc (by omega) (.cells (ptc { Pt.nil with kind := x.kind }).toArray 28)).trans hb9)
                  refine ⟨⟨k + 1, by go_num, by omega, out ++ [{ Pt.nil with kind := x.kind }], A', c', r, ?_, rfl, hbi, .inr ⟨rfl, ?_⟩⟩, ?_⟩
                  rotate_left
                  · rw [HS.out, HT.out]
                  · simp [intOf]; omega
                  · rw [HS.out, HT.out]; exact hput
            · have hb1 : (x.kind == 1) = false := by simp [hk1]
              have hb2 : (x.kind == 2) = false := by simp [hk2]
              have hb3 : (x.kind == 3) = false := by simp [hk3]
              have HT := Lib.hid (want_skip (x := x) (some r) hk1 hk2 hk3)
              clear hk1 hk2 hk3
              go_upto_region 6 with (fail)
              obtain ⟨W1, hW1⟩ : ∃ W1, W1 = (wr.alloc (.cells (ptc Pt.nil).toArray 28)).setRow wr.heap.size (ptc { Pt.nil with kind := x.kind }).toArray := ⟨_, rfl⟩
              have HW1 := Lib.hid hW1
              have HPB1 := Lib.hid (show PB W1 wr.heap.size { Pt.nil with kind := x.kind } from by rw [hW1]; exact PB.new _ _)
              have HBW1 := Lib.hid (show Below wr.heap.size wr W1 from by rw [hW1]; exact below_setRow ((Below.refl _ _).alloc (Nat.le_refl _) _) (Nat.le_refl _) _)
              have HSZ1 := Lib.hid (show W1.heap.size = wr.heap.size + 1 from by rw [hW1]; simp [World.setRow])
              clear hW1
              have hbw : bb < wr.heap.size := by omega
              have c0 := (HBW1.out.cell (p := ⟨bb, off + k * 37, none⟩) hbw).trans h0
              have c2' := (HBW1.out.cell (p := ⟨bb, off + k * 37 + 2, none⟩) hbw).trans h2
              have c3' := (HBW1.out.cell (p := ⟨bb, off + k * 37 + 3, none⟩) hbw).trans h3
              refine wp_region_list ?_
              repeat (first
                | (refine wpList_store_row (by rfl) 28 (.tmp 9) (.tmp 27) (by rfl) wr.heap.size (ptc { Pt.nil with kind := x.kind }).toArray (by rfl) (by rfl) 28 (ptc Pt.nil).toArray (alloc_new _ _ _ rfl) size_pt (ptsz _ _) (all_pt _) ?_
                   have hw := HW1.out
                   first
                     | rw [← hw]
                     | (change wpList _ _ _ _ _ ((wr.alloc (.cells (ptc Pt.nil).toArray 28)).setRow wr.heap.size (ptc { Pt.nil with kind := x.kind }).toArray); rw [← hw])
                   clear hw)
                | go_values | go_skip | go_guarded | go_step | go_upon)
              clear HW1
              have HWT1 := Lib.hid (HWT.out.own.below HBW1.out)
              have HBI1 := Lib.hid (HBI.out.below (HBW1.out.mono hszr))
              have HBS1 := Lib.hid (fun x hx => (HWT.out.bs x hx).below (HBW1.out.mono hszr))
              refine ⟨⟨k + 1, by go_num, by omega, out, A', c', r, ?_, rfl, HBI1.out, ?_⟩, ?_⟩
              · rw [HS.out, HT.out]; simp only [Option.toList, List.append_nil]; exact ⟨HWT1.out, HBS1.out, HWT.out.key, HWT.out.below.trans (HBW1.out.mono hszr), HWT.out.len⟩
              · rw [HS.out, HT.out]; exact .inl ⟨rfl, rfl⟩
              · simp [intOf]; omega
      · by_cases hk1 : x.kind = 1
        · have hb1 : (x.kind == 1) = true := by simp [hk1]
          have HK := Lib.hid hk1
          clear hk1
          go_upto_region 6 with (fail)
          obtain ⟨W1, hW1⟩ : ∃ W1, W1 = (wr.alloc (.cells (ptc Pt.nil).toArray 28)).setRow wr.heap.size (ptc { Pt.nil with kind := x.kind }).toArray := ⟨_, rfl⟩
          have HW1 := Lib.hid hW1
          have HPB1 := Lib.hid (show PB W1 wr.heap.size { Pt.nil with kind := x.kind } from by rw [hW1]; exact PB.new _ _)
          have HBW1 := Lib.hid (show Below wr.heap.size wr W1 from by rw [hW1]; exact below_setRow ((Below.refl _ _).alloc (Nat.le_refl _) _) (Nat.le_refl _) _)
          have HSZ1 := Lib.hid (show W1.heap.size = wr.heap.size + 1 from by rw [hW1]; simp [World.setRow])
          clear hW1
          have hbw : bb < wr.heap.size := by omega
          have c0 := (HBW1.out.cell (p := ⟨bb, off + k * 37, none⟩) hbw).trans h0
          have c2' := (HBW1.out.cell (p := ⟨bb, off + k * 37 + 2, none⟩) hbw).trans h2
          have c3' := (HBW1.out.cell (p := ⟨bb, off + k * 37 + 3, none⟩) hbw).trans h3
          refine wp_region_list ?_
          repeat (first
            | (refine wpList_store_row (by rfl) 28 (.tmp 9) (.tmp 27) (by rfl) wr.heap.size (ptc { Pt.nil with kind := x.kind }).toArray (by rfl) (by rfl) 28 (ptc Pt.nil).toArray (alloc_new _ _ _ rfl) size_pt (ptsz _ _) (all_pt _) ?_
               have hw := HW1.out
               first
                 | rw [← hw]
                 | (change wpList _ _ _ _ _ ((wr.alloc (.cells (ptc Pt.nil).toArray 28)).setRow wr.heap.size (ptc { Pt.nil with kind := x.kind }).toArray); rw [← hw])
               clear hw)
            | go_values | go_skip | go_guarded | go_step | go_upon)
          clear HW1
          have HWT1 := Lib.hid (HWT.out.own.below HBW1.out)
          have HBI1 := Lib.hid (HBI.out.below (HBW1.out.mono hszr))
          have HBS1 := Lib.hid (fun x hx => (HWT.out.bs x hx).below (HBW1.out.mono hszr))
          refine (get_any A' c' r W1 (HBI1.out.bs.more (by rw [HSZ1.out]; omega)) HBI1.out.cap HBI1.out.byt (by omega)).mono ?_
          rintro e W2 ⟨rfl, l2⟩
          obtain ⟨G, hG⟩ : ∃ G, G = getR r := ⟨_, rfl⟩
          have HG := Lib.hid hG
          rw [← hG]
          clear hG
          obtain ⟨n, m⟩ := G
          simp only []
          have HB2 := Lib.hid (HBW1.out.trans (l2.mono (by rw [HSZ1.out]; omega)))
          have HPB2 := Lib.hid (HPB1.out.keep (l2.block _ HPB1.out.lt))
          clear l2 c0 c2' c3'
          have c0 := (HB2.out.cell (p := ⟨bb, off + k * 37, none⟩) hbw).trans h0
          have c2' := (HB2.out.cell (p := ⟨bb, off + k * 37 + 2, none⟩) hbw).trans h2
          have c3' := (HB2.out.cell (p := ⟨bb, off + k * 37 + 3, none⟩) hbw).trans h3
          have d1 := HPB2.out.cell 1 rfl
          have e1 := HPB2.out.free 1
          go_at_K
          go_upto_region 12 with (fail)
          obtain ⟨W3, hW3⟩ : ∃ W3, W3 = W2.setCell ⟨wr.heap.size, 1, none⟩ (.int .i64 n) := ⟨_, rfl⟩
          change Code.wp _ _ _ _ (W2.setCell ⟨wr.heap.size, 1, none⟩ (.int .i64 n))
          rw [← hW3]
          have HPB3 := Lib.hid (show PB W3 wr.heap.size { Pt.nil with kind := x.kind, n := n } from by rw [hW3]; exact HPB2.out.setN n)
          have HB3 := Lib.hid (show Below wr.heap.size wr W3 from by rw [hW3]; exact HB2.out.setCell (Nat.le_refl _) _)
          clear hW3 c0 c2' c3' d1 e1
          have c0 := (HB3.out.cell (p := ⟨bb, off + k * 37, none⟩) hbw).trans h0
          have c2' := (HB3.out.cell (p := ⟨bb, off + k * 37 + 2, none⟩) hbw).trans h2
          have c3' := (HB3.out.cell (p := ⟨bb, off + k * 37 + 3, none⟩) hbw).trans h3
          by_cases hlo : n < x.least
          · go_upto_region 28 with (fail)
            have HT := Lib.hid (show takeR x none = (some { Pt.nil with kind := x.kind }, none) from (want_none (.inl HK.out)))
            have HBx := Lib.hid (show Below wr.heap.size wr W3 from HB3.out)
            have HOx := Lib.hid ((Own.below HWT.out.own HBx.out).alloc (.cells (ptc { Pt.nil with kind := x.kind }).toArray 28))
            have hsx := HBx.out.size
            refine wp_region_list ?_
            repeat (first
              | (at_builtin
                 refine wpl_app _ rfl (.tmp 96) (.tmp 103) 23 rfl w.heap.size 28 ip _ 37 88 Try.underlying23 hip hpz0 hpz1 hpz2 (ptc_len Pt.nil) (by omega) _ out.length (pf out) rfl HOx.out (W3.heap.size + 1) (some ⟨W3.heap.size, 0, none⟩) 1 1 (pf [{ Pt.nil with kind := x.kind }]) rfl (Rd.new (pf_one { Pt.nil with kind := x.kind })) (by intro h; cases h) (pf_one1 { Pt.nil with kind := x.kind }) (by unfold maxLen; omega) (by omega) (by simp; omega) ?_
                 intro v8 w8 o8 g8 a8)
              | go_values | go_skip | go_guarded | go_step | go_upon)
            have hb8 : Below w.heap.size w (W3.alloc (.cells (ptc { Pt.nil with kind := x.kind }).toArray 28)) := (HWT.out.below.trans (HBx.out.mono hszr)).alloc (by omega) _
            have hput := HWT.out.put (z := { Pt.nil with kind := x.kind }) hb8 (by rw [World.size_alloc]; omega) o8 g8 Bs.nil rfl (by omega) (fun z hz => ((HWT.out.bs z hz).below ((HBx.out.mono hszr).alloc (by omega) _)))
            have hb9 : Below w.heap.size (W3.alloc (.cells (ptc { Pt.nil with kind := x.kind }).toArray 28)) w8 := (Below.refl _ _).grown g8 (by rw [World.size_alloc]; omega) (fun q e => (Own.block HWT.out.own q e).1)
            have hbi := HBI.out.below (((HBx.out.mono hszr).alloc (by omega) (.cells (ptc { Pt.nil with kind := x.kind }).toArray 28)).trans hb9)
            refine ⟨⟨k + 1, by go_num, by omega, out ++ [{ Pt.nil with kind := x.kind }], A', c', r, ?_, rfl, hbi, .inr ⟨rfl, ?_⟩⟩, ?_⟩
            rotate_left
            · rw [HS.out, HT.out]
            · simp [intOf]; omega
            · rw [HS.out, HT.out]; exact hput
          · by_cases hhi : x.most < n
            · go_upto_region 28 with (fail)
              have HT := Lib.hid (show takeR x none = (some { Pt.nil with kind := x.kind }, none) from (want_none (.inl HK.out)))
              have HBx := Lib.hid (show Below wr.heap.size wr W3 from HB3.out)
              have HOx := Lib.hid ((Own.below HWT.out.own HBx.out).alloc (.cells (ptc { Pt.nil with kind := x.kind }).toArray 28))
              have hsx := HBx.out.size
              refine wp_region_list ?_
              repeat (first
                | (at_builtin
                   refine wpl_app _ rfl (.tmp 96) (.tmp 103) 23 rfl w.heap.size 28 ip _ 37 88 Try.underlying23 hip hpz0 hpz1 hpz2 (ptc_len Pt.nil) (by omega) _ out.length (pf out) rfl HOx.out (W3.heap.size + 1) (some ⟨W3.heap.size, 0, none⟩) 1 1 (pf [{ Pt.nil with kind := x.kind }]) rfl (Rd.new (pf_one { Pt.nil with kind := x.kind })) (by intro h; cases h) (pf_one1 { Pt.nil with kind := x.kind }) (by unfold maxLen; omega) (by omega) (by simp; omega) ?_
                   intro v8 w8 o8 g8 a8)
                | go_values | go_skip | go_guarded | go_step | go_upon)
              have hb8 : Below w.heap.size w (W3.alloc (.cells (ptc { Pt.nil with kind := x.kind }).toArray 28)) := (HWT.out.below.trans (HBx.out.mono hszr)).alloc (by omega) _
              have hput := HWT.out.put (z := { Pt.nil with kind := x.kind }) hb8 (by rw [World.size_alloc]; omega) o8 g8 Bs.nil rfl (by omega) (fun z hz => ((HWT.out.bs z hz).below ((HBx.out.mono hszr).alloc (by omega) _)))
              have hb9 : Below w.heap.size (W3.alloc (.cells (ptc { Pt.nil with kind := x.kind }).toArray 28)) w8 := (Below.refl _ _).grown g8 (by rw [World.size_alloc]; omega) (fun q e => (Own.block HWT.out.own q e).1)
              have hbi := HBI.out.below (((HBx.out.mono hszr).alloc (by omega) (.cells (ptc { Pt.nil with kind := x.kind }).toArray 28)).trans hb9)
              refine ⟨⟨k + 1, by go_num, by omega, out ++ [{ Pt.nil with kind := x.kind }], A', c', r, ?_, rfl, hbi, .inr ⟨rfl, ?_⟩⟩, ?_⟩
              rotate_left
              · rw [HS.out, HT.out]
              · simp [intOf]; omega
              · rw [HS.out, HT.out]; exact hput
            · by_cases hm0 : m = 0
              · have hm0b : ((m : Int) == 0) = true := by rw [hm0]; rfl
                go_upto_region 28 with (fail)
                have HT := Lib.hid (show takeR x none = (some { Pt.nil with kind := x.kind }, none) from (want_none (.inl HK.out)))
                have HBx := Lib.hid (show Below wr.heap.size wr W3 from HB3.out)
                have HOx := Lib.hid ((Own.below HWT.out.own HBx.out).alloc (.cells (ptc { Pt.nil with kind := x.kind }).toArray 28))
                have hsx := HBx.out.size
                refine wp_region_list ?_
                repeat (first
                  | (at_builtin
                     refine wpl_app _ rfl (.tmp 96) (.tmp 103) 23 rfl w.heap.size 28 ip _ 37 88 Try.underlying23 hip hpz0 hpz1 hpz2 (ptc_len Pt.nil) (by omega) _ out.length (pf out) rfl HOx.out (W3.heap.size + 1) (some ⟨W3.heap.size, 0, none⟩) 1 1 (pf [{ Pt.nil with kind := x.kind }]) rfl (Rd.new (pf_one { Pt.nil with kind := x.kind })) (by intro h; cases h) (pf_one1 { Pt.nil with kind := x.kind }) (by unfold maxLen; omega) (by omega) (by simp; omega) ?_
                     intro v8 w8 o8 g8 a8)
                  | go_values | go_skip | go_guarded | go_step | go_upon)
                have hb8 : Below w.heap.size w (W3.alloc (.cells (ptc { Pt.nil with kind := x.kind }).toArray 28)) := (HWT.out.below.trans (HBx.out.mono hszr)).alloc (by omega) _
                have hput := HWT.out.put (z := { Pt.nil with kind := x.kind }) hb8 (by rw [World.size_alloc]; omega) o8 g8 Bs.nil rfl (by omega) (fun z hz => ((HWT.out.bs z hz).below ((HBx.out.mono hszr).alloc (by omega) _)))
                have hb9 : Below w.heap.size (W3.alloc (.cells (ptc { Pt.nil with kind := x.kind }).toArray 28)) w8 := (Below.refl _ _).grown g8 (by rw [World.size_alloc]; omega) (fun q e => (Own.block HWT.out.own q e).1)
                have hbi := HBI.out.below (((HBx.out.mono hszr).alloc (by omega) (.cells (ptc { Pt.nil with kind := x.kind }).toArray 28)).trans hb9)
                refine ⟨⟨k + 1, by go_num, by omega, out ++ [{ Pt.nil with kind := x.kind }], A', c', r, ?_, rfl, hbi, .inr ⟨rfl, ?_⟩⟩, ?_⟩
                rotate_left
                · rw [HS.out, HT.out]
                · simp [intOf]; omega
                · rw [HS.out, HT.out]; exact hput
              · have hm0b : ((m : Int) == 0) = false := by rw [beq_eq_false_iff_ne]; omega
                go_upto_region 28 with (fail)
                have HT := Lib.hid (show takeR x none = (some { Pt.nil with kind := x.kind }, none) from (want_none (.inl HK.out)))
                have HBx := Lib.hid (show Below wr.heap.size wr W3 from HB3.out)
                have HOx := Lib.hid ((Own.below HWT.out.own HBx.out).alloc (.cells (ptc { Pt.nil with kind := x.kind }).toArray 28))
                have hsx := HBx.out.size
                refine wp_region_list ?_
                repeat (first
                  | (at_builtin
                     refine wpl_app _ rfl (.tmp 96) (.tmp 103) 23 rfl w.heap.size 28 ip _ 37 88 Try.underlying23 hip hpz0 hpz1 hpz2 (ptc_len Pt.nil) (by omega) _ out.length (pf out) rfl HOx.out (W3.heap.size + 1) (some ⟨W3.heap.size, 0, none⟩) 1 1 (pf [{ Pt.nil with kind := x.kind }]) rfl (Rd.new (pf_one { Pt.nil with kind := x.kind })) (by intro h; cases h) (pf_one1 { Pt.nil with kind := x.kind }) (by unfold maxLen; omega) (by omega) (by simp; omega) ?_
                     intro v8 w8 o8 g8 a8)
                  | go_values | go_skip | go_guarded | go_step | go_upon)
                have hb8 : Below w.heap.size w (W3.alloc (.cells (ptc { Pt.nil with kind := x.kind }).toArray 28)) := (HWT.out.below.trans (HBx.out.mono hszr)).alloc (by omega) _
                have hput := HWT.out.put (z := { Pt.nil with kind := x.kind }) hb8 (by rw [World.size_alloc]; omega) o8 g8 Bs.nil rfl (by omega) (fun z hz => ((HWT.out.bs z hz).below ((HBx.out.mono hszr).alloc (by omega) _)))
                have hb9 : Below w.heap.size (W3.alloc (.cells (ptc { Pt.nil with kind := x.kind }).toArray 28)) w8 := (Below.refl _ _).grown g8 (by rw [World.size_alloc]; omega) (fun q e => (Own.block HWT.out.own q e).1)
                have hbi := HBI.out.below (((HBx.out.mono hszr).alloc (by omega) (.cells (ptc { Pt.nil with kind := x.kind }).toArray 28)).trans hb9)
                refine ⟨⟨k + 1, by go_num, by omega, out ++ [{ Pt.nil with kind := x.kind }], A', c', r, ?_, rfl, hbi, .inr ⟨rfl, ?_⟩⟩, ?_⟩
                rotate_left
                · rw [HS.out, HT.out]
                · simp [intOf]; omega
                · rw [HS.out, HT.out]; exact hput
        · by_cases hk2 : x.kind = 2
          · have hb1 : (x.kind == 1) = false := by simp [hk2]
            have hb2 : (x.kind == 2) = true := by simp [hk2]
            have HK := Lib.hid hk2
            clear hk1 hk2
            go_upto_region 6 with (fail)
            obtain ⟨W1, hW1⟩ : ∃ W1, W1 = (wr.alloc (.cells (ptc Pt.nil).toArray 28)).setRow wr.heap.size (ptc { Pt.nil with kind := x.kind }).toArray := ⟨_, rfl⟩
            have HW1 := Lib.hid hW1
            have HPB1 := Lib.hid (show PB W1 wr.heap.size { Pt.nil with kind := x.kind } from by rw [hW1]; exact PB.new _ _)
            have HBW1 := Lib.hid (show Below wr.heap.size wr W1 from by rw [hW1]; exact below_setRow ((Below.refl _ _).alloc (Nat.le_refl _) _) (Nat.le_refl _) _)
            have HSZ1 := Lib.hid (show W1.heap.size = wr.heap.size + 1 from by rw [hW1]; simp [World.setRow])
            clear hW1
            have hbw : bb < wr.heap.size := by omega
            have c0 := (HBW1.out.cell (p := ⟨bb, off + k * 37, none⟩) hbw).trans h0
            have c2' := (HBW1.out.cell (p := ⟨bb, off + k * 37 + 2, none⟩) hbw).trans h2
            have c3' := (HBW1.out.cell (p := ⟨bb, off + k * 37 + 3, none⟩) hbw).trans h3
            refine wp_region_list ?_
            repeat (first
              | (refine wpList_store_row (by rfl) 28 (.tmp 9) (.tmp 27) (by rfl) wr.heap.size (ptc { Pt.nil with kind := x.kind }).toArray (by rfl) (by rfl) 28 (ptc Pt.nil).toArray (alloc_new _ _ _ rfl) size_pt (ptsz _ _) (all_pt _) ?_
                 have hw := HW1.out
                 first
                   | rw [← hw]
                   | (change wpList _ _ _ _ _ ((wr.alloc (.cells (ptc Pt.nil).toArray 28)).setRow wr.heap.size (ptc { Pt.nil with kind := x.kind }).toArray); rw [← hw])
                 clear hw)
              | go_values | go_skip | go_guarded | go_step | go_upon)
            clear HW1
            have HWT1 := Lib.hid (HWT.out.own.below HBW1.out)
            have HBI1 := Lib.hid (HBI.out.below (HBW1.out.mono hszr))
            have HBS1 := Lib.hid (fun x hx => (HWT.out.bs x hx).below (HBW1.out.mono hszr))
            refine (gettext_any w.heap.size A' c' r (x.most.tmod 100000) W1 (by rw [HSZ1.out]; omega) HBI1.out.bs HBI1.out.cap HBI1.out.none_ HBI1.out.byt (by omega)).mono ?_
            rintro e W2 ⟨At, ct, rfl, bt, l2⟩
            obtain ⟨G, hG⟩ : ∃ G, G = gtR (x.most.tmod 100000) r := ⟨_, rfl⟩
            have HG := Lib.hid hG
            rw [← hG] at bt ⊢
            clear hG
            obtain ⟨t, m⟩ := G
            simp only [] at bt ⊢
            have HBT := Lib.hid bt
            have HB2 := Lib.hid (HBW1.out.trans (l2.mono (by rw [HSZ1.out]; omega)))
            have HPB2 := Lib.hid (HPB1.out.keep (l2.block _ HPB1.out.lt))
            clear l2 c0 c2' c3' bt
            have c0 := (HB2.out.cell (p := ⟨bb, off + k * 37, none⟩) hbw).trans h0
            have d1 := HPB2.out.cell 4 rfl
            have e1 := HPB2.out.free 4
            go_at_K
            go_upto_region 18 with (fail)
            obtain ⟨W3, hW3⟩ : ∃ W3, W3 = W2.setCell ⟨wr.heap.size, 4, none⟩ (.slice At t.length ct) := ⟨_, rfl⟩
            change Code.wp _ _ _ _ (W2.setCell ⟨wr.heap.size, 4, none⟩ (.slice At t.length ct))
            rw [← hW3]
            have HPB3 := Lib.hid (show PB W3 wr.heap.size { Pt.nil with kind := x.kind, A := At, b := t, c := ct } from by rw [hW3]; exact HPB2.out.setB At t ct)
            have HB3 := Lib.hid (show Below wr.heap.size wr W3 from by rw [hW3]; exact HB2.out.setCell (Nat.le_refl _) _)
            have HBT3 := Lib.hid (show Bs W3 w.heap.size At t from by rw [hW3]; exact HBT.out.setCell (by exact hszr) _)
            clear hW3 c0 d1 e1
            have c0 := (HB3.out.cell (p := ⟨bb, off + k * 37, none⟩) hbw).trans h0
            by_cases hm0 : m = 0
            · have hm0b : ((m : Int) == 0) = true := by rw [hm0]; rfl
              go_upto_region 28 with (fail)
              have HT := Lib.hid (show takeR x none = (some { Pt.nil with kind := x.kind }, none) from (want_none (.inr (.inl HK.out))))
              have HBx := Lib.hid (show Below wr.heap.size wr W3 from HB3.out)
              have HOx := Lib.hid ((Own.below HWT.out.own HBx.out).alloc (.cells (ptc { Pt.nil with kind := x.kind }).toArray 28))
              have hsx := HBx.out.size
              refine wp_region_list ?_
              repeat (first
                | (at_builtin
                   refine wpl_app _ rfl (.tmp 96) (.tmp 103) 23 rfl w.heap.size 28 ip _ 37 88 Try.underlying23 hip hpz0 hpz1 hpz2 (ptc_len Pt.nil) (by omega) _ out.length (pf out) rfl HOx.out (W3.heap.size + 1) (some ⟨W3.heap.size, 0, none⟩) 1 1 (pf [{ Pt.nil with kind := x.kind }]) rfl (Rd.new (pf_one { Pt.nil with kind := x.kind })) (by intro h; cases h) (pf_one1 { Pt.nil with kind := x.kind }) (by unfold maxLen; omega) (by omega) (by simp; omega) ?_
                   intro v8 w8 o8 g8 a8)
                | go_values | go_skip | go_guarded | go_step | go_upon)
              have hb8 : Below w.heap.size w (W3.alloc (.cells (ptc { Pt.nil with kind := x.kind }).toArray 28)) := (HWT.out.below.trans (HBx.out.mono hszr)).alloc (by omega) _
              have hput := HWT.out.put (z := { Pt.nil with kind := x.kind }) hb8 (by rw [World.size_alloc]; omega) o8 g8 Bs.nil rfl (by omega) (fun z hz => ((HWT.out.bs z hz).below ((HBx.out.mono hszr).alloc (by omega) _)))
              have hb9 : Below w.heap.size (W3.alloc (.cells (ptc { Pt.nil with kind := x.kind }).toArray 28)) w8 := (Below.refl _ _).grown g8 (by rw [World.size_alloc]; omega) (fun q e => (Own.block HWT.out.own q e).1)
              have hbi := HBI.out.below (((HBx.out.mono hszr).alloc (by omega) (.cells (ptc { Pt.nil with kind := x.kind }).toArray 28)).trans hb9)
              refine ⟨⟨k + 1, by go_num, by omega, out ++ [{ Pt.nil with kind := x.kind }], A', c', r, ?_, rfl, hbi, .inr ⟨rfl, ?_⟩⟩, ?_⟩
              rotate_left
              · rw [HS.out, HT.out]
              · simp [intOf]; omega
              · rw [HS.out, HT.out]; exact hput
            · have hm0b : ((m : Int) == 0) = false := by rw [beq_eq_false_iff_ne]; omega
              go_upto_region 28 with (fail)
              have HT := Lib.hid (show takeR x none = (some { Pt.nil with kind := x.kind }, none) from (want_none (.inr (.inl HK.out))))
              have HBx := Lib.hid (show Below wr.heap.size wr W3 from HB3.out)
              have HOx := Lib.hid ((Own.below HWT.out.own HBx.out).alloc (.cells (ptc { Pt.nil with kind := x.kind }).toArray 28))
              have hsx := HBx.out.size
              refine wp_region_list ?_
              repeat (first
                | (at_builtin
                   refine wpl_app _ rfl (.tmp 96) (.tmp 103) 23 rfl w.heap.size 28 ip _ 37 88 Try.underlying23 hip hpz0 hpz1 hpz2 (ptc_len Pt.nil) (by omega) _ out.length (pf out) rfl HOx.out (W3.heap.size + 1) (some ⟨W3.heap.size, 0, none⟩) 1 1 (pf [{ Pt.nil with kind := x.kind }]) rfl (Rd.new (pf_one { Pt.nil with kind := x.kind })) (by intro h; cases h) (pf_one1 { Pt.nil with kind := x.kind }) (by unfold maxLen; omega) (by omega) (by simp; omega) ?_
                   intro v8 w8 o8 g8 a8)
                | go_values | go_skip | go_guarded | go_step | go_upon)
              have hb8 : Below w.heap.size w (W3.alloc (.cells (ptc { Pt.nil with kind := x.kind }).toArray 28)) := (HWT.out.below.trans (HBx.out.mono hszr)).alloc (by omega) _
              have hput := HWT.out.put (z := { Pt.nil with kind := x.kind }) hb8 (by rw [World.size_alloc]; omega) o8 g8 Bs.nil rfl (by omega) (fun z hz => ((HWT.out.bs z hz).below ((HBx.out.mono hszr).alloc (by omega) _)))
              have hb9 : Below w.heap.size (W3.alloc (.cells (ptc { Pt.nil with kind := x.kind }).toArray 28)) w8 := (Below.refl _ _).grown g8 (by rw [World.size_alloc]; omega) (fun q e => (Own.block HWT.out.own q e).1)
              have hbi := HBI.out.below (((HBx.out.mono hszr).alloc (by omega) (.cells (ptc { Pt.nil with kind := x.kind }).toArray 28)).trans hb9)
              refine ⟨⟨k + 1, by go_num, by omega, out ++ [{ Pt.nil with kind := x.kind }], A', c', r, ?_, rfl, hbi, .inr ⟨rfl, ?_⟩⟩, ?_⟩
              rotate_left
              · rw [HS.out, HT.out]
              · simp [intOf]; omega
              · rw [HS.out, HT.out]; exact hput
          · by_cases hk3 : x.kind = 3
            · have hb1 : (x.kind == 1) = false := by simp [hk3]
              have hb2 : (x.kind == 2) = false := by simp [hk3]
              have hb3 : (x.kind == 3) = true := by simp [hk3]
              have HK := Lib.hid hk3
              clear hk1 hk2 hk3
              go_upto_region 6 with (fail)
              obtain ⟨W1, hW1⟩ : ∃ W1, W1 = (wr.alloc (.cells (ptc Pt.nil).toArray 28)).setRow wr.heap.size (ptc { Pt.nil with kind := x.kind }).toArray := ⟨_, rfl⟩
              have HW1 := Lib.hid hW1
              have HPB1 := Lib.hid (show PB W1 wr.heap.size { Pt.nil with kind := x.kind } from by rw [hW1]; exact PB.new _ _)
              have HBW1 := Lib.hid (show Below wr.heap.size wr W1 from by rw [hW1]; exact below_setRow ((Below.refl _ _).alloc (Nat.le_refl _) _) (Nat.le_refl _) _)
              have HSZ1 := Lib.hid (show W1.heap.size = wr.heap.size + 1 from by rw [hW1]; simp [World.setRow])
              clear hW1
              have hbw : bb < wr.heap.size := by omega
              have c0 := (HBW1.out.cell (p := ⟨bb, off + k * 37, none⟩) hbw).trans h0
              have c2' := (HBW1.out.cell (p := ⟨bb, off + k * 37 + 2, none⟩) hbw).trans h2
              have c3' := (HBW1.out.cell (p := ⟨bb, off + k * 37 + 3, none⟩) hbw).trans h3
              refine wp_region_list ?_
              repeat (first
                | (refine wpList_store_row (by rfl) 28 (.tmp 9) (.tmp 27) (by rfl) wr.heap.size (ptc { Pt.nil with kind := x.kind }).toArray (by rfl) (by rfl) 28 (ptc Pt.nil).toArray (alloc_new _ _ _ rfl) size_pt (ptsz _ _) (all_pt _) ?_
                   have hw := HW1.out
                   first
                     | rw [← hw]
                     | (change wpList _ _ _ _ _ ((wr.alloc (.cells (ptc Pt.nil).toArray 28)).setRow wr.heap.size (ptc { Pt.nil with kind := x.kind }).toArray); rw [← hw])
                   clear hw)
                | go_values | go_skip | go_guarded | go_step | go_upon)
              clear HW1
              have HWT1 := Lib.hid (HWT.out.own.below HBW1.out)
              have HBI1 := Lib.hid (HBI.out.below (HBW1.out.mono hszr))
              have HBS1 := Lib.hid (fun x hx => (HWT.out.bs x hx).below (HBW1.out.mono hszr))
              obtain ⟨W0, hW0⟩ : ∃ W0, W0 = wr := ⟨_, rfl⟩
              subst hW0
              by_cases h32 : 32 ≤ r.length
              · have h32i : (32 : Int) ≤ (r.length : Int) := by omega
                obtain ⟨b3, off3, rfl, hb3, hcell⟩ := HBI.out.bs (by omega)
                have HC := Lib.hid hcell
                clear hcell
                go_loopw [10, 15] (fun kk q wr => ∃ j : Nat, q = .int .i64 (j : Int) ∧ j ≤ 32 ∧ ((j = 0 ∧ kk = .int .i64 0) ∨ (0 < j ∧ kk = .int .i64 32)) ∧ PB wr W0.heap.size { Pt.nil with kind := x.kind, h := fun i => if i < j then r[i]?.getD 0 else 0 } ∧ Below W0.heap.size W0 wr) (fun _ q _ => (32 - intOf q).toNat)
                case atStart => exact ⟨0, rfl, by omega, .inl ⟨rfl, rfl⟩, by
                  have e : (fun i => if i < 0 then r[i]?.getD 0 else 0) = (fun _ : Nat => 0) := funext fun i => if_neg (Nat.not_lt_zero i)
                  rw [e]; exact HPB1.out, HBW1.out⟩
                case round =>
                  obtain ⟨j, rfl, hj, hkk, hpb, hbq⟩ := hrel
                  have HPBj := Lib.hid hpb
                  have HBq := Lib.hid hbq
                  by_cases hj32 : j < 32
                  · have hv := ((hbq.cell (p := ⟨b3, off3 + j, none⟩) (by show b3 < _; omega)).trans (HC.out j (by omega)))
                    unfold bf at hv
                    have hr256 := HBI.out.byt.at_ j
                    have d1 := HPBj.out.cellH j hj32
                    have e1 := HPBj.out.free (5 + j)
                    simp only [Nat.lt_irrefl, if_false] at d1
                    clear hpb hbq
                    go_wp2_with fail
                    go_roundw
                    case rel =>
                      refine ⟨j + 1, by go_num, by omega, .inr ⟨by omega, rfl⟩, ?_, HBq.out.setCell (p := ⟨W0.heap.size, 5 + j, none⟩) (Nat.le_refl _) _⟩
                      have h1 := HPBj.out.setHq j (r[j]?.getD 0) hj32
                      have e : (fun i => if i = j then r[j]?.getD 0 else if i < j then r[i]?.getD 0 else 0) = (fun i => if i < j + 1 then r[i]?.getD 0 else 0) := funext fun i => by
                        by_cases h1 : i = j
                        · rw [if_pos h1, if_pos (by omega), h1]
                        · rw [if_neg h1]
                          by_cases h2 : i < j
                          · rw [if_pos h2, if_pos (by omega)]
                          · rw [if_neg h2, if_neg (by omega)]
                      simp only at h1
                      rw [e] at h1
                      exact h1
                    case measure => simp [intOf]; omega
                  · obtain rfl : j = 32 := by omega
                    obtain ⟨h, -⟩ | ⟨-, rfl⟩ := hkk
                    · omega
                    · clear hpb hbq hj hj32
                      have c0 := (HBq.out.cell (p := ⟨bb, off + k * 37, none⟩) hbw).trans h0
                      go_upto_region 28 with (fail)
                      have HT := Lib.hid (show takeR x none = (some { Pt.nil with kind := x.kind }, none) from (want_none (.inr (.inr HK.out))))
                      have HBx := Lib.hid (show Below W0.heap.size W0 wr from HBq.out)
                      have HOx := Lib.hid ((Own.below HWT.out.own HBx.out).alloc (.cells (ptc { Pt.nil with kind := x.kind }).toArray 28))
                      have hsx := HBx.out.size
                      refine wp_region_list ?_
                      repeat (first
                        | (at_builtin
                           refine wpl_app _ rfl (.tmp 96) (.tmp 103) 23 rfl w.heap.size 28 ip _ 37 88 Try.underlying23 hip hpz0 hpz1 hpz2 (ptc_len Pt.nil) (by omega) _ out.length (pf out) rfl HOx.out (wr.heap.size + 1) (some ⟨wr.heap.size, 0, none⟩) 1 1 (pf [{ Pt.nil with kind := x.kind }]) rfl (Rd.new (pf_one { Pt.nil with kind := x.kind })) (by intro h; cases h) (pf_one1 { Pt.nil with kind := x.kind }) (by unfold maxLen; omega) (by omega) (by simp; omega) ?_
                           intro v8 w8 o8 g8 a8)
                        | go_values | go_skip | go_guarded | go_step | go_upon)
                      have hb8 : Below w.heap.size w (wr.alloc (.cells (ptc { Pt.nil with kind := x.kind }).toArray 28)) := (HWT.out.below.trans (HBx.out.mono hszr)).alloc (by omega) _
                      have hput := HWT.out.put (z := { Pt.nil with kind := x.kind }) hb8 (by rw [World.size_alloc]; omega) o8 g8 Bs.nil rfl (by omega) (fun z hz => ((HWT.out.bs z hz).below ((HBx.out.mono hszr).alloc (by omega) _)))
                      have hb9 : Below w.heap.size (wr.alloc (.cells (ptc { Pt.nil with kind := x.kind }).toArray 28)) w8 := (Below.refl _ _).grown g8 (by rw [World.size_alloc]; omega) (fun q e => (Own.block HWT.out.own q e).1)
                      have hbi := HBI.out.below (((HBx.out.mono hszr).alloc (by omega) (.cells (ptc { Pt.nil with kind := x.kind }).toArray 28)).trans hb9)
                      refine ⟨⟨k + 1, by go_num, by omega, out ++ [{ Pt.nil with kind := x.kind }], (some ⟨b3, off3, none⟩ : Option Addr), c', r, ?_, rfl, hbi, .inr ⟨rfl, ?_⟩⟩, ?_⟩
                      rotate_left
                      · rw [HS.out, HT.out]
                      · simp [intOf]; omega
                      · rw [HS.out, HT.out]; exact hput
              · have hd : decide (32 ≤ (r.length : Int)) = false := by simp; omega
                go_loopw [10, 15] (fun kk q wr => q = .int .i64 0 ∧ kk = .int .i64 0 ∧ wr = W1) (fun _ _ _ => 0)
                case atStart => exact ⟨rfl, rfl, rfl⟩
                case round =>
                  obtain ⟨rfl, rfl, rfl⟩ := hrel
                  go_upto_region 28 with (fail)
                  have HT := Lib.hid (show takeR x none = (some { Pt.nil with kind := x.kind }, none) from (want_none (.inr (.inr HK.out))))
                  have HBx := Lib.hid (show Below W0.heap.size W0 wr from HBW1.out)
                  have HOx := Lib.hid ((Own.below HWT.out.own HBx.out).alloc (.cells (ptc { Pt.nil with kind := x.kind }).toArray 28))
                  have hsx := HBx.out.size
                  refine wp_region_list ?_
                  repeat (first
                    | (at_builtin
                       refine wpl_app _ rfl (.tmp 96) (.tmp 103) 23 rfl w.heap.size 28 ip _ 37 88 Try.underlying23 hip hpz0 hpz1 hpz2 (ptc_len Pt.nil) (by omega) _ out.length (pf out) rfl HOx.out (wr.heap.size + 1) (some ⟨wr.heap.size, 0, none⟩) 1 1 (pf [{ Pt.nil with kind := x.kind }]) rfl (Rd.new (pf_one { Pt.nil with kind := x.kind })) (by intro h; cases h) (pf_one1 { Pt.nil with kind := x.kind }) (by unfold maxLen; omega) (by omega) (by simp; omega) ?_
                       intro v8 w8 o8 g8 a8)
                    | go_values | go_skip | go_guarded | go_step | go_upon)
                  have hb8 : Below w.heap.size w (wr.alloc (.cells (ptc { Pt.nil with kind := x.kind }).toArray 28)) := (HWT.out.below.trans (HBx.out.mono hszr)).alloc (by omega) _
                  have hput := HWT.out.put (z := { Pt.nil with kind := x.kind }) hb8 (by rw [World.size_alloc]; omega) o8 g8 Bs.nil rfl (by omega) (fun z hz => ((HWT.out.bs z hz).below ((HBx.out.mono hszr).alloc (by omega) _)))
                  have hb9 : Below w.heap.size (wr.alloc (.cells (ptc { Pt.nil with kind := x.kind }).toArray 28)) w8 := (Below.refl _ _).grown g8 (by rw [World.size_alloc]; omega) (fun q e => (Own.block HWT.out.own q e).1)
                  have hbi := HBI.out.below (((HBx.out.mono hszr).alloc (by omega) (.cells (ptc { Pt.nil with kind := x.kind }).toArray 28)).trans hb9)
                  refine ⟨⟨k + 1, by go_num, by omega, out ++ [{ Pt.nil with kind := x.kind }], A', c', r, ?_, rfl, hbi, .inr ⟨rfl, ?_⟩⟩, ?_⟩
                  rotate_left
                  · rw [HS.out, HT.out]
                  · simp [intOf]; omega
                  · rw [HS.out, HT.out]; exact hput
            · have hb1 : (x.kind == 1) = false := by simp [hk1]
              have hb2 : (x.kind == 2) = false := by simp [hk2]
              have hb3 : (x.kind == 3) = false := by simp [hk3]
              have HT := Lib.hid (want_skip (x := x) none hk1 hk2 hk3)
              clear hk1 hk2 hk3
              go_upto_region 6 with (fail)
              obtain ⟨W1, hW1⟩ : ∃ W1, W1 = (wr.alloc (.cells (ptc Pt.nil).toArray 28)).setRow wr.heap.size (ptc { Pt.nil with kind := x.kind }).toArray := ⟨_, rfl⟩
              have HW1 := Lib.hid hW1
              have HPB1 := Lib.hid (show PB W1 wr.heap.size { Pt.nil with kind := x.kind } from by rw [hW1]; exact PB.new _ _)
              have HBW1 := Lib.hid (show Below wr.heap.size wr W1 from by rw [hW1]; exact below_setRow ((Below.refl _ _).alloc (Nat.le_refl _) _) (Nat.le_refl _) _)
              have HSZ1 := Lib.hid (show W1.heap.size = wr.heap.size + 1 from by rw [hW1]; simp [World.setRow])
              clear hW1
              have hbw : bb < wr.heap.size := by omega
              have c0 := (HBW1.out.cell (p := ⟨bb, off + k * 37, none⟩) hbw).trans h0
              have c2' := (HBW1.out.cell (p := ⟨bb, off + k * 37 + 2, none⟩) hbw).trans h2
              have c3' := (HBW1.out.cell (p := ⟨bb, off + k * 37 + 3, none⟩) hbw).trans h3
              refine wp_region_list ?_
              repeat (first
                | (refine wpList_store_row (by rfl) 28 (.tmp 9) (.tmp 27) (by rfl) wr.heap.size (ptc { Pt.nil with kind := x.kind }).toArray (by rfl) (by rfl) 28 (ptc Pt.nil).toArray (alloc_new _ _ _ rfl) size_pt (ptsz _ _) (all_pt _) ?_
                   have hw := HW1.out
                   first
                     | rw [← hw]
                     | (change wpList _ _ _ _ _ ((wr.alloc (.cells (ptc Pt.nil).toArray 28)).setRow wr.heap.size (ptc { Pt.nil with kind := x.kind }).toArray); rw [← hw])
                   clear hw)
                | go_values | go_skip | go_guarded | go_step | go_upon)
              clear HW1
              have HWT1 := Lib.hid (HWT.out.own.below HBW1.out)
              have HBI1 := Lib.hid (HBI.out.below (HBW1.out.mono hszr))
              have HBS1 := Lib.hid (fun x hx => (HWT.out.bs x hx).below (HBW1.out.mono hszr))
              refine ⟨⟨k + 1, by go_num, by omega, out, A', c', r, ?_, rfl, HBI1.out, ?_⟩, ?_⟩
              · rw [HS.out, HT.out]; simp only [Option.toList, List.append_nil]; exact ⟨HWT1.out, HBS1.out, HWT.out.key, HWT.out.below.trans (HBW1.out.mono hszr), HWT.out.len⟩
              · rw [HS.out, HT.out]; exact .inr ⟨rfl, rfl⟩
              · simp [intOf]; omega
    · obtain rfl : k = l.length := by omega
      rw [List.take_length] at hwt hst
      obtain ⟨Ao, co, rfl, -, -, -⟩ := Own.shape hwt.own
      have HWT := Lib.hid hwt
      have hcc := hbi.cap
      unfold maxLen at hcc
      have HST := Lib.hid hst
      clear hwt hbi
      rcases hst with ⟨rfl, h⟩ | ⟨rfl, h⟩
      · clear h
        have hs := HST.out
        by_cases hr0 : r.length = 0
        · obtain rfl := List.eq_nil_of_length_eq_zero hr0
          have hfin : (readR l (some bs)).2 = some [] := by rcases hs with ⟨-, h⟩ | ⟨h, -⟩; exact h; cases h
          have HF := Lib.hid hfin
          clear hs hfin hr0
          go_wp2_with fail
          go_ret2
          refine ⟨Ao, co, out, ?_, HWT.out⟩
          rw [HF.out]
          rfl
        · have hfin : (readR l (some bs)).2 ≠ some [] := by
            rcases hs with ⟨-, h⟩ | ⟨h, -⟩
            · rw [h]; intro e; exact hr0 (by rw [Option.some.inj e]; rfl)
            · cases h
          have hr0b : ((r.length : Int) == 0) = false := by rw [beq_eq_false_iff_ne]; omega
          have HF := Lib.hid (decide_eq_false hfin)
          clear hs hfin hr0
          go_wp2_with fail
          go_ret2
          refine ⟨Ao, co, out, ?_, HWT.out⟩
          rw [HF.out]
          rfl
      · have hfin : (readR l (some bs)).2 ≠ some [] := by rw [h]; simp
        have HF := Lib.hid (decide_eq_false hfin)
        clear h hfin
        go_wp2_with fail
        go_ret2
        refine ⟨Ao, co, out, ?_, HWT.out⟩
        rw [HF.out]
        rfl
end Go.Proofs.Ytbnlobfhcanbgaa
