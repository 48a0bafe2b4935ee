/- transfer.Pick. -/
import Derived.Test.YtmpbimechgelfaaRnd
import Derived.Test.YtmpbimechgelfaaPw
import Derived.Deep.Cut
import Derived.OwnWalk
import Derived.Laws.EntriesVeiled
namespace Go.Proofs.Ytmpbimechgelfaa
open Go Go.RowKit

/-- The slice A, below block B, reads as lists of Booleans. -/
structure Pb (w : World) (B : Nat) (A : Option Addr) (vs : List Value) (ls : List (List Bool)) : Prop where
  len : vs.length = ls.length
  rd : Rd w B 1 A ls.length (vf vs)
  ok : ∀ (j : Nat) v l, vs[j]? = some v → ls[j]? = some l → ∃ A' c, v = .slice A' l.length c ∧ Bo w B A' l ∧ l.length ≤ maxLen
theorem Pb.next {w w' : World} {A : Option Addr} {vs : List Value} {ls : List (List Bool)} (h : Pb w w.heap.size A vs ls) (hb : Below w.heap.size w w') : Pb w' w'.heap.size A vs ls :=
  ⟨h.len, (Rd.below h.rd hb).more hb.size, fun j v l hv hl => by obtain ⟨A', c, e, h', hm⟩ := h.ok j v l hv hl; exact ⟨A', c, e, Bo.next h' hb, hm⟩⟩
theorem Pb.at_ {w : World} {B : Nat} {A : Option Addr} {vs : List Value} {ls : List (List Bool)} (h : Pb w B A vs ls) {i : Nat} (hi : i < ls.length) :
    ∃ b off A' c, A = some ⟨b, off, none⟩ ∧ b < B ∧ w.cell? ⟨b, off + i, none⟩ = some (.slice A' (ls[i]?.getD []).length c) ∧ Bo w B A' (ls[i]?.getD []) ∧ (ls[i]?.getD []).length ≤ maxLen := by
  obtain ⟨b, off, e, hb, hc⟩ := h.rd (by omega)
  have hv : i < vs.length := by rw [h.len]; exact hi
  obtain ⟨A', c, e', hbo, hm⟩ := h.ok i vs[i] ls[i] (List.getElem?_eq_getElem hv) (List.getElem?_eq_getElem hi)
  rw [List.getElem?_eq_getElem hi, Option.getD_some]
  refine ⟨b, off, A', c, e, hb, ?_, hbo, hm⟩
  rw [hc i (by omega)]
  unfold vf
  rw [List.getElem?_eq_getElem hv, Option.getD_some, e']
/-- Has one with the list l the chunk c? -/
def hasB (l : List Bool) (c : Nat) : Bool := l[c]?.getD false
theorem has_any (i c : Nat) (A : Option Addr) (cp : Nat) (vs : List Value) (ls : List (List Bool)) (g1 g2 : Nat) (w : World) (h1 : w.cell? ⟨g1, 0, none⟩ = some (.int .i64 (c : Int))) (h2 : w.cell? ⟨g2, 0, none⟩ = some (.slice A ls.length cp))
    (hp : Pb w w.heap.size A vs ls) (hi : i < ls.length) (_hm : ls.length ≤ 1000) (hc : c ≤ 1000) :
    Calls Try.prog 39 #[.int .i64 (i : Int), .pointer (some ⟨g1, 0, none⟩), .pointer (some ⟨g2, 0, none⟩)] w fun e w' => e = .returned (.bool (hasB (ls[i]?.getD []) c)) ∧ Below w.heap.size w w' := by
  obtain ⟨b, off, A', c', rfl, hb, hcell, hbo, hml⟩ := hp.at_ hi
  obtain ⟨l, hl⟩ : ∃ l, l = ls[i]?.getD [] := ⟨_, rfl⟩
  rw [← hl] at hcell hbo hml ⊢
  have hiI : (i : Int) < (ls.length : Int) := by omega
  obtain ⟨m, hmm⟩ : ∃ m, m = ls.length := ⟨_, rfl⟩
  rw [← hmm] at hi h2 hiI _hm
  obtain ⟨n, hn⟩ : ∃ n, n = l.length := ⟨_, rfl⟩
  rw [← hn] at hcell hml
  unfold maxLen at hml
  have HN := Lib.hid hn
  obtain ⟨r, hr⟩ : ∃ r, r = hasB l c := ⟨_, rfl⟩
  rw [← hr]
  have HR := Lib.hid hr
  clear hp hl hmm hn hr hb
  by_cases hlt : c < n
  · obtain ⟨b2, off2, rfl, hb2, hc2⟩ := hbo (by rw [← HN.out]; omega)
    have ck : w.cell? ⟨b2, off2 + c, none⟩ = some (.bool r) := by rw [hc2 c (by rw [← HN.out]; omega), HR.out]; rfl
    have hcI : (c : Int) < (n : Int) := by omega
    have hd : decide (c < n) = true := by simpa using hlt
    clear hc2 hb2
    go_enter Try.func39, Try.ntmps39
    go_wp2_with fail
    go_quiet (fail)
    go_wp2_with fail
    go_ret
    exact ⟨rfl, (by repeat (first | exact Below.refl _ _ | assumption | refine below_drewN ?_ _ | refine Below.drew ?_ | refine Below.alloc ?_ (by simp; try omega) _ | refine Below.setCell ?_ (by simp; try omega) _))⟩
  · have hd : decide (c < n) = false := by simpa using hlt
    have HE := Lib.hid (show r = false from by rw [HR.out]; unfold hasB; rw [List.getElem?_eq_none (by rw [← HN.out]; omega)]; rfl)
    clear hbo
    go_enter Try.func39, Try.ntmps39
    go_wp2_with fail
    go_quiet (fail)
    go_wp2_with fail
    go_ret
    exact ⟨by rw [HE.out]; rfl, (by repeat (first | exact Below.refl _ _ | assumption | refine below_drewN ?_ _ | refine Below.drew ?_ | refine Below.alloc ?_ (by simp; try omega) _ | refine Below.setCell ?_ (by simp; try omega) _))⟩
/-- Whom to ask for the chunk c. -/
def whoN (ls : List (List Bool)) (d c : Nat) : Option Nat := rndP ls.length (d / 4294967296) (fun q => hasB (ls[q]?.getD []) c)
theorem enter39 (caps : Array Value) (w : World) : (callFunc 39 caps).run Try.prog w = .ok (.enter 39 caps) w := by simp [callFunc, go_sem, Try.func39, Try.f39]
theorem enter40 (caps : Array Value) (w : World) : (callFunc 40 caps).run Try.prog w = .ok (.enter 40 caps) w := by simp [callFunc, go_sem, Try.func40, Try.f40]
set_option maxRecDepth 100000 in
theorem div_cast {d a : Nat} (h : a = d / 4294967296) : (d : Int) / 4294967296 = (a : Int) := by omega
theorem who_any (c d : Nat) (A : Option Addr) (cp : Nat) (vs : List Value) (ls : List (List Bool)) (g1 g2 : Nat) (w : World) (h1 : w.cell? ⟨g1, 0, none⟩ = some (.slice A ls.length cp)) (h2 : w.cell? ⟨g2, 0, none⟩ = some (.int .u64 (d : Int)))
    (hp : Pb w w.heap.size A vs ls) (hm : ls.length ≤ 1000) (hc : c ≤ 1000) (hd : d < 18446744073709551616) (hg1 : g1 < w.heap.size) (hg2 : g2 < w.heap.size) :
    Calls Try.prog 37 #[.int .i64 (c : Int), .pointer (some ⟨g1, 0, none⟩), .pointer (some ⟨g2, 0, none⟩)] w fun e w' => e = .returned (.int .i64 (rI (whoN ls d c))) ∧ Below w.heap.size w w' := by
  obtain ⟨r, hr⟩ : ∃ r, r = rI (whoN ls d c) := ⟨_, rfl⟩
  rw [← hr]
  obtain ⟨m, hmm⟩ : ∃ m, m = ls.length := ⟨_, rfl⟩
  rw [← hmm] at h1
  obtain ⟨W0, hW0⟩ : ∃ W0, W0 = w.alloc (.cells #[.int .i64 (c : Int)] 3) := ⟨_, rfl⟩
  have hB0 : Below w.heap.size w W0 := by rw [hW0]; exact (by repeat (first | exact Below.refl _ _ | assumption | refine below_drewN ?_ _ | refine Below.drew ?_ | refine Below.alloc ?_ (by simp; try omega) _ | refine Below.setCell ?_ (by simp; try omega) _))
  have hB0' : Below (w.heap.size + 1) W0 W0 := Below.refl _ _
  have hs0 : W0.heap.size = w.heap.size + 1 := by rw [hW0]; simp
  have k1 : W0.cell? ⟨g1, 0, none⟩ = some (.slice A m cp) := (hB0.cell (p := ⟨g1, 0, none⟩) hg1).trans h1
  have k2 : W0.cell? ⟨g2, 0, none⟩ = some (.int .u64 (d : Int)) := (hB0.cell (p := ⟨g2, 0, none⟩) hg2).trans h2
  have k0 : W0.cell? ⟨w.heap.size, 0, none⟩ = some (.int .i64 (c : Int)) := by rw [hW0]; exact cell_of_one (heap_alloc_new w _)
  have HP := Lib.hid (hp.next hB0)
  obtain ⟨a, ha⟩ : ∃ a, a = d / 4294967296 := ⟨_, rfl⟩
  have HC := Lib.hid (round_any m a 39 (.pointer (some ⟨w.heap.size, 0, none⟩)) (.pointer (some ⟨g1, 0, none⟩)) (fun q => hasB (ls[q]?.getD []) c) W0 enter39 (fun i hi W hb => by
    have h := has_any i c A cp vs ls w.heap.size g1 W ((hb.cell (p := ⟨w.heap.size, 0, none⟩) (by rw [hs0]; exact Nat.lt_succ_self _)).trans k0) ((hb.cell (p := ⟨g1, 0, none⟩) (by rw [hs0]; exact Nat.lt_succ_of_lt hg1)).trans (by rw [← hmm]; exact k1)) (HP.out.next hb) (by rw [← hmm]; exact hi) hm hc
    exact h) (by rw [hmm]; exact hm) (by rw [ha]; omega))
  rw [show rI (rndP m a fun q => hasB (ls[q]?.getD []) c) = r from by rw [hr, hmm, ha]; rfl] at HC
  have HB0 := Lib.hid hB0
  have HW0 := Lib.hid hW0
  have HDV := Lib.hid (div_cast ha)
  clear hr hp hm hc hd hg1 hg2 hB0 hB0' hs0 hmm k0 ha hW0 h1 h2
  go_enter Try.func37, Try.ntmps37
  go_upto_region 1 with (fail)
  change Code.wp _ _ _ _ (w.alloc (.cells #[.int .i64 (c : Int)] 3))
  rw [← HW0.out]
  go_wp2_with fail
  rw [HDV.out]
  refine HC.out.mono ?_
  rintro e w' ⟨rfl, hb⟩
  have HB' := Lib.hid (below_chain HB0.out hb)
  clear hb
  go_wp2_with fail
  go_ret
  exact ⟨rfl, HB'.out⟩
/-- Is the chunk i to be asked for? -/
def selB (hv : List Bool) (ls : List (List Bool)) (d i : Nat) : Bool := !(hv[i]?.getD false) && (whoN ls d i).isSome
theorem sel_any (i d : Nat) (hv : List Bool) (A0 : Option Addr) (c0 : Nat) (A : Option Addr) (cp : Nat) (vs : List Value) (ls : List (List Bool)) (g3 g9 g4 g5 : Nat) (w : World)
    (h3 : w.cell? ⟨g3, 0, none⟩ = some (.slice A0 hv.length c0)) (h9 : w.cell? ⟨g9, 0, none⟩ = some (.func (.func 37) #[] #[.pointer (some ⟨g4, 0, none⟩), .pointer (some ⟨g5, 0, none⟩)]))
    (h4 : w.cell? ⟨g4, 0, none⟩ = some (.slice A ls.length cp)) (h5 : w.cell? ⟨g5, 0, none⟩ = some (.int .u64 (d : Int))) (hb : Bo w w.heap.size A0 hv) (hp : Pb w w.heap.size A vs ls) (hm : ls.length ≤ 1000) (hi : i < hv.length) (hc : hv.length ≤ 1000) (hd : d < 18446744073709551616)
    (hg4 : g4 < w.heap.size) (hg5 : g5 < w.heap.size) :
    Calls Try.prog 40 #[.int .i64 (i : Int), .pointer (some ⟨g3, 0, none⟩), .pointer (some ⟨g9, 0, none⟩)] w fun e w' => e = .returned (.bool (selB hv ls d i)) ∧ Below w.heap.size w w' := by
  have HC := Lib.hid (who_any i d A cp vs ls g4 g5 w h4 h5 hp hm (by omega) hd hg4 hg5)
  obtain ⟨o, ho⟩ : ∃ o, o = whoN ls d i := ⟨_, rfl⟩
  obtain ⟨x, hx⟩ : ∃ x, x = hv[i]?.getD false := ⟨_, rfl⟩
  obtain ⟨r, hr⟩ : ∃ r, r = selB hv ls d i := ⟨_, rfl⟩
  rw [← ho] at HC
  rw [← hr]
  have HR := Lib.hid (show r = (!x && o.isSome) from by rw [hr, hx, ho]; rfl)
  obtain ⟨b, off, rfl, hbl, hcl⟩ := hb (by omega)
  have ck : w.cell? ⟨b, off + i, none⟩ = some (.bool x) := by rw [hcl i (by omega), hx]; rfl
  obtain ⟨n, hn⟩ : ∃ n, n = hv.length := ⟨_, rfl⟩
  rw [← hn] at h3 hi hc
  have hiI : (i : Int) < (n : Int) := by omega
  clear h4 h5 hp hm hd hg4 hg5 ho hr hcl hbl hn hx
  cases x with
  | true =>
    have HE := Lib.hid (show r = false from by rw [HR.out]; rfl)
    go_enter Try.func40, Try.ntmps40
    go_wp2_with fail
    go_ret
    exact ⟨by rw [HE.out]; rfl, Below.refl _ _⟩
  | false =>
    cases o with
    | none =>
      have HE := Lib.hid (show r = false from by rw [HR.out]; rfl)
      have HC2 : Hid (Calls Try.prog 37 #[.int .i64 (i : Int), .pointer (some ⟨g4, 0, none⟩), .pointer (some ⟨g5, 0, none⟩)] w fun e w' => e = .returned (.int .i64 (-1)) ∧ Below w.heap.size w w') := Lib.hid HC.out
      clear HC
      go_enter Try.func40, Try.ntmps40
      go_wp2_with fail
      refine HC2.out.mono ?_
      rintro e w' ⟨rfl, hb⟩
      have HB' := Lib.hid hb
      clear hb
      go_wp2_with fail
      go_ret
      exact ⟨by rw [HE.out]; rfl, HB'.out⟩
    | some q =>
      have HE := Lib.hid (show r = true from by rw [HR.out]; rfl)
      have HC2 : Hid (Calls Try.prog 37 #[.int .i64 (i : Int), .pointer (some ⟨g4, 0, none⟩), .pointer (some ⟨g5, 0, none⟩)] w fun e w' => e = .returned (.int .i64 (q : Int)) ∧ Below w.heap.size w w') := Lib.hid HC.out
      clear HC
      go_enter Try.func40, Try.ntmps40
      go_wp2_with fail
      refine HC2.out.mono ?_
      rintro e w' ⟨rfl, hb⟩
      have HB' := Lib.hid hb
      clear hb
      go_wp2_with fail
      go_ret
      exact ⟨by rw [HE.out]; rfl, HB'.out⟩
/-- Which chunk to ask for, and whom. -/
def pickF (hv : List Bool) (ls : List (List Bool)) (d : Nat) : Option (Nat × Nat) :=
  match rndP hv.length d (selB hv ls d) with
  | none => none
  | some i => match whoN ls d i with
    | none => none
    | some q => some (i, q)
/-- As three results. -/
def pkV (o : Option (Nat × Nat)) : Value :=
  match o with
  | none => .tuple #[.int .i64 0, .int .i64 0, .bool false]
  | some x => .tuple #[.int .i64 (x.1 : Int), .int .i64 (x.2 : Int), .bool true]
theorem pick_any (d : Nat) (hv : List Bool) (A0 : Option Addr) (c0 : Nat) (A : Option Addr) (cp : Nat) (vs : List Value) (ls : List (List Bool)) (w : World)
    (hb : Bo w w.heap.size A0 hv) (hp : Pb w w.heap.size A vs ls) (hm : ls.length ≤ 1000) (hc : hv.length ≤ 1000) (hd : d < 18446744073709551616) :
    Calls Try.prog 15 #[.slice A0 hv.length c0, .slice A ls.length cp, .int .u64 (d : Int)] w fun e w' => e = .returned (pkV (pickF hv ls d)) ∧ Below w.heap.size w w' := by
  have HBO := Lib.hid hb
  have HPB := Lib.hid hp
  have HM := Lib.hid hm
  have HCC := Lib.hid hc
  have HD := Lib.hid hd
  obtain ⟨r, hr⟩ : ∃ r, r = pkV (pickF hv ls d) := ⟨_, rfl⟩
  obtain ⟨n, hn⟩ : ∃ n, n = hv.length := ⟨_, rfl⟩
  obtain ⟨m, hmm⟩ : ∃ n, n = ls.length := ⟨_, rfl⟩
  rw [← hr, ← hn, ← hmm]
  have HN := Lib.hid hn
  have HMM := Lib.hid hmm
  have HR := Lib.hid hr
  clear hb hp hm hc hd hr hn hmm
  go_enter Try.func15, Try.ntmps15
  go_upto_region 1 with (fail)
  obtain ⟨W3, hW3⟩ : ∃ W, W = ((w.alloc (.cells #[.slice A0 n c0] 22)).alloc (.cells #[.slice A m cp] 23)).alloc (.cells #[.int .u64 (d : Int)] 24) := ⟨_, rfl⟩
  have hB3 : Below w.heap.size w W3 := by rw [hW3]; exact (by repeat (first | exact Below.refl _ _ | assumption | refine below_drewN ?_ _ | refine Below.drew ?_ | refine Below.alloc ?_ (by simp; try omega) _ | refine Below.setCell ?_ (by simp; try omega) _))
  have hs3 : W3.heap.size = w.heap.size + 3 := by rw [hW3]; simp
  change Code.wp _ _ _ _ (((w.alloc (.cells #[.slice A0 n c0] 22)).alloc (.cells #[.slice A m cp] 23)).alloc (.cells #[.int .u64 (d : Int)] 24))
  rw [← hW3]
  obtain ⟨g5, hg5⟩ : ∃ g, g = w.heap.size + 1 + 1 := ⟨_, rfl⟩
  obtain ⟨g4, hg4⟩ : ∃ g, g = w.heap.size + 1 := ⟨_, rfl⟩
  obtain ⟨g3, hg3⟩ : ∃ g, g = w.heap.size := ⟨_, rfl⟩
  rw [← hg5, ← hg4, ← hg3]
  have HB3 := Lib.hid hB3
  have HS3 := Lib.hid hs3
  have HG5 := Lib.hid hg5
  have HG4 := Lib.hid hg4
  have HG3 := Lib.hid hg3
  have c3 : W3.cell? ⟨g3, 0, none⟩ = some (.slice A0 n c0) := by
    rw [hW3, hg3]
    simp [go_sem]
  have c4 : W3.cell? ⟨g4, 0, none⟩ = some (.slice A m cp) := by
    rw [hW3, hg4]
    simp [go_sem]
  have c5 : W3.cell? ⟨g5, 0, none⟩ = some (.int .u64 (d : Int)) := by
    rw [hW3, hg5]
    simp [go_sem]
  clear hW3 hB3 hs3 hg3 hg4 hg5
  go_upto_region 2 with (fail)
  have hg3 : g3 < W3.heap.size := by rw [HS3.out, HG3.out]; omega
  have hg4 : g4 < W3.heap.size := by rw [HS3.out, HG4.out]; omega
  have hg5 : g5 < W3.heap.size := by rw [HS3.out, HG5.out]; omega
  obtain ⟨V, hV⟩ : ∃ V, V = Value.func (.func 37) #[] #[.pointer (some ⟨g4, 0, none⟩), .pointer (some ⟨g5, 0, none⟩)] := ⟨_, rfl⟩
  obtain ⟨W4, hW4⟩ : ∃ W, W = W3.alloc (.cells #[.func (.func 37) #[] #[.pointer (some ⟨g4, 0, none⟩), .pointer (some ⟨g5, 0, none⟩)]] 65) := ⟨_, rfl⟩
  have hB4 : Below W3.heap.size W3 W4 := by rw [hW4]; exact (by repeat (first | exact Below.refl _ _ | assumption | refine below_drewN ?_ _ | refine Below.drew ?_ | refine Below.alloc ?_ (by simp; try omega) _ | refine Below.setCell ?_ (by simp; try omega) _))
  have hs4 : W4.heap.size = W3.heap.size + 1 := by rw [hW4]; simp
  change Code.wp _ _ _ _ (W3.alloc (.cells #[.func (.func 37) #[] #[.pointer (some ⟨g4, 0, none⟩), .pointer (some ⟨g5, 0, none⟩)]] 65))
  rw [← hW4]
  obtain ⟨g9, hg9⟩ : ∃ g, g = W3.heap.size := ⟨_, rfl⟩
  rw [← hg9]
  have k3 : W4.cell? ⟨g3, 0, none⟩ = some (.slice A0 n c0) := (hB4.cell (p := ⟨g3, 0, none⟩) hg3).trans c3
  have k4 : W4.cell? ⟨g4, 0, none⟩ = some (.slice A m cp) := (hB4.cell (p := ⟨g4, 0, none⟩) hg4).trans c4
  have k5 : W4.cell? ⟨g5, 0, none⟩ = some (.int .u64 (d : Int)) := (hB4.cell (p := ⟨g5, 0, none⟩) hg5).trans c5
  have k9 : W4.cell? ⟨g9, 0, none⟩ = some (.func (.func 37) #[] #[.pointer (some ⟨g4, 0, none⟩), .pointer (some ⟨g5, 0, none⟩)]) := by rw [hW4, hg9]; exact cell_of_one (heap_alloc_new W3 _)
  have hg3' : g3 < W4.heap.size := by omega
  have hg4' : g4 < W4.heap.size := by omega
  have hg5' : g5 < W4.heap.size := by omega
  have hg9' : g9 < W4.heap.size := by omega
  have HB4 := Lib.hid (below_chain HB3.out hB4)
  have HBO4 := Lib.hid (HBO.out.next HB4.out)
  have HPB4 := Lib.hid (HPB.out.next HB4.out)
  have HSEL := Lib.hid (round_any n d 40 (.pointer (some ⟨g3, 0, none⟩)) (.pointer (some ⟨g9, 0, none⟩)) (selB hv ls d) W4 enter40 (fun i hi W hb =>
    sel_any i d hv A0 c0 A cp vs ls g3 g9 g4 g5 W ((hb.cell (p := ⟨g3, 0, none⟩) hg3').trans (by rw [← HN.out]; exact k3)) ((hb.cell (p := ⟨g9, 0, none⟩) hg9').trans k9) ((hb.cell (p := ⟨g4, 0, none⟩) hg4').trans (by rw [← HMM.out]; exact k4))
      ((hb.cell (p := ⟨g5, 0, none⟩) hg5').trans k5) (HBO4.out.next hb) (HPB4.out.next hb) HM.out (by rw [← HN.out]; exact hi) HCC.out HD.out (Nat.lt_of_lt_of_le hg4' hb.size) (Nat.lt_of_lt_of_le hg5' hb.size)) (by rw [HN.out]; exact HCC.out) HD.out)
  have HWHO := Lib.hid (fun (i : Nat) (hi : i ≤ 1000) (W : World) (hb : Below W4.heap.size W4 W) => who_any i d A cp vs ls g4 g5 W ((hb.cell (p := ⟨g4, 0, none⟩) hg4').trans (by rw [← HMM.out]; exact k4))
      ((hb.cell (p := ⟨g5, 0, none⟩) hg5').trans k5) (HPB4.out.next hb) HM.out hi HD.out (Nat.lt_of_lt_of_le hg4' hb.size) (Nat.lt_of_lt_of_le hg5' hb.size))
  have HK9 := Lib.hid (fun (W : World) (hb : Below W4.heap.size W4 W) => (hb.cell (p := ⟨g9, 0, none⟩) hg9').trans k9)
  have HR2 := Lib.hid (show r = pkV (match rndP n d (selB hv ls d) with | none => none | some i => match whoN ls d i with | none => none | some q => some (i, q)) from by rw [HR.out, HN.out]; rfl)
  have HSO := Lib.hid (fun (i : Nat) (h : rndP n d (selB hv ls d) = some i) => show ∃ q, whoN ls d i = some q from by
    have h1 : selB hv ls d i = true := List.find?_some h
    unfold selB at h1
    rw [Bool.and_eq_true] at h1
    exact Option.isSome_iff_exists.1 h1.2)
  have HLT := Lib.hid (fun (i : Nat) (h : rndP n d (selB hv ls d) = some i) => show i ≤ 1000 from by
    have := List.mem_of_find?_eq_some h
    simp only [List.mem_map, List.mem_range] at this
    obtain ⟨j, hj, rfl⟩ := this
    have := plc_lt (n := n) (a := d) (k := j) (by omega)
    have := HCC.out
    have := HN.out
    omega)
  obtain ⟨o, ho⟩ : ∃ o, o = rndP n d (selB hv ls d) := ⟨_, rfl⟩
  rw [← ho] at HSEL HR2 HSO HLT
  clear ho hW4 hV c3 c4 c5 hB4 hs4 hg9 HB3 HS3 HG3 HG4 HG5 HBO HPB HBO4 HPB4 HM HCC HD HN HMM HR hg3' hg4' hg5' hg9' hg3 hg4 hg5
  cases o with
  | none =>
    have HSEL' : Hid (Calls Try.prog 38 #[.int .i64 (n : Int), .int .u64 (d : Int), .func (.func 40) #[] #[.pointer (some ⟨g3, 0, none⟩), .pointer (some ⟨g9, 0, none⟩)]] W4 fun e w' => e = .returned (.int .i64 (-1)) ∧ Below W4.heap.size W4 w') := Lib.hid HSEL.out
    have HE := Lib.hid (show r = .tuple #[.int .i64 0, .int .i64 0, .bool false] from HR2.out)
    clear HSEL HSO HLT HR2
    go_wp2_with fail
    refine HSEL'.out.mono ?_
    rintro e w' ⟨rfl, hb⟩
    have HB' := Lib.hid (below_chain HB4.out hb)
    clear hb
    go_wp2_with fail
    go_ret3
    exact ⟨by rw [HE.out]; rfl, HB'.out⟩
  | some i =>
    obtain ⟨q, hq⟩ := HSO.out i rfl
    have HE := Lib.hid (show r = .tuple #[.int .i64 (i : Int), .int .i64 (q : Int), .bool true] from by rw [HR2.out]; dsimp only; rw [hq]; rfl)
    have HSEL' : Hid (Calls Try.prog 38 #[.int .i64 (n : Int), .int .u64 (d : Int), .func (.func 40) #[] #[.pointer (some ⟨g3, 0, none⟩), .pointer (some ⟨g9, 0, none⟩)]] W4 fun e w' => e = .returned (.int .i64 (i : Int)) ∧ Below W4.heap.size W4 w') := Lib.hid HSEL.out
    have HW := Lib.hid (HWHO.out i (HLT.out i rfl))
    rw [hq] at HW
    clear HSEL HSO HLT HR2 HWHO hq
    go_wp2_with fail
    refine HSEL'.out.mono ?_
    rintro e w' ⟨rfl, hb⟩
    have HB' := Lib.hid hb
    have k9' := HK9.out w' hb
    clear hb
    go_wp2_with fail
    refine (HW.out w' HB'.out).mono ?_
    rintro e w2 ⟨rfl, hb2⟩
    have HB2 := Lib.hid (below_chain HB4.out (below_chain HB'.out hb2))
    clear hb2
    go_wp2_with fail
    go_ret3
    exact ⟨by rw [HE.out]; rfl, HB2.out⟩
end Go.Proofs.Ytmpbimechgelfaa
