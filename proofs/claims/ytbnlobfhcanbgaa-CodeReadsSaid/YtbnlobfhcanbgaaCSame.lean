/- same's contract, where the parts are the same. -/
import Derived.Test.YtbnlobfhcanbgaaCFew
import Derived.Test.YtbnlobfhcanbgaaStr
import Derived.DeepKeys
import Derived.BigQuiet
import Derived.Deep.QuietTactic
namespace Go.Proofs.Ytbnlobfhcanbgaa
open Go Go.RowKit

theorem eq_items (h : Nat → Nat) (w : World) : ∀ is : List Nat, (∀ i ∈ is, i < 32) → (Op.eqItems 9999 5 (Try.prog.cellsOf 5) (hc h) (hc h) is).run Try.prog w = .ok true w
  | [], _ => by simp [Op.eqItems]
  | i :: is, hi => by
    have h1 := hi i (by simp)
    have hx : (hc h)[i * Try.prog.cellsOf 5]? = some (.int .u8 ((h i : Nat) : Int)) := by
      rw [show Try.prog.cellsOf 5 = 1 from by kernel_rfl, Nat.mul_one]; unfold hc; simp [h1]
    have hp := run_part_plain (P := Try.prog) w (show Try.prog.plainKey 5 = true from by kernel_rfl) hx
    have he := run_equalIn_int (P := Try.prog) w 9998 5 .u8 .u8 ((h i : Nat) : Int) ((h i : Nat) : Int) Try.underlying5
    have ih := eq_items h w is (fun j hj => hi j (by simp [hj]))
    simp only [Op.eqItems, Sem.run_bind, hp, Result.andThen_ok]
    rw [he]
    simp [ih]
theorem eq_hash (h : Nat → Nat) (w : World) : (Op.equalIn 10000 26 (.agg (hc h)) (.agg (hc h))).run Try.prog w = .ok true w := by
  obtain ⟨i, hi⟩ : ∃ i, Try.prog.info? 5 = some i := by
    cases h : Try.prog.info? 5 with
    | none => have := info_u8; rw [h] at this; cases this
    | some i => exact ⟨i, rfl⟩
  rw [run_equalIn_array w 9999 (hc h) (hc h) Try.underlying26 hi]
  exact eq_items h w _ (fun i hi => by simpa using hi)
/-- A load of a whole array in a quiet walk. -/
theorem wpQuiet_load_mid {P : Program} {ops : Array Oper} {C : World → Prop} {Q : Act → Prop} {op : Oper} {rest : List Oper} {a : Act} (hw : Region.wanted op (yielded ops a.tmps) = true) (ty : TypeId) (x : Operand) (ho : op.op = .load ty x)
    (b o : Nat) (hx : a.eval x = .pointer (some ⟨b, o, none⟩)) (V : Array Value) (d : TypeDesc) (hS : ∀ w, C w → w.rangeAt b o V.toList)
    (hu : P.underlying ty = some d) (hd : d.isRow = true) (hi : (P.info? ty).map (·.size) = some V.size) (h : wpQuiet P ops C Q rest (a.put op.dst (.agg V))) : wpQuiet P ops C Q (op :: rest) a := by
  unfold wpQuiet
  rw [if_pos hw]
  refine ⟨_, fun w hw' => ?_, h⟩
  unfold Oper.quietAt execOp
  simp only [ho, hx, Instr.loadAt, Instr.sureAddr, Sem.run_bind, Sem.run_pure, Result.andThen_ok, run_loadVar_mid w b o ty V.toList d (hS w hw') hu hd (by rw [hi, Array.length_toList]), Array.toArray_toList]
  exact ⟨rfl, rfl⟩
/-- What same reads of a part. -/
def key (x : Pt) : Int × Int × List Nat × Array Value := (x.kind, x.n, x.b, hc x.h)
/-- A slice of parts that same may read. -/
structure Sp (w : World) (A : Option Addr) (l : List Pt) : Prop where
  rd : Rd w w.heap.size 37 A l.length (pf l)
  bs : ∀ x ∈ l, Bs w w.heap.size x.A x.b
theorem Sp.drewN {w : World} {A : Option Addr} {l : List Pt} (h : Sp w A l) (q : Nat) : Sp (w.drewN q) A l := ⟨h.rd, h.bs⟩
theorem Sp.at_ {w : World} {A : Option Addr} {l : List Pt} {x : Pt} (h : Sp w A l) {k : Nat} (hk : l[k]? = some x) : ∃ b off, A = some ⟨b, off, none⟩ ∧ b < w.heap.size ∧ PtAt w b (off + k * 37) x := by
  have hlt : k < l.length := (List.getElem?_eq_some_iff.1 hk).1
  obtain ⟨b, off, hA, hb, hc⟩ := h.rd (by omega)
  refine ⟨b, off, hA, hb, .of fun j v hj => ?_⟩
  have hj37 : j < 37 := by have := (List.getElem?_eq_some_iff.1 hj).1; rw [ptc_len] at this; exact this
  rw [Nat.add_assoc, hc (k * 37 + j) (by omega), pf_at l k j hj37, hk]
  simp [hj]
theorem PtAt.drewN {w : World} {b o : Nat} {x : Pt} (h : PtAt w b o x) (q : Nat) : PtAt (w.drewN q) b o x := ⟨h.f0, h.f1, h.f2, h.f3, h.f4, h.f5, h.all⟩
set_option maxRecDepth 100000 in
set_option maxHeartbeats 4000000 in
theorem same_yes (A : Option Addr) (c : Nat) (a : List Pt) (B : Option Addr) (d : Nat) (b : List Pt) (w : World) (ha : Sp w A a) (hb : Sp w B b) (hl : a.length ≤ 100) (h : a.map key = b.map key) :
    Calls Try.prog 18 #[.slice A a.length c, .slice B b.length d] w fun e w' => e = .returned (.bool true) ∧ Below w.heap.size w w' := by
  have hlen : b.length = a.length := by have := congrArg List.length h; simpa using this.symm
  rw [hlen]
  have HLEN := Lib.hid hlen
  have HA := Lib.hid ha
  have HB := Lib.hid hb
  have HK := Lib.hid h
  clear hlen ha hb h
  go_enter Try.func18, Try.ntmps18
  go_wp2_with fail
  go_loopw [5] (fun i wr => ∃ k : Nat, i = .int .i64 (k : Int) ∧ k ≤ a.length ∧ ∃ q, wr = w.drewN q) (fun i _ => (a.length - intOf i).toNat)
  case atStart => exact ⟨0, rfl, Nat.zero_le _, 0, rfl⟩
  case round =>
    obtain ⟨k, rfl, hk, q, rfl⟩ := hrel
    by_cases hkl : k < a.length
    · obtain ⟨x, hx⟩ : ∃ x, a[k]? = some x := ⟨_, List.getElem?_eq_getElem hkl⟩
      obtain ⟨y, hy⟩ : ∃ y, b[k]? = some y := ⟨_, List.getElem?_eq_getElem (by rw [HLEN.out]; exact hkl)⟩
      have hkey : key x = key y := by
        have := congrArg (fun l => l[k]?) HK.out
        simpa [hx, hy] using this
      simp only [key, Prod.mk.injEq] at hkey
      obtain ⟨e1, e2, e3, e4⟩ := hkey
      obtain ⟨b1, off1, rfl, hb1, hat1⟩ := HA.out.at_ hx
      obtain ⟨b2, off2, rfl, hb2, hat2⟩ := HB.out.at_ hy
      have hX := HA.out.bs x (List.mem_of_getElem? hx)
      have hY := HB.out.bs y (List.mem_of_getElem? hy)
      rw [← e3] at hY
      obtain ⟨S, hS⟩ : ∃ S, S = str x.b := ⟨_, rfl⟩
      have cv1 : ∀ q, (convert 25 9 (.slice x.A x.b.length x.c)).run Try.prog (w.drewN q) = .ok (.string S) (w.drewN q) := fun q => by rw [hS]; exact str_conv x.c (Rd.drewN hX q)
      have cv2 : ∀ q, (convert 25 9 (.slice y.A x.b.length y.c)).run Try.prog (w.drewN q) = .ok (.string S) (w.drewN q) := fun q => by rw [hS]; exact str_conv y.c (Rd.drewN hY q)
      have p0 := hat1.f0
      have p1 := hat1.f1
      have p4 := hat1.f4
      have P5 := Lib.hid hat1.f5
      have q0 := hat2.f0
      have q1 := hat2.f1
      have q4 := hat2.f4
      have q5 := hat2.f5
      rw [← e1] at q0
      rw [← e2] at q1
      rw [← e3] at q4
      rw [← e4] at q5
      obtain ⟨V, hV⟩ : ∃ V, V = hc x.h := ⟨_, rfl⟩
      have hev : ∀ q, (Op.equalIn 10000 26 (.agg V) (.agg V)).run Try.prog (w.drewN q) = .ok true (w.drewN q) := fun q => by rw [hV]; exact eq_hash _ _
      have HV := Lib.hid hV
      have Q5 := Lib.hid q5
      clear hx hy e1 e2 e3 e4 hat1 hat2 hX hY hS hV q5
      go_wp2_with fail
      refine wp_region_quiet_lit (by kernel_rfl) (by kernel_rfl) ?_
      repeat (first
        | (refine wpQuiet_load_mid (by rfl) 26 (.tmp 60) (by rfl) b1 (off1 + k * 37 + 5) (by rfl) V _ (fun w' hw' => by obtain ⟨n, rfl⟩ := hw'; rw [HV.out]; exact P5.out) Try.underlying26 (by rfl) (by rw [HV.out]; exact size_hc) ?_; simp only [Act.put, List.setIfInBounds_toArray, List.set_cons_zero, List.set_cons_succ])
        | (refine wpQuiet_load_mid (by rfl) 26 (.tmp 65) (by rfl) b2 (off2 + k * 37 + 5) (by rfl) V _ (fun w' hw' => by obtain ⟨n, rfl⟩ := hw'; rw [HV.out]; exact Q5.out) Try.underlying26 (by rfl) (by rw [HV.out]; exact size_hc) ?_; simp only [Act.put, List.setIfInBounds_toArray, List.set_cons_zero, List.set_cons_succ])
        | go_big_quiet_step (fail))
      refine wpQuiet_nil ?_
      intro _ hw'
      obtain ⟨nq, rfl⟩ := hw'
      go_wp2_with fail
      go_roundw
      case rel => exact ⟨k + 1, by go_num, by omega, q + nq, rfl⟩
      case measure => simp [intOf]; omega
    · go_wp2_with fail
      go_ret
      exact ⟨rfl, (by repeat (first | exact Below.refl _ _ | assumption | refine below_drewN ?_ _ | refine Below.drew ?_ | refine Below.alloc ?_ (by simp; try omega) _ | refine Below.setCell ?_ (by simp; try omega) _))⟩
end Go.Proofs.Ytbnlobfhcanbgaa
