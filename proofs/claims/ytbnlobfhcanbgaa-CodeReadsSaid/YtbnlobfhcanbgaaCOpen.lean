/- How bytes, and a list of parts, that came in are read. -/
import Derived.Test.YtbnlobfhcanbgaaRead
import Derived.Test.YtbnlobfhcanbgaaRows
import Derived.ProofKit
import Derived.OpenShut
import Derived.ShutString
import Derived.ChangeOld
import Derived.Lib.SmallJoins
import Derived.Deep.Slices
import Derived.Deep.Fields
namespace Go.Proofs.Ytbnlobfhcanbgaa
open Go.ChangeShapes Go.WideShapes Go.ChangeAt Go.RowKit Go.Joins Go.Deep

instance : Inhabited Pt := ⟨Pt.nil⟩
theorem own : ownKnob Try.prog.godebug = none := by kernel_rfl
theorem laidOut : laidOutB Try.prog = true := by kernel_rfl

/-- A slice of bytes that came in. -/
structure InB (w : World) (A : Option Addr) (c : Nat) (l : List Nat) : Prop where
  bs : Bs w w.heap.size A l
  none_ : A = none → l.length = 0 ∧ c = 0
  cap : l.length ≤ c ∧ c ≤ maxLen
  byt : Byt l
/-- A part that came in. -/
structure InP (w : World) (x : Pt) : Prop where
  b : InB w x.A x.c x.b
  fit : Fit x.n ∧ Fit x.least ∧ Fit x.most
  h : ∀ j, x.h j < 256
/-- A slice of parts that came in. -/
structure InPs (w : World) (A : Option Addr) (c : Nat) (l : List Pt) : Prop where
  rd : Rd w w.heap.size 37 A l.length (pf l)
  none_ : A = none → l.length = 0 ∧ c = 0
  cap : l.length ≤ c ∧ c ≤ maxLen
  ok : ∀ x ∈ l, InP w x
theorem fit_wf {a : Int} (h : (Lit.int .i64 a).wf = true) : Fit a := by
  have hmin : IntKind.i64.min = -9223372036854775808 := rfl
  have hmax : IntKind.i64.max = 9223372036854775807 := rfl
  simp only [Lit.wf, Bool.and_eq_true, decide_eq_true_eq] at h
  unfold Fit
  omega
theorem byte_wf {a : Int} (h : (Lit.int .u8 a).wf = true) : ∃ k : Nat, a = (k : Int) ∧ k < 256 := by
  have hmin : IntKind.u8.min = 0 := rfl
  have hmax : IntKind.u8.max = 255 := rfl
  simp only [Lit.wf, Bool.and_eq_true, decide_eq_true_eq] at h
  exact ⟨a.toNat, by omega, by omega⟩
section
variable {H : Type} {enc : TypeId × Value → H} {w : World} {base : Nat} {spare : Nat → Bool} {held : Bool}
theorem open_b {fuel : Nat} {cs : List Value} {x : DataW H × List MemPlace} (h : DataW.trod enc Try.prog w base spare held fuel 25 cs = some x) :
    ∃ A c l, cs = [.slice A l.length c] ∧ InB w A c l := by
  rcases open_slice Try.underlying25 h with ⟨hcs, _⟩ | ⟨a, len, cap, m, k, D, Pl, hcs, _, hl, hm, hmm, _, hi⟩
  · exact ⟨none, 0, [], hcs, Bs.nil, fun _ => ⟨rfl, rfl⟩, ⟨Nat.le_refl _, Nat.zero_le _⟩, by unfold Byt; simp⟩
  · have hlm : len ≤ m := by rw [hmm]; split <;> omega
    rw [show Try.prog.cellsOf 5 = 1 from by kernel_rfl] at hi
    have hall : ∀ i, i < len → ∃ y : Nat, y < 256 ∧ w.cell? (a.add i) = some (.int .u8 (y : Int)) := by
      intro i hin
      obtain ⟨cs', hc, ht⟩ := hi i (by omega)
      obtain ⟨n, rfl, _, wn⟩ := DataW.trod_int Try.underlying5 ht
      obtain ⟨y, rfl, hy⟩ := byte_wf wn
      obtain ⟨_, _, hat⟩ := World.cells?_some hc
      have a0 := hat 0 (by omega)
      exact ⟨y, hy, by simpa [Addr.add] using a0⟩
    obtain ⟨f, hf⟩ := choose_lt (α := Nat) (p := fun i y => y < 256 ∧ w.cell? (a.add i) = some (.int .u8 (y : Int))) hall
    have hg : ∀ j, j < len → ((List.range len).map f)[j]?.getD 0 = f j := by intro j hj; simp [hj]
    refine ⟨some a, cap, (List.range len).map f, by simpa using hcs, ?_, (fun h => by cases h), by simp; omega, ?_⟩
    · intro hn
      have hlen : ((List.range len).map f).length = len := by simp
      rw [hlen] at hn ⊢
      have h0 := (hf 0 hn).2
      rw [show a.add 0 = a from by simp [Addr.add]] at h0
      obtain ⟨b, off, spot⟩ := a
      have hs : spot = none := World.cell?_spot h0
      subst hs
      refine ⟨b, off, rfl, World.block_lt_of_cell? w _ h0, fun j hj => ?_⟩
      have hj' : j < len := by omega
      have := (hf j hj').2
      simp only [add_addr] at this
      rw [this]; unfold bf; rw [hg j hj']
    · intro y hy
      simp only [List.mem_map, List.mem_range] at hy
      obtain ⟨i, hi, rfl⟩ := hy
      exact (hf i hi).1
theorem open_h {fuel : Nat} {cs : List Value} {x : DataW H × List MemPlace} (h : DataW.trod enc Try.prog w base spare held fuel 26 cs = some x) :
    ∃ f : Nat → Nat, cs = (hc f).toList ∧ ∀ j, f j < 256 := by
  obtain ⟨xs, n, _, _, hl, hxl, hf⟩ := DataW.trod_array Try.underlying26 h
  rw [show Try.prog.cellsOf 26 = 32 from by kernel_rfl] at hl
  rw [show Try.prog.cellsOf 5 = 1 from by kernel_rfl] at hf
  have hall : ∀ i, i < 32 → ∃ y : Nat, y < 256 ∧ cs[i]? = some (.int .u8 (y : Int)) := by
    intro i hi
    have e := hf i hi
    have hx : xs[i]? = some xs[i] := List.getElem?_eq_getElem (by omega)
    rw [hx, Nat.mul_one] at e
    obtain ⟨k, ek, _, wk⟩ := DataW.trod_int Try.underlying5 e
    obtain ⟨y, rfl, hy⟩ := byte_wf wk
    refine ⟨y, hy, ?_⟩
    have := congrArg (fun l => l[0]?) ek
    simpa [List.getElem?_take, List.getElem?_drop] using this
  obtain ⟨f, hf2⟩ := choose_lt (α := Nat) (p := fun i y => y < 256 ∧ cs[i]? = some (.int .u8 (y : Int))) hall
  refine ⟨fun j => if j < 32 then f j else 0, ?_, fun j => ?_⟩
  · refine List.ext_getElem? fun i => ?_
    by_cases hi : i < 32
    · rw [(hf2 i hi).2]; unfold hc; simp [hi]
    · rw [List.getElem?_eq_none (by omega), List.getElem?_eq_none (by simp [hc]; omega)]
  · show (if j < 32 then f j else 0) < 256
    split
    · exact (hf2 j ‹_›).1
    · decide
theorem open_p {fuel : Nat} {cs : List Value} {x : DataW H × List MemPlace} (h : DataW.trod enc Try.prog w base spare held fuel 28 cs = some x) :
    ∃ y : Pt, cs = ptc y ∧ InP w y := by
  obtain ⟨xs, n, _, _, hl, hxl, hf⟩ := DataW.trod_struct Try.underlying28 h
  rw [show Try.prog.cellsOf 28 = 37 from by kernel_rfl] at hl
  match cs, hl with
  | c0 :: c1 :: c2 :: c3 :: c4 :: cs, hl =>
    match xs, hxl with
    | [y0, y1, y2, y3, y4, y5], _ =>
      have e0 : DataW.trod enc Try.prog w base spare held n 3 (List.take (Try.prog.cellsOf 3) (c0 :: c1 :: c2 :: c3 :: c4 :: cs)) = some y0 := hf 0 _ rfl
      have e1 : DataW.trod enc Try.prog w base spare held n 2 (List.take (Try.prog.cellsOf 2) (c1 :: c2 :: c3 :: c4 :: cs)) = some y1 := hf 1 _ rfl
      have e2 : DataW.trod enc Try.prog w base spare held n 2 (List.take (Try.prog.cellsOf 2) (c2 :: c3 :: c4 :: cs)) = some y2 := hf 2 _ rfl
      have e3 : DataW.trod enc Try.prog w base spare held n 2 (List.take (Try.prog.cellsOf 2) (c3 :: c4 :: cs)) = some y3 := hf 3 _ rfl
      have e4 : DataW.trod enc Try.prog w base spare held n 25 (List.take (Try.prog.cellsOf 25) (c4 :: cs)) = some y4 := hf 4 _ rfl
      have e5 : DataW.trod enc Try.prog w base spare held n 26 (List.take (Try.prog.cellsOf 26) cs) = some y5 := hf 5 _ rfl
      rw [show Try.prog.cellsOf 3 = 1 from by kernel_rfl] at e0
      rw [show Try.prog.cellsOf 2 = 1 from by kernel_rfl] at e1 e2 e3
      rw [show Try.prog.cellsOf 25 = 1 from by kernel_rfl] at e4
      rw [show Try.prog.cellsOf 26 = 32 from by kernel_rfl] at e5
      obtain ⟨k0, h0, _, -⟩ := DataW.trod_int Try.underlying3 e0
      obtain ⟨k1, h1, _, w1⟩ := DataW.trod_int Try.underlying2 e1
      obtain ⟨k2, h2, _, w2⟩ := DataW.trod_int Try.underlying2 e2
      obtain ⟨k3, h3, _, w3⟩ := DataW.trod_int Try.underlying2 e3
      obtain ⟨A, c, l, h4, hb⟩ := open_b e4
      obtain ⟨f, h5, hf⟩ := open_h e5
      have h6 : cs.length = 32 := by simp at hl; omega
      rw [List.take_of_length_le (by omega)] at h5
      simp at h0 h1 h2 h3 h4
      exact ⟨⟨k0, k1, k2, k3, A, c, l, f⟩, by rw [h0, h1, h2, h3, h4, h5]; rfl, hb, ⟨fit_wf w1, fit_wf w2, fit_wf w3⟩, hf⟩
/-- A byte that came in. -/
theorem open_u8 {b0 : Nat} {r : Reach} {v : Value} {d : DataW H} {p : List MemPlace} (hv : Value.okWide Try.prog w r b0 5 v) (h : DataW.Trod enc Try.prog w base spare held 5 v d p) :
    ∃ n : Nat, v = .int .u8 (n : Int) ∧ n < 256 := by
  obtain ⟨n, rfl⟩ := okWide_int Try.underlying5 hv
  obtain ⟨fuel, hf⟩ := h
  obtain ⟨k, hk, _, wk⟩ := DataW.trod_int Try.underlying5 hf
  simp [Value.cells] at hk
  subst hk
  obtain ⟨y, rfl, hy⟩ := byte_wf wk
  exact ⟨y, rfl, hy⟩
/-- A number that came in. -/
theorem open_i64 {t : TypeId} (ht : Try.prog.underlying t = some (.int .i64)) {b0 : Nat} {r : Reach} {v : Value} {d : DataW H} {p : List MemPlace} (hv : Value.okWide Try.prog w r b0 t v) (h : DataW.Trod enc Try.prog w base spare held t v d p) :
    ∃ n : Int, v = .int .i64 n ∧ Fit n := by
  obtain ⟨n, rfl⟩ := okWide_int ht hv
  obtain ⟨fuel, hf⟩ := h
  obtain ⟨k, hk, _, wk⟩ := DataW.trod_int ht hf
  simp [Value.cells] at hk
  subst hk
  exact ⟨n, rfl, fit_wf wk⟩
/-- Bytes that came in. -/
theorem open_B {b0 : Nat} {r : Reach} {v : Value} {d : DataW H} {p : List MemPlace} (hv : Value.okWide Try.prog w r b0 25 v) (h : DataW.Trod enc Try.prog w 0 (fun _ => true) held 25 v d p) :
    ∃ (A : Option Addr) (c : Nat) (l : List Nat), v = .slice A l.length c ∧ InB w A c l := by
  obtain ⟨A, n, c, rfl⟩ := okWide_slice Try.underlying25 hv
  obtain ⟨fuel, hf⟩ := h
  obtain ⟨A', c', l, hcs, hb⟩ := open_b hf
  simp [Value.cells] at hcs
  obtain ⟨rfl, rfl, rfl⟩ := hcs
  exact ⟨_, _, l, rfl, hb⟩
/-- Parts that came in. -/
theorem open_Ps {b0 : Nat} {r : Reach} {v : Value} {d : DataW H} {p : List MemPlace} (hv : Value.okWide Try.prog w r b0 23 v) (h : DataW.Trod enc Try.prog w 0 (fun _ => true) held 23 v d p) :
    ∃ (A : Option Addr) (c : Nat) (l : List Pt), v = .slice A l.length c ∧ InPs w A c l := by
  obtain ⟨A, n, c, rfl⟩ := okWide_slice Try.underlying23 hv
  obtain ⟨fuel, hf⟩ := h
  rcases open_slice Try.underlying23 hf with ⟨hcs, _⟩ | ⟨a, len, cap, m, k, D, Pl, hcs, _, hl, hm, hmm, _, hi⟩
  · simp [Value.cells] at hcs
    obtain ⟨rfl, rfl, rfl⟩ := hcs
    exact ⟨none, 0, [], rfl, Rd.zero, fun _ => ⟨rfl, rfl⟩, ⟨Nat.le_refl _, Nat.zero_le _⟩, by simp⟩
  · simp [Value.cells] at hcs
    obtain ⟨rfl, rfl, rfl⟩ := hcs
    have hlm : n ≤ m := by rw [hmm]; split <;> omega
    rw [show Try.prog.cellsOf 28 = 37 from by kernel_rfl] at hi
    have hall : ∀ i, i < n → ∃ y : Pt, InP w y ∧ ∀ j v, (ptc y)[j]? = some v → w.cell? ((a.add (i * 37)).add j) = some v := by
      intro i hin
      obtain ⟨cs', hc, ht⟩ := hi i (by omega)
      obtain ⟨y, rfl, hy⟩ := open_p ht
      obtain ⟨_, _, hat⟩ := World.cells?_some hc
      refine ⟨y, hy, fun j v hj => ?_⟩
      have hlt := (List.getElem?_eq_some_iff.1 hj).1
      rw [ptc_len] at hlt
      rw [hat j hlt, hj]
    obtain ⟨f, hf2⟩ := choose_lt (α := Pt) (p := fun i y => InP w y ∧ ∀ j v, (ptc y)[j]? = some v → w.cell? ((a.add (i * 37)).add j) = some v) hall
    refine ⟨some a, c, (List.range n).map f, by simp, ?_, (fun h => by cases h), by simp; omega, ?_⟩
    · intro hn
      have hlen : ((List.range n).map f).length = n := by simp
      rw [hlen] at hn ⊢
      have h0 := (hf2 0 hn).2 0 _ rfl
      rw [Nat.zero_mul, show (a.add 0).add 0 = a from by simp [Addr.add]] at h0
      obtain ⟨b, off, spot⟩ := a
      have hs : spot = none := World.cell?_spot h0
      subst hs
      refine ⟨b, off, rfl, World.block_lt_of_cell? w _ h0, fun j hj => ?_⟩
      have hj' : j / 37 < n := by omega
      have hmod : j % 37 < (ptc (f (j / 37))).length := by rw [ptc_len]; omega
      have := (hf2 (j / 37) hj').2 (j % 37) _ (List.getElem?_eq_getElem hmod)
      simp only [add_addr] at this
      rw [show off + j = off + j / 37 * 37 + j % 37 from by omega, this]
      unfold pf
      simp [hj', List.getElem?_eq_getElem hmod]
    · intro y hy
      simp only [List.mem_map, List.mem_range] at hy
      obtain ⟨i, hi, rfl⟩ := hy
      exact (hf2 i hi).1
end
section
variable {w w' : World} {A : Option Addr} {c : Nat} {l : List Nat} {x : Pt} {ps : List Pt}
theorem InB.next (h : InB w A c l) (hb : Below w.heap.size w w') : InB w' A c l := ⟨h.bs.next hb, h.none_, h.cap, h.byt⟩
theorem InP.next (h : InP w x) (hb : Below w.heap.size w w') : InP w' x := ⟨h.b.next hb, h.fit, h.h⟩
theorem InPs.next (h : InPs w A c ps) (hb : Below w.heap.size w w') : InPs w' A c ps := ⟨(h.rd.below hb).more hb.size, h.none_, h.cap, fun x hx => (h.ok x hx).next hb⟩
theorem InP.ok_ (h : InP w x) (hl : x.b.length ≤ 1000) : PtOk w w.heap.size x := ⟨h.b.bs, h.b.none_, h.b.byt, hl, h.fit, h.h⟩
theorem InPs.pts (h : InPs w A c ps) (hl : ∀ x ∈ ps, x.b.length ≤ 1000) : Pts w w.heap.size A c ps := ⟨h.rd, fun e => (h.none_ e).2, fun x hx => (h.ok x hx).ok_ (hl x hx)⟩
theorem InPs.at_ (h : InPs w A c ps) {k : Nat} (hk : ps[k]? = some x) : ∃ b off, A = some ⟨b, off, none⟩ ∧ b < w.heap.size ∧ PtAt w b (off + k * 37) x := by
  have hlt : k < ps.length := (List.getElem?_eq_some_iff.1 hk).1
  obtain ⟨b, off, hA, hb, hc⟩ := h.rd (by omega)
  refine ⟨b, off, hA, hb, .of fun j v hj => ?_⟩
  have hj37 : j < 37 := by have := (List.getElem?_eq_some_iff.1 hj).1; rw [ptc_len] at this; exact this
  rw [Nat.add_assoc, hc (k * 37 + j) (by omega), pf_at ps k j hj37, hk]
  simp [hj]
end
end Go.Proofs.Ytbnlobfhcanbgaa
