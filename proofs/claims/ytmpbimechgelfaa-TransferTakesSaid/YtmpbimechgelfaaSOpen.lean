/- How bytes, hashes, numbers and lists of them that came in are read. -/
import Derived.Test.YtmpbimechgelfaaSAwake
import Derived.Test.YtmpbimechgelfaaRows
import Derived.ProofKit
import Derived.OpenShut
import Derived.ChangeOld
import Derived.Lib.SmallJoins
import Derived.Deep.Slices
import Derived.Deep.Fields
namespace Go.Proofs.Ytmpbimechgelfaa
open Go.ChangeShapes Go.WideShapes Go.ChangeAt Go.RowKit Go.Joins Go.Deep

theorem own : ownKnob Try.prog.godebug = none := by kernel_rfl
theorem laidOut : laidOutB Try.prog = true := by kernel_rfl
/-- A number of an int. -/
def Fit (n : Int) : Prop := -9223372036854775808 ≤ n ∧ n ≤ 9223372036854775807
/-- A slice of bytes that came in. -/
structure InB (w : World) (A : Option Addr) (c : Nat) (l : List Nat) : Prop where
  bs : Bs w w.heap.size A l
  none_ : A = none → l.length = 0 ∧ c = 0
  cap : l.length ≤ c ∧ c ≤ maxLen
  byt : Byt l
theorem fit_wf {a : Int} (h : (Lit.int .i64 a).wf = true) : Fit a := by
  have hmin : IntKind.i64.min = -9223372036854775808 := rfl
  have hmax : IntKind.i64.max = 9223372036854775807 := rfl
  simp only [Lit.wf, Bool.and_eq_true, decide_eq_true_eq] at h
  unfold Fit
  omega
theorem byte_wf {a : Int} (h : (Lit.int .u8 a).wf = true) : ∃ k : Nat, a = (k : Int) ∧ k < 256 := by
  have hmin : IntKind.u8.min = 0 := rfl
  have hmax : IntKind.u8.max = 255 := rfl
  simp only [Lit.wf, Bool.and_eq_true, decide_eq_true_eq] at h
  exact ⟨a.toNat, by omega, by omega⟩
section
variable {H : Type} {enc : TypeId × Value → H} {w : World} {base : Nat} {spare : Nat → Bool} {held : Bool}
theorem open_b {fuel : Nat} {cs : List Value} {x : DataW H × List MemPlace} (h : DataW.trod enc Try.prog w base spare held fuel 31 cs = some x) :
    ∃ A c l, cs = [.slice A l.length c] ∧ InB w A c l := by
  rcases open_slice Try.underlying31 h with ⟨hcs, _⟩ | ⟨a, len, cap, m, k, D, Pl, hcs, _, hl, hm, hmm, _, hi⟩
  · exact ⟨none, 0, [], hcs, Bs.nil, fun _ => ⟨rfl, rfl⟩, ⟨Nat.le_refl _, Nat.zero_le _⟩, by unfold Byt; simp⟩
  · have hlm : len ≤ m := by rw [hmm]; split <;> omega
    rw [show Try.prog.cellsOf 5 = 1 from by kernel_rfl] at hi
    have hall : ∀ i, i < len → ∃ y : Nat, y < 256 ∧ w.cell? (a.add i) = some (.int .u8 (y : Int)) := by
      intro i hin
      obtain ⟨cs', hc, ht⟩ := hi i (by omega)
      obtain ⟨n, rfl, _, wn⟩ := DataW.trod_int Try.underlying5 ht
      obtain ⟨y, rfl, hy⟩ := byte_wf wn
      obtain ⟨_, _, hat⟩ := World.cells?_some hc
      have a0 := hat 0 (by omega)
      exact ⟨y, hy, by simpa [Addr.add] using a0⟩
    obtain ⟨f, hf⟩ := choose_lt (α := Nat) (p := fun i y => y < 256 ∧ w.cell? (a.add i) = some (.int .u8 (y : Int))) hall
    have hg : ∀ j, j < len → ((List.range len).map f)[j]?.getD 0 = f j := by intro j hj; simp [hj]
    refine ⟨some a, cap, (List.range len).map f, by simpa using hcs, ?_, (fun h => by cases h), by simp; omega, ?_⟩
    · intro hn
      have hlen : ((List.range len).map f).length = len := by simp
      rw [hlen] at hn ⊢
      have h0 := (hf 0 hn).2
      rw [show a.add 0 = a from by simp [Addr.add]] at h0
      obtain ⟨b, off, spot⟩ := a
      have hs : spot = none := World.cell?_spot h0
      subst hs
      refine ⟨b, off, rfl, World.block_lt_of_cell? w _ h0, fun j hj => ?_⟩
      have hj' : j < len := by omega
      have := (hf j hj').2
      simp only [add_addr] at this
      rw [this]; unfold bf; rw [hg j hj']
    · intro y hy
      simp only [List.mem_map, List.mem_range] at hy
      obtain ⟨i, hi, rfl⟩ := hy
      exact (hf i hi).1
theorem open_h {fuel : Nat} {cs : List Value} {x : DataW H × List MemPlace} (h : DataW.trod enc Try.prog w base spare held fuel 33 cs = some x) :
    ∃ f : Nat → Nat, cs = (hc f).toList ∧ ∀ j, f j < 256 := by
  obtain ⟨xs, n, _, _, hl, hxl, hf⟩ := DataW.trod_array Try.underlying33 h
  rw [show Try.prog.cellsOf 33 = 32 from by kernel_rfl] at hl
  rw [show Try.prog.cellsOf 5 = 1 from by kernel_rfl] at hf
  have hall : ∀ i, i < 32 → ∃ y : Nat, y < 256 ∧ cs[i]? = some (.int .u8 (y : Int)) := by
    intro i hi
    have e := hf i hi
    have hx : xs[i]? = some xs[i] := List.getElem?_eq_getElem (by omega)
    rw [hx, Nat.mul_one] at e
    obtain ⟨k, ek, _, wk⟩ := DataW.trod_int Try.underlying5 e
    obtain ⟨y, rfl, hy⟩ := byte_wf wk
    refine ⟨y, hy, ?_⟩
    have := congrArg (fun l => l[0]?) ek
    simpa [List.getElem?_take, List.getElem?_drop] using this
  obtain ⟨f, hf2⟩ := choose_lt (α := Nat) (p := fun i y => y < 256 ∧ cs[i]? = some (.int .u8 (y : Int))) hall
  refine ⟨fun j => if j < 32 then f j else 0, ?_, fun j => ?_⟩
  · refine List.ext_getElem? fun i => ?_
    by_cases hi : i < 32
    · rw [(hf2 i hi).2]; unfold hc; simp [hi]
    · rw [List.getElem?_eq_none (by omega), List.getElem?_eq_none (by simp [hc]; omega)]
  · show (if j < 32 then f j else 0) < 256
    split
    · exact (hf2 j ‹_›).1
    · decide
set_option maxRecDepth 100000 in
/-- A byte that came in. -/
theorem open_u8 {b0 : Nat} {r : Reach} {v : Value} {d : DataW H} {p : List MemPlace} (hv : Value.okWide Try.prog w r b0 5 v) (h : DataW.Trod enc Try.prog w base spare held 5 v d p) :
    ∃ n : Nat, v = .int .u8 (n : Int) ∧ n < 256 := by
  obtain ⟨n, rfl⟩ := okWide_int Try.underlying5 hv
  obtain ⟨fuel, hf⟩ := h
  obtain ⟨k, hk, _, wk⟩ := DataW.trod_int Try.underlying5 hf
  simp [Value.cells] at hk
  subst hk
  obtain ⟨y, rfl, hy⟩ := byte_wf wk
  exact ⟨y, rfl, hy⟩
set_option maxRecDepth 100000 in
/-- A number that came in. -/
theorem open_i64 {t : TypeId} (ht : Try.prog.underlying t = some (.int .i64)) {b0 : Nat} {r : Reach} {v : Value} {d : DataW H} {p : List MemPlace} (hv : Value.okWide Try.prog w r b0 t v) (h : DataW.Trod enc Try.prog w base spare held t v d p) :
    ∃ n : Int, v = .int .i64 n ∧ Fit n := by
  obtain ⟨n, rfl⟩ := okWide_int ht hv
  obtain ⟨fuel, hf⟩ := h
  obtain ⟨k, hk, _, wk⟩ := DataW.trod_int ht hf
  simp [Value.cells] at hk
  subst hk
  exact ⟨n, rfl, fit_wf wk⟩
set_option maxRecDepth 100000 in
/-- Bytes that came in. -/
theorem open_B {b0 : Nat} {r : Reach} {v : Value} {d : DataW H} {p : List MemPlace} (hv : Value.okWide Try.prog w r b0 31 v) (h : DataW.Trod enc Try.prog w 0 (fun _ => true) held 31 v d p) :
    ∃ (A : Option Addr) (c : Nat) (l : List Nat), v = .slice A l.length c ∧ InB w A c l := by
  obtain ⟨A, n, c, rfl⟩ := okWide_slice Try.underlying31 hv
  obtain ⟨fuel, hf⟩ := h
  obtain ⟨A', c', l, hcs, hb⟩ := open_b hf
  simp [Value.cells] at hcs
  obtain ⟨rfl, rfl, rfl⟩ := hcs
  exact ⟨_, _, l, rfl, hb⟩
set_option maxRecDepth 100000 in
/-- A hash that came in by value. -/
theorem open_H {b0 : Nat} {r : Reach} {v : Value} {d : DataW H} {p : List MemPlace} (hv : Value.okWide Try.prog w r b0 33 v) (h : DataW.Trod enc Try.prog w base spare held 33 v d p) :
    ∃ f : Nat → Nat, v = .agg (hc f) ∧ ∀ j, f j < 256 := by
  have hv' : ∃ cs, v = .agg cs ∧ cs.size = Try.prog.cellsOf 33 := by
    simp only [Value.okWide, Try.underlying33] at hv
    obtain ⟨cs, h1, h2, _⟩ := hv
    exact ⟨cs, h1, h2⟩
  obtain ⟨cs, rfl, hsz⟩ := hv'
  obtain ⟨fuel, hf⟩ := h
  obtain ⟨f, hcs, hb⟩ := open_h hf
  refine ⟨f, ?_, hb⟩
  have : cs.toList = (hc f).toList := by simpa [Value.cells] using hcs
  rw [Array.toList_inj.1 this]
set_option maxRecDepth 100000 in
/-- A slice of whatever elements of sz cells that came in: its elements, read one by one. -/
theorem open_rows {α : Type} [Inhabited α] (t e : TypeId) (sz : Nat) (hsz0 : 0 < sz) (ht : Try.prog.underlying t = some (.slice e)) (hce : Try.prog.cellsOf e = sz) (f : α → Nat → Value) (ok : α → Prop)
    (hop : ∀ (fuel : Nat) (cs : List Value) (x : DataW H × List MemPlace), DataW.trod enc Try.prog w 0 (fun _ => true) held fuel e cs = some x → ∃ y : α, cs = (List.range sz).map (f y) ∧ ok y)
    {b0 : Nat} {r : Reach} {v : Value} {d : DataW H} {p : List MemPlace} (hv : Value.okWide Try.prog w r b0 t v) (h : DataW.Trod enc Try.prog w 0 (fun _ => true) held t v d p) :
    ∃ (A : Option Addr) (c : Nat) (l : List α), v = .slice A l.length c ∧ Rd w w.heap.size sz A l.length (fun j => f (l[j / sz]?.getD default) (j % sz)) ∧ (A = none → l.length = 0 ∧ c = 0) ∧ (l.length ≤ c ∧ c ≤ maxLen) ∧ ∀ x ∈ l, ok x := by
  obtain ⟨A, n, c, rfl⟩ := okWide_slice ht hv
  obtain ⟨fuel, hf⟩ := h
  rcases open_slice ht hf with ⟨hcs, _⟩ | ⟨a, len, cap, m, k, D, Pl, hcs, _, hl, hm, hmm, _, hi⟩
  · simp [Value.cells] at hcs
    obtain ⟨rfl, rfl, rfl⟩ := hcs
    exact ⟨none, 0, [], rfl, Rd.zero, fun _ => ⟨rfl, rfl⟩, ⟨Nat.le_refl _, Nat.zero_le _⟩, by simp⟩
  · simp [Value.cells] at hcs
    obtain ⟨rfl, rfl, rfl⟩ := hcs
    have hlm : n ≤ m := by rw [hmm]; split <;> omega
    rw [hce] at hi
    have hall : ∀ i, i < n → ∃ y : α, ok y ∧ ∀ j, j < sz → w.cell? ((a.add (i * sz)).add j) = some (f y j) := by
      intro i hin
      obtain ⟨cs', hc, ht⟩ := hi i (by omega)
      obtain ⟨y, rfl, hy⟩ := hop _ _ _ ht
      obtain ⟨_, _, hat⟩ := World.cells?_some hc
      refine ⟨y, hy, fun j hj => ?_⟩
      rw [hat j hj]; simp [hj]
    obtain ⟨g, hg⟩ := choose_lt (α := α) (p := fun i y => ok y ∧ ∀ j, j < sz → w.cell? ((a.add (i * sz)).add j) = some (f y j)) hall
    refine ⟨some a, c, (List.range n).map g, by simp, ?_, (fun h => by cases h), by simp; omega, ?_⟩
    · intro hn
      have hlen : ((List.range n).map g).length = n := by simp
      rw [hlen] at hn ⊢
      have h0 := (hg 0 hn).2 0 hsz0
      rw [Nat.zero_mul, show (a.add 0).add 0 = a from by simp [Addr.add]] at h0
      obtain ⟨b, off, spot⟩ := a
      have hs : spot = none := World.cell?_spot h0
      subst hs
      refine ⟨b, off, rfl, World.block_lt_of_cell? w _ h0, fun j hj => ?_⟩
      have hj' : j / sz < n := by rw [Nat.div_lt_iff_lt_mul hsz0]; exact hj
      have := (hg (j / sz) hj').2 (j % sz) (Nat.mod_lt _ hsz0)
      simp only [add_addr] at this
      rw [Nat.add_assoc, Nat.div_add_mod' j sz] at this
      rw [this]
      simp [hj']
    · intro y hy
      simp only [List.mem_map, List.mem_range] at hy
      obtain ⟨i, hi, rfl⟩ := hy
      exact (hg i hi).1
set_option maxRecDepth 100000 in
/-- Hashes that came in. -/
theorem open_Hs {b0 : Nat} {r : Reach} {v : Value} {d : DataW H} {p : List MemPlace} (hv : Value.okWide Try.prog w r b0 32 v) (h : DataW.Trod enc Try.prog w 0 (fun _ => true) held 32 v d p) :
    ∃ (A : Option Addr) (c : Nat) (l : List (Nat → Nat)), v = .slice A l.length c ∧ Hs w w.heap.size A l ∧ (A = none → l.length = 0 ∧ c = 0) ∧ (l.length ≤ c ∧ c ≤ maxLen) ∧ ∀ x ∈ l, ∀ j, x j < 256 := by
  have : Inhabited (Nat → Nat) := ⟨fun _ => 0⟩
  obtain ⟨A, c, l, h1, h2, h3, h4, h5⟩ := open_rows (α := Nat → Nat) (held := held) 32 33 32 (by omega) Try.underlying32 (by kernel_rfl) (fun f j => .int .u8 ((f j : Nat) : Int)) (fun f => ∀ j, f j < 256) (fun fuel cs x hx => by
    obtain ⟨f, hf, hb⟩ := open_h hx
    exact ⟨f, by rw [hf]; rfl, hb⟩) hv h
  refine ⟨A, c, l, h1, h2.congr fun j hj => ?_, h3, h4, h5⟩
  have hj' : j / 32 < l.length := by omega
  unfold hf
  rw [List.getElem?_eq_getElem hj']
  rfl
set_option maxRecDepth 100000 in
/-- Numbers that came in. -/
theorem open_Is {b0 : Nat} {r : Reach} {v : Value} {d : DataW H} {p : List MemPlace} (hv : Value.okWide Try.prog w r b0 51 v) (h : DataW.Trod enc Try.prog w 0 (fun _ => true) held 51 v d p) :
    ∃ (A : Option Addr) (c : Nat) (l : List Int), v = .slice A l.length c ∧ Rd w w.heap.size 1 A l.length (fun j => .int .i64 (l[j]?.getD 0)) ∧ (A = none → l.length = 0 ∧ c = 0) ∧ (l.length ≤ c ∧ c ≤ maxLen) ∧ ∀ x ∈ l, Fit x := by
  obtain ⟨A, c, l, h1, h2, h3, h4, h5⟩ := open_rows (α := Int) (held := held) 51 3 1 (by omega) Try.underlying51 (by kernel_rfl) (fun f _ => .int .i64 f) Fit (fun fuel cs x hx => by
    obtain ⟨k, hk, _, wk⟩ := DataW.trod_int Try.underlying3 hx
    exact ⟨k, by simp [hk], fit_wf wk⟩) hv h
  refine ⟨A, c, l, h1, h2.congr fun j hj => ?_, h3, h4, h5⟩
  rw [Nat.div_one]
  rfl
end
section
variable {w w' : World} {A : Option Addr} {c : Nat} {l : List Nat}
theorem InB.next (h : InB w A c l) (hb : Below w.heap.size w w') : InB w' A c l := ⟨h.bs.next hb, h.none_, h.cap, h.byt⟩
end
end Go.Proofs.Ytmpbimechgelfaa
