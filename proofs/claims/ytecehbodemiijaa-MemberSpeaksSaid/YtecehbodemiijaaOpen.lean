/- How a member, and a list of members, that came in are read. -/
import Derived.Test.YtecehbodemiijaaLists
import Derived.Test.YtecehbodemiijaaRows
import Derived.ProofKit
import Derived.OpenShut
import Derived.ShutString
import Derived.ChangeOld
import Derived.Lib.SmallJoins
import Derived.Deep.Slices
import Derived.Deep.Fields
namespace Go.Proofs.Ytecehbodemiijaa
open Go.ChangeShapes Go.WideShapes Go.ChangeAt Go.RowKit Go.Joins Go.Deep

theorem own : ownKnob Try.prog.godebug = none := by kernel_rfl
theorem laidOut : laidOutB Try.prog = true := by kernel_rfl

theorem fits_of {a b : Int} (ha : (Lit.int .i64 a).wf = true) (hb : (Lit.int .i64 b).wf = true) : M.fits ⟨a, b⟩ := by
  have hmin : IntKind.i64.min = -9223372036854775808 := rfl
  have hmax : IntKind.i64.max = 9223372036854775807 := rfl
  simp only [Lit.wf, Bool.and_eq_true, decide_eq_true_eq] at ha hb
  unfold M.fits
  simp only
  omega

section
variable {H : Type} {enc : TypeId × Value → H} {w : World} {base : Nat} {spare : Nat → Bool} {held : Bool}
theorem open_m {fuel : Nat} {cs : List Value} {x : DataW H × List MemPlace} (h : DataW.trod enc Try.prog w base spare held fuel 24 cs = some x) :
    ∃ m : M, m.fits ∧ cs = [.int .i64 m.inc, .int .i64 m.st] := by
  obtain ⟨xs, n, _, _, hl, hxl, hf⟩ := DataW.trod_struct Try.underlying24 h
  rw [show Try.prog.cellsOf 24 = 2 from by kernel_rfl] at hl
  match cs, hl with
  | [c0, c1], _ =>
    match xs, hxl with
    | [y0, y1], _ =>
      have e0 : DataW.trod enc Try.prog w base spare held n 2 (List.take (Try.prog.cellsOf 2) [c0, c1]) = some y0 := hf 0 _ rfl
      have e1 : DataW.trod enc Try.prog w base spare held n 3 (List.take (Try.prog.cellsOf 3) [c1]) = some y1 := hf 1 _ rfl
      rw [show Try.prog.cellsOf 2 = 1 from by kernel_rfl] at e0
      rw [show Try.prog.cellsOf 3 = 1 from by kernel_rfl] at e1
      obtain ⟨a, ea, _, wa⟩ := DataW.trod_int Try.underlying2 e0
      obtain ⟨b, eb, _, wb⟩ := DataW.trod_int Try.underlying3 e1
      simp at ea eb
      exact ⟨⟨a, b⟩, fits_of wa wb, by rw [ea, eb]⟩

/-- A member that came in. -/
theorem open_M {b0 : Nat} {r : Reach} {v : Value} {d : DataW H} {p : List MemPlace} (hv : Value.okWide Try.prog w r b0 24 v) (h : DataW.Trod enc Try.prog w base spare held 24 v d p) :
    ∃ m : M, m.fits ∧ v = m.v := by
  obtain ⟨cs, rfl, hsz⟩ := okWide_struct Try.underlying24 hv
  obtain ⟨fuel, hf⟩ := h
  obtain ⟨m, hm, hc⟩ := open_m hf
  refine ⟨m, hm, ?_⟩
  obtain ⟨l⟩ := cs
  simp [Value.cells] at hc
  rw [hc]; rfl

/-- A list of members that came in. -/
theorem open_Ms {b0 : Nat} {r : Reach} {v : Value} {d : DataW H} {p : List MemPlace} (hv : Value.okWide Try.prog w r b0 30 v) (h : DataW.Trod enc Try.prog w 0 (fun _ => true) held 30 v d p) :
    ∃ (A : Option Addr) (n c : Nat) (l : Nat → M), v = .slice A n c ∧ Rd w w.heap.size 2 A n (mc l) ∧ (A = none → c = 0) ∧ n ≤ 9223372036854775807 ∧ ∀ i, i < n → (l i).fits := by
  obtain ⟨A, n, c, rfl⟩ := okWide_slice Try.underlying30 hv
  obtain ⟨fuel, hf⟩ := h
  rcases open_slice Try.underlying30 hf with ⟨hcs, _⟩ | ⟨a, len, cap, m, k, D, Pl, hcs, _, hl, hm, hmm, _, hi⟩
  · simp [Value.cells] at hcs
    obtain ⟨rfl, rfl, rfl⟩ := hcs
    exact ⟨none, 0, 0, fun _ => ⟨0, 0⟩, rfl, Rd.zero, fun _ => rfl, by omega, fun i hi => absurd hi (by omega)⟩
  · simp [Value.cells] at hcs
    obtain ⟨rfl, rfl, rfl⟩ := hcs
    have hm' : m = c := by rw [hmm]; rfl
    rw [show Try.prog.cellsOf 24 = 2 from by kernel_rfl] at hi
    have hall : ∀ i, i < n → ∃ x : M, x.fits ∧ w.cell? (a.add (i * 2)) = some (.int .i64 x.inc) ∧ w.cell? ((a.add (i * 2)).add 1) = some (.int .i64 x.st) := by
      intro i hin
      obtain ⟨cs', hc, ht⟩ := hi i (by omega)
      obtain ⟨x, hx, hcs'⟩ := open_m ht
      obtain ⟨_, _, hat⟩ := World.cells?_some hc
      have a0 := hat 0 (by omega)
      have a1 := hat 1 (by omega)
      rw [hcs'] at a0 a1
      exact ⟨x, hx, by simpa [Addr.add] using a0, by simpa using a1⟩
    obtain ⟨l, hl'⟩ := choose_lt (α := M) (p := fun i x => x.fits ∧ w.cell? (a.add (i * 2)) = some (.int .i64 x.inc) ∧ w.cell? ((a.add (i * 2)).add 1) = some (.int .i64 x.st)) hall
    refine ⟨some a, n, c, l, rfl, ?_, (fun h => by cases h), by unfold maxLen at hm; omega, fun i hin => (hl' i hin).1⟩
    intro hn
    have h0 := (hl' 0 hn).2.1
    rw [Nat.zero_mul, show a.add 0 = a from by simp [Addr.add]] at h0
    obtain ⟨b, off, spot⟩ := a
    have hs : spot = none := World.cell?_spot h0
    subst hs
    refine ⟨b, off, rfl, World.block_lt_of_cell? w _ h0, fun j hj => ?_⟩
    have hji := hl' (j / 2) (by omega)
    simp only [add_addr] at hji
    unfold mc
    by_cases hj2 : j % 2 = 0
    · rw [if_pos hj2, show off + j = off + j / 2 * 2 from by omega]; exact hji.2.1
    · rw [if_neg hj2, show off + j = off + j / 2 * 2 + 1 from by omega]; exact hji.2.2
end
end Go.Proofs.Ytecehbodemiijaa
