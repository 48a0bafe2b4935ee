/- How Booleans, lists of them, and manifests that came in are read. -/
import Derived.Test.YtmpbimechgelfaaSOpen
import Derived.Test.YtmpbimechgelfaaPick
import Derived.Test.YtmpbimechgelfaaMan
namespace Go.Proofs.Ytmpbimechgelfaa
open Go.ChangeShapes Go.WideShapes Go.ChangeAt Go.RowKit Go.Joins Go.Deep

/-- A slice of Booleans that came in. -/
structure InO (w : World) (A : Option Addr) (c : Nat) (l : List Bool) : Prop where
  bo : Bo w w.heap.size A l
  none_ : A = none → l.length = 0 ∧ c = 0
  cap : l.length ≤ c ∧ c ≤ maxLen
theorem InO.next {w w' : World} {A : Option Addr} {c : Nat} {l : List Bool} (h : InO w A c l) (hb : Below w.heap.size w w') : InO w' A c l := ⟨h.bo.next hb, h.none_, h.cap⟩
theorem u64_wf {a : Int} (h : (Lit.int .u64 a).wf = true) : ∃ k : Nat, a = (k : Int) ∧ k < 18446744073709551616 := by
  have hmin : IntKind.u64.min = 0 := rfl
  have hmax : IntKind.u64.max = 18446744073709551615 := rfl
  simp only [Lit.wf, Bool.and_eq_true, decide_eq_true_eq] at h
  exact ⟨a.toNat, by omega, by omega⟩
section
variable {H : Type} {enc : TypeId × Value → H} {w : World} {base : Nat} {spare : Nat → Bool} {held : Bool}
theorem open_o {fuel : Nat} {cs : List Value} {x : DataW H × List MemPlace} (h : DataW.trod enc Try.prog w base spare held fuel 22 cs = some x) :
    ∃ A c l, cs = [.slice A l.length c] ∧ InO w A c l := by
  rcases open_slice Try.underlying22 h with ⟨hcs, _⟩ | ⟨a, len, cap, m, k, D, Pl, hcs, _, hl, hm, hmm, _, hi⟩
  · exact ⟨none, 0, [], hcs, Bo.none, fun _ => ⟨rfl, rfl⟩, ⟨Nat.le_refl _, Nat.zero_le _⟩⟩
  · have hlm : len ≤ m := by rw [hmm]; split <;> omega
    rw [show Try.prog.cellsOf 4 = 1 from by kernel_rfl] at hi
    have hall : ∀ i, i < len → ∃ y : Bool, w.cell? (a.add i) = some (.bool y) := by
      intro i hin
      obtain ⟨cs', hc, ht⟩ := hi i (by omega)
      obtain ⟨n, rfl, _⟩ := DataW.trod_bool Try.underlying4 ht
      obtain ⟨_, _, hat⟩ := World.cells?_some hc
      have a0 := hat 0 (by omega)
      exact ⟨n, by simpa [Addr.add] using a0⟩
    obtain ⟨f, hf⟩ := choose_lt (α := Bool) (p := fun i y => w.cell? (a.add i) = some (.bool y)) hall
    have hg : ∀ j, j < len → ((List.range len).map f)[j]?.getD false = f j := by intro j hj; simp [hj]
    refine ⟨some a, cap, (List.range len).map f, by simpa using hcs, ?_, (fun h => by cases h), by simp; omega⟩
    intro hn
    have hlen : ((List.range len).map f).length = len := by simp
    rw [hlen] at hn ⊢
    have h0 := hf 0 hn
    rw [show a.add 0 = a from by simp [Addr.add]] at h0
    obtain ⟨b, off, spot⟩ := a
    have hs : spot = none := World.cell?_spot h0
    subst hs
    refine ⟨b, off, rfl, World.block_lt_of_cell? w _ h0, fun j hj => ?_⟩
    have hj' : j < len := by omega
    have := hf j hj'
    simp only [add_addr] at this
    rw [this]; unfold bb; rw [hg j hj']
set_option maxRecDepth 100000 in
/-- Booleans that came in. -/
theorem open_O {b0 : Nat} {r : Reach} {v : Value} {d : DataW H} {p : List MemPlace} (hv : Value.okWide Try.prog w r b0 22 v) (h : DataW.Trod enc Try.prog w 0 (fun _ => true) held 22 v d p) :
    ∃ (A : Option Addr) (c : Nat) (l : List Bool), v = .slice A l.length c ∧ InO w A c l := by
  obtain ⟨A, n, c, rfl⟩ := okWide_slice Try.underlying22 hv
  obtain ⟨fuel, hf⟩ := h
  obtain ⟨A', c', l, hcs, hb⟩ := open_o hf
  simp [Value.cells] at hcs
  obtain ⟨rfl, rfl, rfl⟩ := hcs
  exact ⟨_, _, l, rfl, hb⟩
set_option maxRecDepth 100000 in
/-- A number of 64 bits that came in. -/
theorem open_u64 {b0 : Nat} {r : Reach} {v : Value} {d : DataW H} {p : List MemPlace} (hv : Value.okWide Try.prog w r b0 24 v) (h : DataW.Trod enc Try.prog w base spare held 24 v d p) :
    ∃ n : Nat, v = .int .u64 (n : Int) ∧ n < 18446744073709551616 := by
  obtain ⟨n, rfl⟩ := okWide_int Try.underlying24 hv
  obtain ⟨fuel, hf⟩ := h
  obtain ⟨k, hk, _, wk⟩ := DataW.trod_int Try.underlying24 hf
  simp [Value.cells] at hk
  subst hk
  obtain ⟨y, rfl, hy⟩ := u64_wf wk
  exact ⟨y, rfl, hy⟩
set_option maxRecDepth 100000 in
/-- Lists of Booleans that came in. -/
theorem open_Os {b0 : Nat} {r : Reach} {v : Value} {d : DataW H} {p : List MemPlace} (hv : Value.okWide Try.prog w r b0 23 v) (h : DataW.Trod enc Try.prog w 0 (fun _ => true) held 23 v d p) :
    ∃ (A : Option Addr) (c : Nat) (vs : List Value) (ls : List (List Bool)), v = .slice A ls.length c ∧ Pb w w.heap.size A vs ls ∧ (A = none → ls.length = 0 ∧ c = 0) ∧ (ls.length ≤ c ∧ c ≤ maxLen) := by
  have : Inhabited Value := ⟨undef⟩
  obtain ⟨A, c, vs, h1, h2, h3, h4, h5⟩ := open_rows (α := Value) (held := held) 23 22 1 (by omega) Try.underlying23 (by kernel_rfl) (fun y _ => y) (fun y => ∃ A c l, y = .slice A l.length c ∧ InO w A c l) (fun fuel cs x hx => by
    obtain ⟨A, c, l, hcs, hb⟩ := open_o hx
    exact ⟨.slice A l.length c, by rw [hcs]; rfl, A, c, l, rfl, hb⟩) hv h
  have hall : ∀ i, i < vs.length → ∃ l : List Bool, ∃ A c, vs[i]? = some (.slice A l.length c) ∧ InO w A c l := by
    intro i hi
    obtain ⟨A, c, l, e, hb⟩ := h5 vs[i] (List.getElem_mem hi)
    exact ⟨l, A, c, by rw [List.getElem?_eq_getElem hi, e], hb⟩
  obtain ⟨g, hg⟩ := choose_lt (α := List Bool) (p := fun i l => ∃ A c, vs[i]? = some (.slice A l.length c) ∧ InO w A c l) hall
  refine ⟨A, c, vs, (List.range vs.length).map g, by rw [h1]; simp, ⟨by simp, ?_, fun j v l hv hl => ?_⟩, by simpa using h3, by simpa using h4⟩
  · have hlen : ((List.range vs.length).map g).length = vs.length := by simp
    rw [hlen]
    exact h2.congr fun j hj => by rw [Nat.div_one]; unfold vf; rw [List.getElem?_eq_getElem (by omega)]; rfl
  · have hj : j < vs.length := (List.getElem?_eq_some_iff.1 hv).1
    obtain ⟨A', c', e, hb⟩ := hg j hj
    have hl' : l = g j := by simp [hj] at hl; exact hl.symm
    rw [hv] at e
    injection e with e
    subst hl'
    exact ⟨A', c', e, hb.bo, Nat.le_trans hb.cap.1 hb.cap.2⟩
set_option maxRecDepth 100000 in
/-- A slice of whatever elements of sz cells that came in: its elements, read one by one. -/
theorem open_rows2 {α : Type} [Inhabited α] (t e : TypeId) (sz : Nat) (hsz0 : 0 < sz) (ht : Try.prog.underlying t = some (.slice e)) (hce : Try.prog.cellsOf e = sz) (f : α → Nat → Value) (ok : α → Prop)
    (hop : ∀ (fuel : Nat) (cs : List Value) (x : DataW H × List MemPlace), DataW.trod enc Try.prog w 0 (fun _ => true) held fuel e cs = some x → ∃ y : α, cs = (List.range sz).map (f y) ∧ ok y)
    {fuel : Nat} {cs : List Value} {x : DataW H × List MemPlace} (hf : DataW.trod enc Try.prog w 0 (fun _ => true) held fuel t cs = some x) :
    ∃ (A : Option Addr) (c : Nat) (l : List α), cs = [.slice A l.length c] ∧ Rd w w.heap.size sz A l.length (fun j => f (l[j / sz]?.getD default) (j % sz)) ∧ (A = none → l.length = 0 ∧ c = 0) ∧ (l.length ≤ c ∧ c ≤ maxLen) ∧ ∀ x ∈ l, ok x := by
  rcases open_slice ht hf with ⟨hcs, _⟩ | ⟨a, n, c, m, k, D, Pl, hcs, _, hl, hm, hmm, _, hi⟩
  · exact ⟨none, 0, [], hcs, Rd.zero, fun _ => ⟨rfl, rfl⟩, ⟨Nat.le_refl _, Nat.zero_le _⟩, by simp⟩
  · have hlm : n ≤ m := by rw [hmm]; split <;> omega
    rw [hce] at hi
    have hall : ∀ i, i < n → ∃ y : α, ok y ∧ ∀ j, j < sz → w.cell? ((a.add (i * sz)).add j) = some (f y j) := by
      intro i hin
      obtain ⟨cs', hc, ht⟩ := hi i (by omega)
      obtain ⟨y, rfl, hy⟩ := hop _ _ _ ht
      obtain ⟨_, _, hat⟩ := World.cells?_some hc
      refine ⟨y, hy, fun j hj => ?_⟩
      rw [hat j hj]; simp [hj]
    obtain ⟨g, hg⟩ := choose_lt (α := α) (p := fun i y => ok y ∧ ∀ j, j < sz → w.cell? ((a.add (i * sz)).add j) = some (f y j)) hall
    refine ⟨some a, c, (List.range n).map g, by simpa using hcs, ?_, (fun h => by cases h), by simp; omega, ?_⟩
    · intro hn
      have hlen : ((List.range n).map g).length = n := by simp
      rw [hlen] at hn ⊢
      have h0 := (hg 0 hn).2 0 hsz0
      rw [Nat.zero_mul, show (a.add 0).add 0 = a from by simp [Addr.add]] at h0
      obtain ⟨b, off, spot⟩ := a
      have hs : spot = none := World.cell?_spot h0
      subst hs
      refine ⟨b, off, rfl, World.block_lt_of_cell? w _ h0, fun j hj => ?_⟩
      have hj' : j / sz < n := by rw [Nat.div_lt_iff_lt_mul hsz0]; exact hj
      have := (hg (j / sz) hj').2 (j % sz) (Nat.mod_lt _ hsz0)
      simp only [add_addr] at this
      rw [Nat.add_assoc, Nat.div_add_mod' j sz] at this
      rw [this]
      simp [hj']
    · intro y hy
      simp only [List.mem_map, List.mem_range] at hy
      obtain ⟨i, hi, rfl⟩ := hy
      exact (hg i hi).1
/-- A manifest that came in. -/
structure InM (w : World) (s k : Int) (A : Option Addr) (c : Nat) (hs : List (Nat → Nat)) (f : Nat → Nat) : Prop where
  hs_ : Hs w w.heap.size A hs
  none_ : A = none → hs.length = 0 ∧ c = 0
  cap : hs.length ≤ c ∧ c ≤ maxLen
  byt : ∀ h ∈ hs, ∀ j, h j < 256
  fits : Fit s ∧ Fit k
set_option maxRecDepth 100000 in
theorem open_M {b0 : Nat} {r : Reach} {v : Value} {d : DataW H} {p : List MemPlace} (hv : Value.okWide Try.prog w r b0 35 v) (h : DataW.Trod enc Try.prog w 0 (fun _ => true) held 35 v d p) :
    ∃ (s k : Int) (A : Option Addr) (c : Nat) (hs : List (Nat → Nat)) (f : Nat → Nat), v = .agg (mcv s k (.slice A hs.length c) f) ∧ InM w s k A c hs f := by
  obtain ⟨cs, rfl, hsz⟩ := okWide_struct Try.underlying35 hv
  obtain ⟨fuel, hff⟩ := h
  obtain ⟨xs, n, _, _, hlen, hxl, hg⟩ := DataW.trod_struct Try.underlying35 hff
  have hx4 : xs.length = 4 := hxl
  have hl35 : cs.toList.length = 35 := by
    have e : Try.prog.cellsOf 35 = 35 := by kernel_rfl
    rw [e] at hlen
    exact hlen
  have g0 : DataW.trod enc Try.prog w 0 (fun _ => true) held n 3 ((cs.toList.drop 0).take (Try.prog.cellsOf 3)) = xs[0]? := hg 0 _ rfl
  have g1 : DataW.trod enc Try.prog w 0 (fun _ => true) held n 3 ((cs.toList.drop 1).take (Try.prog.cellsOf 3)) = xs[1]? := hg 1 _ rfl
  have g2 : DataW.trod enc Try.prog w 0 (fun _ => true) held n 32 ((cs.toList.drop 2).take (Try.prog.cellsOf 32)) = xs[2]? := hg 2 _ rfl
  have g3 : DataW.trod enc Try.prog w 0 (fun _ => true) held n 33 ((cs.toList.drop 3).take (Try.prog.cellsOf 33)) = xs[3]? := hg 3 _ rfl
  rw [show Try.prog.cellsOf 3 = 1 from by kernel_rfl, List.getElem?_eq_getElem (by omega)] at g0 g1
  rw [show Try.prog.cellsOf 32 = 1 from by kernel_rfl, List.getElem?_eq_getElem (by omega)] at g2
  rw [show Try.prog.cellsOf 33 = 32 from by kernel_rfl, List.getElem?_eq_getElem (by omega)] at g3
  obtain ⟨s, e0, _, w0⟩ := DataW.trod_int Try.underlying3 g0
  obtain ⟨k, e1, _, w1⟩ := DataW.trod_int Try.underlying3 g1
  have : Inhabited (Nat → Nat) := ⟨fun _ => 0⟩
  obtain ⟨A, c, hs, e2, h2, h3, h4, h5⟩ := open_rows2 (α := Nat → Nat) (held := held) 32 33 32 (by omega) Try.underlying32 (by kernel_rfl) (fun f j => .int .u8 ((f j : Nat) : Int)) (fun f => ∀ j, f j < 256) (fun fuel cs x hx => by
    obtain ⟨f, hf, hb⟩ := open_h hx
    exact ⟨f, by rw [hf]; rfl, hb⟩) g2
  obtain ⟨f, e3, hfb⟩ := open_h g3
  refine ⟨s, k, A, c, hs, f, ?_, ⟨h2.congr fun j hj => ?_, h3, h4, h5, fit_wf w0, fit_wf w1⟩⟩
  · congr 1
    refine Array.toList_inj.1 ?_
    show cs.toList = [.int .i64 s, .int .i64 k, .slice A hs.length c] ++ (hc f).toList
    have d0 : cs.toList = (cs.toList.drop 0).take 1 ++ ((cs.toList.drop 1).take 1 ++ ((cs.toList.drop 2).take 1 ++ cs.toList.drop 3)) := by
      rw [show (cs.toList.drop 2).take 1 ++ cs.toList.drop 3 = cs.toList.drop 2 from by
        rw [show cs.toList.drop 3 = (cs.toList.drop 2).drop 1 from by rw [List.drop_drop]]; exact List.take_append_drop 1 _]
      rw [show (cs.toList.drop 1).take 1 ++ cs.toList.drop 2 = cs.toList.drop 1 from by
        rw [show cs.toList.drop 2 = (cs.toList.drop 1).drop 1 from by rw [List.drop_drop]]; exact List.take_append_drop 1 _]
      rw [List.drop_zero]
      exact (List.take_append_drop 1 _).symm
    rw [d0, e0, e1, e2, ← e3, List.take_of_length_le (by rw [List.length_drop]; omega)]
    rfl
  · have hj' : j / 32 < hs.length := by omega
    unfold hf
    rw [List.getElem?_eq_getElem hj']
    rfl
end
end Go.Proofs.Ytmpbimechgelfaa
