/- Parts in memory; what is written of them. -/
import Derived.Test.YtbnlobfhcanbgaaReadHash
import Derived.Deep.MidRow
namespace Go.Proofs.Ytbnlobfhcanbgaa
open Go Go.RowKit

/-- A part as it lies in memory. -/
structure Pt where
  kind : Int
  n : Int
  least : Int
  most : Int
  A : Option Addr
  c : Nat
  b : List Nat
  h : Nat → Nat
def Pt.nil : Pt := ⟨0, 0, 0, 0, none, 0, [], fun _ => 0⟩
/-- Its cells. -/
def ptc (x : Pt) : List Value := [.int .i64 x.kind, .int .i64 x.n, .int .i64 x.least, .int .i64 x.most, .slice x.A x.b.length x.c] ++ (hc x.h).toList
theorem ptc_len (x : Pt) : (ptc x).length = 37 := by simp [ptc, hc]
/-- The cells of parts. -/
def pf (l : List Pt) (j : Nat) : Value := (ptc (l[j / 37]?.getD Pt.nil))[j % 37]?.getD undef
/-- A part's numbers are int64s, its bytes bytes, in memory below block B. -/
structure PtOk (w : World) (B : Nat) (x : Pt) : Prop where
  bs : Bs w B x.A x.b
  none_ : x.A = none → x.b.length = 0 ∧ x.c = 0
  byt : Byt x.b
  len : x.b.length ≤ 1000
  fit : Fit x.n ∧ Fit x.least ∧ Fit x.most
  h : ∀ j, x.h j < 256
/-- The slice at A holds the parts l, below block B. -/
structure Pts (w : World) (B : Nat) (A : Option Addr) (c : Nat) (l : List Pt) : Prop where
  rd : Rd w B 37 A l.length (pf l)
  none_ : A = none → c = 0
  ok : ∀ x ∈ l, PtOk w B x
section
variable {w w' : World} {B : Nat} {A : Option Addr} {c : Nat} {l : List Pt} {x : Pt}
theorem PtOk.below (h : PtOk w B x) (hb : Below B w w') : PtOk w' B x := ⟨h.bs.below hb, h.none_, h.byt, h.len, h.fit, h.h⟩
theorem PtOk.more {B' : Nat} (h : PtOk w B x) (hB : B ≤ B') : PtOk w B' x := ⟨h.bs.more hB, h.none_, h.byt, h.len, h.fit, h.h⟩
theorem Pts.below (h : Pts w B A c l) (hb : Below B w w') : Pts w' B A c l := ⟨h.rd.below hb, h.none_, fun x hx => (h.ok x hx).below hb⟩
theorem Pts.more {B' : Nat} (h : Pts w B A c l) (hB : B ≤ B') : Pts w B' A c l := ⟨h.rd.more hB, h.none_, fun x hx => (h.ok x hx).more hB⟩
theorem pf_at (l : List Pt) (k j : Nat) (hj : j < 37) : pf l (k * 37 + j) = (ptc (l[k]?.getD Pt.nil))[j]?.getD undef := by
  unfold pf
  rw [show (k * 37 + j) / 37 = k from by omega, show (k * 37 + j) % 37 = j from by omega]
/-- The cells of the k-th part. -/
theorem Pts.cells (h : Pts w B A c l) {k : Nat} (hk : l[k]? = some x) : ∃ b off, A = some ⟨b, off, none⟩ ∧ b < B ∧ ∀ (j : Nat) v, (ptc x)[j]? = some v → w.cell? ⟨b, off + (k * 37 + j), none⟩ = some v := by
  have hlt : k < l.length := (List.getElem?_eq_some_iff.1 hk).1
  obtain ⟨b, off, hA, hb, hc⟩ := h.rd (by omega)
  refine ⟨b, off, hA, hb, fun j v hj => ?_⟩
  have hj37 : j < 37 := by have := (List.getElem?_eq_some_iff.1 hj).1; rw [ptc_len] at this; exact this
  rw [hc (k * 37 + j) (by omega), pf_at l k j hj37, hk]
  simp [hj]
end
/-- The fields of the part at an address, as the walk spells them. -/
structure PtAt (w : World) (b o : Nat) (x : Pt) : Prop where
  f0 : w.cell? ⟨b, o, none⟩ = some (.int .i64 x.kind)
  f1 : w.cell? ⟨b, o + 1, none⟩ = some (.int .i64 x.n)
  f2 : w.cell? ⟨b, o + 2, none⟩ = some (.int .i64 x.least)
  f3 : w.cell? ⟨b, o + 3, none⟩ = some (.int .i64 x.most)
  f4 : w.cell? ⟨b, o + 4, none⟩ = some (.slice x.A x.b.length x.c)
  f5 : w.rangeAt b (o + 5) (hc x.h).toList
  all : w.rangeAt b o (ptc x)
theorem PtAt.of {w : World} {b o : Nat} {x : Pt} (h : w.rangeAt b o (ptc x)) : PtAt w b o x :=
  ⟨h 0 _ rfl, h 1 _ rfl, h 2 _ rfl, h 3 _ rfl, h 4 _ rfl, fun j v hj => by
    rw [Nat.add_assoc]
    refine h (5 + j) v ?_
    unfold ptc
    rw [List.getElem?_append_right (by simp)]
    simpa using hj, h⟩
theorem Pts.at_ {w : World} {B : Nat} {A : Option Addr} {c : Nat} {l : List Pt} {x : Pt} (h : Pts w B A c l) {k : Nat} (hk : l[k]? = some x) : ∃ b off, A = some ⟨b, off, none⟩ ∧ b < B ∧ PtAt w b (off + k * 37) x := by
  obtain ⟨b, off, hA, hb, hc⟩ := h.cells hk
  exact ⟨b, off, hA, hb, .of fun j v hj => by rw [Nat.add_assoc]; exact hc j v hj⟩
theorem hc_list (h : Nat → Nat) : (hc h).toList.toArray = hc h := rfl
theorem PtAt.loadH {w : World} {b o : Nat} {x : Pt} (h : PtAt w b o x) : (Instr.loadAt 26 (.pointer (some ⟨b, o + 5, none⟩))).run Try.prog w = .ok (.agg (hc x.h)) w :=
  run_loadAt_mid w b (o + 5) 26 (hc x.h).toList _ h.f5 Try.underlying26 rfl (by rw [Array.length_toList]; exact size_hc)
/-- What is written of a part. -/
def wr1 (x : Pt) : List Nat := if x.kind = 1 then enc x.n else if x.kind = 2 then enc x.b.length ++ x.b else if x.kind = 3 then hl x.h else []
/-- What is written of parts. -/
def wrs (l : List Pt) : List Nat := (l.map wr1).flatten
theorem wrs_snoc (l : List Pt) (k : Nat) (x : Pt) (h : l[k]? = some x) : wrs (l.take (k + 1)) = wrs (l.take k) ++ wr1 x := by
  have hk : k < l.length := (List.getElem?_eq_some_iff.1 h).1
  have hx : l[k] = x := (List.getElem?_eq_some_iff.1 h).2
  unfold wrs
  rw [List.take_succ_eq_append_getElem hk, List.map_append, List.flatten_append, hx]
  simp
theorem wr1_len {w : World} {B : Nat} {x : Pt} (h : PtOk w B x) : (wr1 x).length ≤ 1010 := by
  unfold wr1
  have := (enc_len h.fit.1).2
  have h3 : Fit (x.b.length : Int) := by unfold Fit; have := h.len; omega
  have := (enc_len h3).2
  have := h.len
  split
  · omega
  · split
    · simp; omega
    · split
      · rw [hl_len]; omega
      · simp
theorem wrs_len {w : World} {B : Nat} (l : List Pt) (h : ∀ x ∈ l, PtOk w B x) : (wrs l).length ≤ 1010 * l.length := by
  induction l with
  | nil => simp [wrs]
  | cons x l ih =>
    have h1 := wr1_len (h x (by simp))
    have h2 := ih (fun y hy => h y (by simp [hy]))
    unfold wrs at *
    simp only [List.map_cons, List.flatten_cons, List.length_append, List.length_cons]
    omega
theorem wrs_take_len {w : World} {B : Nat} (l : List Pt) (k : Nat) (h : ∀ x ∈ l, PtOk w B x) (hl : l.length ≤ 100) : (wrs (l.take k)).length ≤ 200000 := by
  have := wrs_len (l.take k) (fun x hx => h x (List.mem_of_mem_take hx))
  have h2 : (l.take k).length ≤ l.length := by simp; omega
  omega
end Go.Proofs.Ytbnlobfhcanbgaa
