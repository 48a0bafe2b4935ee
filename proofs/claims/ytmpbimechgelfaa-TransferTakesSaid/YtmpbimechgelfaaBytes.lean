/- Slices of bytes that are read as lists of numbers. -/
import Derived.Test.YtmpbimechgelfaaProg
import Derived.Test.YtmpbimechgelfaaLib
namespace Go.Proofs.Ytmpbimechgelfaa
open Go Go.RowKit

/-- The cells of a list of bytes. -/
def bf (l : List Nat) (j : Nat) : Value := .int .u8 ((l[j]?.getD 0 : Nat) : Int)
/-- All are bytes. -/
def Byt (l : List Nat) : Prop := ∀ x ∈ l, x < 256
/-- The slice A reads as the bytes l, below block B. -/
def Bs (w : World) (B : Nat) (A : Option Addr) (l : List Nat) : Prop := Rd w B 1 A l.length (bf l)
/-- The slice v is the call's own and holds the bytes l. -/
def Ob (w : World) (base : Nat) (v : Value) (l : List Nat) : Prop := Own w base 5 1 v l.length (bf l)

theorem bf_one (l : List Nat) (j : Nat) : (bf l j).oneCell' = true := rfl
theorem bf_app (l m : List Nat) (j : Nat) (_hj : j < (l.length + m.length) * 1) : (if j < l.length * 1 then bf l j else bf m (j - l.length * 1)) = bf (l ++ m) j := by
  unfold bf
  rw [List.getElem?_append]
  by_cases h : j < l.length
  · rw [if_pos (by omega), if_pos h]
  · rw [if_neg (by omega), if_neg h, Nat.mul_one]
theorem bf_drop (l : List Nat) (k j : Nat) : bf (l.drop k) j = bf l (k + j) := by
  unfold bf; rw [List.getElem?_drop]
theorem bf_take (l : List Nat) (k j : Nat) (h : j < k) : bf (l.take k) j = bf l j := by
  unfold bf; rw [List.getElem?_take_of_lt h]
theorem Byt.app {l m : List Nat} (h : Byt l) (k : Byt m) : Byt (l ++ m) := fun x hx => (List.mem_append.1 hx).elim (h x) (k x)
theorem Byt.drop {l : List Nat} (h : Byt l) (k : Nat) : Byt (l.drop k) := fun x hx => h x (List.mem_of_mem_drop hx)
theorem Byt.take {l : List Nat} (h : Byt l) (k : Nat) : Byt (l.take k) := fun x hx => h x (List.mem_of_mem_take hx)
theorem Byt.at_ {l : List Nat} (h : Byt l) (j : Nat) : l[j]?.getD 0 < 256 := by
  by_cases hj : j < l.length
  · rw [List.getElem?_eq_getElem hj]; exact h _ (List.getElem_mem hj)
  · rw [List.getElem?_eq_none (by omega)]; decide
theorem info_u8 : (Try.prog.info? 5).map (fun i => (i.zero, i.size, i.bytes)) = some (some (.int .u8 0), 1, 1) := by kernel_rfl

section
variable {w w' : World} {B base : Nat} {A : Option Addr} {v : Value} {l m : List Nat}
theorem Bs.nil : Bs w B A [] := Rd.zero
theorem Bs.below (h : Bs w B A l) (hb : Below B w w') : Bs w' B A l := Rd.below h hb
theorem Bs.next (h : Bs w w.heap.size A l) (hb : Below w.heap.size w w') : Bs w' w'.heap.size A l := (Rd.below h hb).more hb.size
theorem Bs.more {B' : Nat} (h : Bs w B A l) (hB : B ≤ B') : Bs w B' A l := Rd.more h hB
theorem Ob.nil : Ob w base (.slice none 0 0) [] := Own.nil
theorem Ob.app {w : World} (h : Own w base 5 1 v (l.length + m.length) (fun j => if j < l.length * 1 then bf l j else bf m (j - l.length * 1))) : Ob w base v (l ++ m) := by
  unfold Ob
  rw [List.length_append]
  exact h.congr fun j hj => bf_app l m j hj
theorem Ob.bs {cap : Nat} (h : Ob w base (.slice A l.length cap) l) : Bs w w.heap.size A l := Own.rd h
end
end Go.Proofs.Ytmpbimechgelfaa
