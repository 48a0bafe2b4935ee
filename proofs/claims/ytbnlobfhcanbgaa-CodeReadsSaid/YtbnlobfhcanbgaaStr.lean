/- Bytes as strings. -/
import Derived.Test.YtbnlobfhcanbgaaRead
import Derived.Laws.BytesArg
namespace Go.Proofs.Ytbnlobfhcanbgaa
open Go Go.RowKit

/-- The string of a list of bytes. -/
def str (l : List Nat) : ByteArray := strOfNums (l.map fun x : Nat => (x : Int))
theorem str_data (l : List Nat) : (str l).data.toList = l.map UInt8.ofNat := by
  unfold str; rw [strOfNums_data, List.map_map]; rfl
theorem str_size (l : List Nat) : (str l).size = l.length := by unfold str; rw [strOfNums_size, List.length_map]
theorem str_inj {l m : List Nat} (hl : Byt l) (hm : Byt m) (h : str l = str m) : l = m := by
  have h2 : l.map UInt8.ofNat = m.map UInt8.ofNat := by rw [← str_data, ← str_data, h]
  have h3 : ∀ l : List Nat, Byt l → (l.map UInt8.ofNat).map UInt8.toNat = l := by
    intro l hl
    rw [List.map_map]
    exact (List.map_congr_left fun x hx => by simp [Nat.mod_eq_of_lt (hl x hx)]).trans (List.map_id l)
  rw [← h3 l hl, ← h3 m hm, h2]
theorem str_eq {l m : List Nat} (hl : Byt l) (hm : Byt m) : (str l = str m) ↔ l = m := ⟨str_inj hl hm, fun h => by rw [h]⟩
theorem str_conv {w : World} {B : Nat} {A : Option Addr} {l : List Nat} (c : Nat) (h : Bs w B A l) : (convert 25 9 (.slice A l.length c)).run Try.prog w = .ok (.string (str l)) w := by
  cases A with
  | none =>
    have hl : l = [] := by
      cases l with
      | nil => rfl
      | cons x l => obtain ⟨b, off, h, -⟩ := h (by simp); cases h
    subst hl
    exact run_convert_bytes_nil w 25 5 Try.underlying25 Try.underlying5 _ _ 9 Try.underlying9
  | some a =>
    by_cases hn : l.length = 0
    · obtain rfl := List.eq_nil_of_length_eq_zero hn
      rw [run_convert_bytes_string w 25 9 5 (some a) _ c Try.underlying25 Try.underlying5 Try.underlying9]
      rw [List.length_nil, run_bytesToString w a 0 c [] (by rfl)]
      rfl
    · obtain ⟨b, off, ha, -, hc⟩ := h (by omega)
      cases ha
      refine run_convert_bytes_arg w 25 5 Try.underlying25 Try.underlying5 b off l.length c (l.map fun x : Nat => (x : Int)) (by simp) (fun i hi => ?_) 9 Try.underlying9
      rw [hc i (by omega)]
      unfold bf
      simp [List.getElem?_eq_getElem hi]
theorem str_convN {w : World} {B : Nat} {A : Option Addr} {l : List Nat} (n c : Nat) (h : Bs w B A l) (hn : n = l.length) : (convert 25 9 (.slice A n c)).run Try.prog w = .ok (.string (str l)) w := by
  rw [hn]; exact str_conv c h
theorem Bs.new {w : World} {e : TypeId} {cs : Array Value} {l : List Nat} (hcs : cs = (l.map fun x : Nat => Value.int .u8 (x : Int)).toArray) : Bs (w.alloc (.cells cs e)) (w.heap.size + 1) (some ⟨w.heap.size, 0, none⟩) l :=
  Rd.new fun j hj => by
    have hj2 : j < l.length := by omega
    rw [hcs, List.getElem?_toArray, List.getElem?_map, List.getElem?_eq_getElem hj2]
    unfold bf
    rw [List.getElem?_eq_getElem hj2]
    rfl
/-- The beginning of bytes. -/
theorem Bs.take {w : World} {B : Nat} {A : Option Addr} {l : List Nat} (h : Bs w B A l) (k : Nat) : Bs w B A (l.take k) := by
  unfold Bs
  have h1 : (l.take k).length ≤ l.length := by rw [List.length_take]; omega
  refine (Rd.take h h1).congr fun j hj => ?_
  rw [List.length_take] at hj
  exact (bf_take l k j (by omega)).symm
theorem below_step {w w' : World} {o : Obj} (hb : Below (w.alloc o).heap.size (w.alloc o) w') : Below w.heap.size w w' := ((Below.refl _ _).alloc (Nat.le_refl _) o).trans (hb.mono (by simp))
theorem below_step2 {w w' : World} {o o2 : Obj} (hb : Below ((w.alloc o).alloc o2).heap.size ((w.alloc o).alloc o2) w') : Below w.heap.size w w' := below_step (below_step hb)
end Go.Proofs.Ytbnlobfhcanbgaa
