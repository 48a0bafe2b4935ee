/- A reader in memory; must and take. -/
import Derived.Test.YtbnlobfhcanbgaaWHash
namespace Go.Proofs.Ytbnlobfhcanbgaa
open Go Go.RowKit

/-- The error by which a reader gives up. -/
def lostChain : List PanicEntry := [{ v := .iface 32 (.int .i64 20), recovered := false }]
theorem must_yes (w : World) : Calls Try.prog 39 #[.bool true] w fun e w' => e = .returned (.tuple #[]) ∧ w = w' := by
  go_enter Try.func39, Try.ntmps39
  go_wp2
  go_end0
  exact ⟨rfl, rfl⟩
theorem must_no (w : World) : Calls Try.prog 39 #[.bool false] w fun e w' => e = .panicked lostChain ∧ w = w' := by
  go_enter Try.func39, Try.ntmps39
  go_wp2
  exact ⟨rfl, rfl, rfl⟩

/-- The reader at block p has the bytes l left, at A; they lie below it. -/
structure Rr (w : World) (p : Nat) (A : Option Addr) (c : Nat) (l : List Nat) (lost : Bool) : Prop where
  blk : w.heap[p]? = some (.cells #[.slice A l.length c, .bool lost] 67 (0, 0))
  bytes : Bs w p A l
  cap : l.length ≤ c ∧ c ≤ maxLen
  none_ : A = none → l.length = 0 ∧ c = 0
  byt : Byt l
section
variable {w w' : World} {p c : Nat} {A : Option Addr} {l : List Nat} {lost : Bool}
theorem cell2 {v0 v1 : Value} {t : Nat} (h : w.heap[p]? = some (.cells #[v0, v1] t (0, 0))) : w.cell? ⟨p, 0, none⟩ = some v0 ∧ w.cell? ⟨p, 1, none⟩ = some v1 ∧ w.frozen? ⟨p, 0, none⟩ = false ∧ w.frozen? ⟨p, 1, none⟩ = false := by
  simp [World.cell?, World.frozen?, h]
theorem set2 {v0 v1 u : Value} {t : Nat} (h : w.heap[p]? = some (.cells #[v0, v1] t (0, 0))) : (w.setCell ⟨p, 0, none⟩ u).heap[p]? = some (.cells #[u, v1] t (0, 0)) ∧ (w.setCell ⟨p, 1, none⟩ u).heap[p]? = some (.cells #[v0, u] t (0, 0)) := by
  simp [World.setCell, Array.getElem?_modify, h]
theorem Rr.lt (h : Rr w p A c l lost) : p < w.heap.size := lt_of_block h.blk
theorem Rr.below (h : Rr w p A c l lost) (hb : Below w.heap.size w w') : Rr w' p A c l lost := ⟨(hb.block p h.lt).trans h.blk, h.bytes.below (hb.mono (Nat.le_of_lt h.lt)), h.cap, h.none_, h.byt⟩
theorem Rr.alloc (h : Rr w p A c l lost) (o : Obj) : Rr (w.alloc o) p A c l lost := h.below ((Below.refl _ _).alloc (Nat.le_refl _) o)
end
theorem only_set (w : World) (p o : Nat) (u : Value) : w.grownBy (w.setCell ⟨p, o, none⟩ u) (some p) :=
  ⟨rfl, rfl, rfl, by simp, fun k _ hk => heap_setCell_other w ⟨p, o, none⟩ k u (fun e => hk (by rw [e]))⟩
theorem only_trans {a b c : World} {r : Option Nat} (h : a.grownBy b r) (k : b.grownBy c r) : a.grownBy c r :=
  ⟨k.os.trans h.os, k.tape.trans h.tape, k.output.trans h.output, Nat.le_trans h.size k.size, fun i hi hne => (k.block i (Nat.lt_of_lt_of_le hi h.size) hne).trans (h.block i hi hne)⟩
theorem only_below {a b : World} (h : Below a.heap.size a b) (r : Option Nat) : a.grownBy b r := ⟨h.os, h.tape, h.output, h.size, fun i hi _ => h.block i hi⟩
theorem only_bs {w w' : World} {p : Nat} {A : Option Addr} {l : List Nat} (h : Bs w p A l) (hp : p ≤ w.heap.size) (hg : w.grownBy w' (some p)) : Bs w' p A l :=
  Rd.keep h fun b off hb => World.cell?_of_block (hg.block b (by omega) (fun e => by injection e with e; omega))

theorem take_rr {w : World} {p c n : Nat} {A A' : Option Addr} {l : List Nat} (h : Rr w p A c l false) (hn : n ≤ l.length) (hA : (c = n ∧ A' = A) ∨ A' = A.map (·.add n)) :
    Rr (w.setCell ⟨p, 0, none⟩ (.slice A' (l.length - n) (c - n))) p A' (c - n) (l.drop n) false := by
  refine ⟨?_, ?_, ?_, ?_, h.byt.drop n⟩
  · rw [List.length_drop]; exact (set2 h.blk).1
  · intro h0
    rw [List.length_drop] at h0
    obtain ⟨b, off, rfl, hb, hcell⟩ := h.bytes (by omega)
    have hc := h.cap.1
    have hA' : A' = some ⟨b, off + n, none⟩ := by
      rcases hA with ⟨h1, _⟩ | h1
      · omega
      · rw [h1, Option.map_some, add_addr]
    refine ⟨b, off + n, hA', hb, fun j hj => ?_⟩
    rw [List.length_drop] at hj
    rw [World.cell?_setCell_other _ _ _ _ (fun e => by injection e with e; omega), Nat.add_assoc, hcell (n + j) (by omega), bf_drop]
  · rw [List.length_drop]; have := h.cap; omega
  · intro hn'
    rw [List.length_drop]
    have : A = none := by
      rcases hA with ⟨_, h1⟩ | h1
      · rw [← h1]; exact hn'
      · rw [hn'] at h1; cases A with
        | none => rfl
        | some a => simp at h1
    have := h.none_ this
    omega
theorem take_bs {w : World} {p c n : Nat} {A : Option Addr} {l : List Nat} (h : Rr w p A c l false) (hn : n ≤ l.length) (u : Value) : Bs (w.setCell ⟨p, 0, none⟩ u) p A (l.take n) := by
  refine only_bs ?_ (Nat.le_of_lt h.lt) (only_set w p 0 u)
  intro h0
  have hlen : (l.take n).length = n := by simp; omega
  rw [hlen] at h0
  obtain ⟨b, off, hA, hb, hcell⟩ := h.bytes (by omega)
  refine ⟨b, off, hA, hb, fun j hj => ?_⟩
  rw [hlen] at hj
  rw [hcell j (by omega), bf_take _ _ _ (by omega)]

/-- n bytes are taken. -/
def TakeEnd (p c n : Nat) (l : List Nat) (A : Option Addr) (w : World) (e : Ending) (w' : World) : Prop :=
  e = .returned (.slice A n c) ∧ Bs w' p A (l.take n) ∧ w.grownBy w' (some p) ∧ ∃ A' c', Rr w' p A' c' (l.drop n) false

set_option maxHeartbeats 1000000 in
theorem take_yes (p c : Nat) (A : Option Addr) (l : List Nat) (n : Nat) (w : World) (hR : Rr w p A c l false) (hn : n ≤ l.length) (_hl : l.length ≤ 1000000) :
    Calls Try.prog 36 #[.pointer (some ⟨p, 0, none⟩), .int .i64 n] w (TakeEnd p c n l A w) := by
  obtain ⟨hc0, hc1, hf0, hf1⟩ := cell2 hR.blk
  have hcap := hR.cap.1
  have hcm := hR.cap.2
  unfold maxLen at hcm
  go_enter Try.func36, Try.ntmps36
  go_wp2_with (go_at_call 39; refine (must_yes _).mono ?_; rintro e w' ⟨rfl, rfl⟩)
  · have hcn : c = n := by assumption
    go_ret
    have hT := take_rr hR hn (.inl ⟨hcn, rfl⟩)
    rw [show c - n = 0 from by omega] at hT
    exact ⟨rfl, take_bs hR hn _, only_set w p 0 _, _, _, hT⟩
  · go_ret
    exact ⟨rfl, take_bs hR hn _, only_set w p 0 _, _, _, take_rr hR hn (.inr rfl)⟩
theorem take_no (p c : Nat) (A : Option Addr) (l : List Nat) (n : Int) (w : World) (h : Rr w p A c l false) (hn : n < 0 ∨ (l.length : Int) < n) (_hl : l.length ≤ 1000000) :
    Calls Try.prog 36 #[.pointer (some ⟨p, 0, none⟩), .int .i64 n] w fun e w' => e = .panicked lostChain ∧ w = w' := by
  obtain ⟨hc0, hc1, hf0, hf1⟩ := cell2 h.blk
  rcases hn with hn | hn
  · go_enter Try.func36, Try.ntmps36
    go_wp2_with (go_at_call 39; refine (must_no _).mono ?_; rintro e w' ⟨rfl, rfl⟩)
    exact ⟨rfl, rfl, rfl⟩
  · by_cases h0 : n < 0
    · omega
    · have hd : decide (n ≤ (l.length : Int)) = false := by simp; omega
      go_enter Try.func36, Try.ntmps36
      go_wp2_with (go_at_call 39; refine (must_no _).mono ?_; rintro e w' ⟨rfl, rfl⟩)
      exact ⟨rfl, rfl, rfl⟩
end Go.Proofs.Ytbnlobfhcanbgaa
