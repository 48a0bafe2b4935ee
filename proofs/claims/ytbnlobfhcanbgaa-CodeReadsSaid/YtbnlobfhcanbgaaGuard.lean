/- guard's contract. -/
import Derived.Test.YtbnlobfhcanbgaaNumber
import Derived.Defers
import Derived.Recover
import Derived.Laws.Pointers
namespace Go.Proofs.Ytbnlobfhcanbgaa
open Go Go.RowKit

/-- The world when what a reader gave up by is kept. -/
def kept (p : Nat) (w : World) : World := (w.setCell ⟨p, 0, none⟩ (.slice none 0 0)).setCell ⟨p, 1, none⟩ (.bool true)

set_option maxHeartbeats 1000000 in
theorem catch_panicking (q : Addr) (p : Nat) (v : Value) (w : World) (hq : w.cell? q = some (.pointer (some ⟨p, 0, none⟩))) (hb : w.heap[p]? = some (.cells #[v, .bool false] 67 (0, 0))) :
    CallsD Try.prog 42 #[.pointer (some q)] (.panicking lostChain) w fun e u' w' =>
      e = .returned (.tuple #[]) ∧ u' = .panicking [{ v := .iface 32 (.int .i64 20), recovered := true }] ∧ w' = kept p w := by
  obtain ⟨hc0, hc1, hf0, hf1⟩ := cell2 hb
  have hb2 := (set2 (u := .slice none 0 0) hb).1
  obtain ⟨hd0, hd1, hg0, hg1⟩ := cell2 hb2
  refine callsD_of_wpS Try.func42 rfl fun c₀ cs hu => ?_
  apply wpS_seq
  apply wpS_region
  simp [wpOpsS, go_sem, recoverD, hu, Try.ntmps42, Exit.thenS, lostChain]
  refine wpS_cond (t := true) (by simp [Act.eval, Array.replicate]) ?_
  simp only [if_true]
  refine wpS_of_wp ?_
  go_wp2
  simp [bodyPostS, results, Try.results42, kept]
theorem catch_idle (q : Addr) (w : World) :
    CallsD Try.prog 42 #[.pointer (some q)] .returning w fun e u' w' => e = .returned (.tuple #[]) ∧ u' = .returning ∧ w' = w := by
  refine callsD_of_wpS Try.func42 rfl fun c₀ cs hu => ?_
  apply wpS_seq
  apply wpS_region
  simp [wpOpsS, go_sem, recoverD, hu, Try.ntmps42, Exit.thenS]
  refine wpS_cond (t := false) (by simp [Act.eval, Array.replicate]) ?_
  simp only [Bool.false_eq_true, if_false]
  refine wpS_of_wp (wp_skip ?_)
  cases c₀
  simp_all [bodyPostS, results, Try.results42]

/-- How a closure under guard ends. -/
def GEnd (p : Nat) (Q : World → Prop) (w : World) (e : Ending) (w' : World) : Prop :=
  (e = .returned (.tuple #[]) ∧ Q w') ∨ (e = .panicked lostChain ∧ Left w p w' ∧ Q (kept p w'))

theorem guard_nil (k : Nat) (caps : Array Value) (w : World) :
    Calls Try.prog 33 #[.pointer none, .func (.func k) #[] caps] w fun e w' => e = .returned (.tuple #[]) ∧ w' = w.alloc (.cells #[.pointer none] 41) := by
  have hmf : ∀ (fn : Fn) (first cap : Array Value) (w : World), (Instr.makeFunc fn first cap).run Try.prog w = .ok (.func fn first cap) w := fun _ _ _ _ => rfl
  go_enter_defers Try.func33, Try.ntmps33
  go_wp2
  simp [bodyPostD, Leaves, results, Try.results33, go_sem]
theorem guard_lost (p : Nat) (v : Value) (k : Nat) (caps : Array Value) (w : World) (hb : w.heap[p]? = some (.cells #[v, .bool true] 67 (0, 0))) :
    Calls Try.prog 33 #[.pointer (some ⟨p, 0, none⟩), .func (.func k) #[] caps] w fun e w' => e = .returned (.tuple #[]) ∧ w' = w.alloc (.cells #[.pointer (some ⟨p, 0, none⟩)] 41) := by
  have hmf : ∀ (fn : Fn) (first cap : Array Value) (w : World), (Instr.makeFunc fn first cap).run Try.prog w = .ok (.func fn first cap) w := fun _ _ _ _ => rfl
  have hlt := lt_of_block hb
  obtain ⟨hc0, hc1, hf0, hf1⟩ := cell2 hb
  go_enter_defers Try.func33, Try.ntmps33
  go_wp2
  simp [bodyPostD, Leaves, results, Try.results33, go_sem]
theorem guard_live (p : Nat) (v : Value) (k : Nat) (caps : Array Value) (w : World) (Q : World → Prop) (hin : ∀ w, (callFunc k caps).run Try.prog w = .ok (.enter k caps) w) (hb : w.heap[p]? = some (.cells #[v, .bool false] 67 (0, 0)))
    (hk : Calls Try.prog k caps (w.alloc (.cells #[.pointer (some ⟨p, 0, none⟩)] 41)) (GEnd p Q (w.alloc (.cells #[.pointer (some ⟨p, 0, none⟩)] 41)))) :
    Calls Try.prog 33 #[.pointer (some ⟨p, 0, none⟩), .func (.func k) #[] caps] w fun e w' => e = .returned (.tuple #[]) ∧ Q w' := by
  have hmf : ∀ (fn : Fn) (first cap : Array Value) (w : World), (Instr.makeFunc fn first cap).run Try.prog w = .ok (.func fn first cap) w := fun _ _ _ _ => rfl
  have hlt := lt_of_block hb
  obtain ⟨hc0, hc1, hf0, hf1⟩ := cell2 hb
  go_enter_defers Try.func33, Try.ntmps33
  go_wp2_with fail
  refine hk.mono ?_
  rintro e w' (⟨rfl, hq⟩ | ⟨rfl, hl, hq⟩)
  · go_wp2
    refine leaves_cons (f := 42) (args := #[.pointer (some ⟨w.heap.size, 0, none⟩)]) (by simp) (by simp [go_sem]) ?_
    refine (catch_idle ⟨w.heap.size, 0, none⟩ _).mono ?_
    rintro e u' w'' ⟨rfl, rfl, rfl⟩
    simp [Leaves, settle, results, Try.results33, go_sem, hq]
  · obtain ⟨hg, v', hv'⟩ := hl
    have hcell : w'.cell? ⟨w.heap.size, 0, none⟩ = some (.pointer (some ⟨p, 0, none⟩)) := by
      refine (World.cell?_of_block (hg.block w.heap.size (by simp) (fun e => by injection e with e; omega))).trans ?_
      simp [go_sem]
    go_wp2
    refine leaves_cons (f := 42) (args := #[.pointer (some ⟨w.heap.size, 0, none⟩)]) (by simp) (by simp [go_sem]) ?_
    refine (catch_panicking ⟨w.heap.size, 0, none⟩ p v' _ hcell hv').mono ?_
    rintro e u' w'' ⟨rfl, rfl, rfl⟩
    simp [Leaves, settle, results, Try.results33, go_sem, hq]
theorem enter38 (caps : Array Value) (w : World) : (callFunc 38 caps).run Try.prog w = .ok (.enter 38 caps) w := by simp [callFunc, go_sem, Try.func38, Try.f38]
theorem enter40 (caps : Array Value) (w : World) : (callFunc 40 caps).run Try.prog w = .ok (.enter 40 caps) w := by simp [callFunc, go_sem, Try.func40, Try.f40]
theorem enter34 (caps : Array Value) (w : World) : (callFunc 34 caps).run Try.prog w = .ok (.enter 34 caps) w := by simp [callFunc, go_sem, Try.func34, Try.f34]
theorem enter41 (caps : Array Value) (w : World) : (callFunc 41 caps).run Try.prog w = .ok (.enter 41 caps) w := by simp [callFunc, go_sem, Try.func41, Try.f41]
end Go.Proofs.Ytbnlobfhcanbgaa
