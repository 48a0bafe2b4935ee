/- The contracts of member's and the reference's functions of one or two members: each answers as the plain function. -/
import Derived.Test.YtecehbodemiijaaProg
import Derived.Test.YtecehbodemiijaaLib
namespace Go.Proofs.Ytecehbodemiijaa
open Go Go.RowKit

structure M where
  inc : Int
  st : Int
deriving DecidableEq, Inhabited
def M.v (m : M) : Value := .agg #[.int .i64 m.inc, .int .i64 m.st]
/-- Both numbers fit int64. -/
def M.fits (m : M) : Prop := -9223372036854775808 ≤ m.inc ∧ m.inc ≤ 9223372036854775807 ∧ -9223372036854775808 ≤ m.st ∧ m.st ≤ 9223372036854775807

/-- What two know of one. -/
def jn (a b : M) : M := if b.inc > a.inc ∨ (b.inc = a.inc ∧ b.st > a.st) then b else a
def may (m : M) : Bool := decide (0 ≤ m.inc ∧ m.inc ≤ 1099511627776 ∧ 0 ≤ m.st ∧ m.st ≤ 2)
def sus (m : M) : M := if m.st = 0 then ⟨m.inc, 1⟩ else m
def bur (m : M) : M := if m.st = 1 then ⟨m.inc, 2⟩ else m
def spk (a b : M) : M := if b.inc < a.inc ∨ b.st = 0 then a else if b.inc ≥ 1099511627776 then ⟨b.inc, 0⟩ else ⟨b.inc + 1, 0⟩

def errIf (b : Bool) : Int := if b then 0 else 1
theorem v_of {m : M} {x y : Int} (h : x = m.inc ∧ y = m.st) : Value.agg #[.int .i64 x, .int .i64 y] = m.v := by rw [h.1, h.2]; rfl


set_option maxHeartbeats 400000 in
theorem join_any (a b : M) (w : World) :
    Calls Try.prog 13 #[a.v, b.v] w fun e w' => e = .returned (jn a b).v ∧ Below w.heap.size w w' := by
  obtain ⟨ai, as'⟩ := a
  obtain ⟨bi, bs⟩ := b
  simp only [M.v]
  
  go_enter Try.func13, Try.ntmps13
  go_wp2
  all_goals
    refine bodyPost_ret (v := (jn ⟨ai, as'⟩ ⟨bi, bs⟩).v) ?_ rfl ⟨rfl, ?_⟩
    · simp [results, Try.results13, go_sem]
      refine v_of ?_
      unfold jn
      (repeat' split) <;> constructor <;> simp_all <;> omega
    · exact (((Below.refl _ _).alloc (Nat.le_refl _) _).alloc (by simp) _).alloc (by simp; omega) _

set_option maxHeartbeats 400000 in
theorem rjoin_any (a b : M) (w : World) :
    Calls Try.prog 14 #[a.v, b.v] w fun e w' => e = .returned (jn a b).v ∧ Below w.heap.size w w' := by
  obtain ⟨ai, as'⟩ := a
  obtain ⟨bi, bs⟩ := b
  simp only [M.v]
  
  go_enter Try.func14, Try.ntmps14
  go_wp2
  all_goals
    refine bodyPost_ret (v := (jn ⟨ai, as'⟩ ⟨bi, bs⟩).v) ?_ rfl ⟨rfl, ?_⟩
    · simp [results, Try.results14, go_sem]
      refine v_of ?_
      unfold jn
      (repeat' split) <;> constructor <;> simp_all <;> omega
    · exact (((Below.refl _ _).alloc (Nat.le_refl _) _).alloc (by simp) _).alloc (by simp; omega) _

set_option maxHeartbeats 400000 in
theorem speak_any (a b : M) (w : World) (hb : b.fits):
    Calls Try.prog 15 #[a.v, b.v] w fun e w' => e = .returned (spk a b).v ∧ Below w.heap.size w w' := by
  obtain ⟨ai, as'⟩ := a
  obtain ⟨bi, bs⟩ := b
  simp only [M.v]
  obtain ⟨hb1, hb2, hb3, hb4⟩ := hb
  simp only at hb1 hb2 hb3 hb4
  go_enter Try.func15, Try.ntmps15
  go_wp2
  all_goals
    refine bodyPost_ret (v := (spk ⟨ai, as'⟩ ⟨bi, bs⟩).v) ?_ rfl ⟨rfl, ?_⟩
    · simp [results, Try.results15, go_sem]
      refine v_of ?_
      unfold spk
      (repeat' split) <;> constructor <;> simp_all <;> omega
    · exact (((Below.refl _ _).alloc (Nat.le_refl _) _).alloc (by simp) _).alloc (by simp; omega) _

set_option maxHeartbeats 400000 in
theorem rspeak_any (a b : M) (w : World) (hb : b.fits):
    Calls Try.prog 16 #[a.v, b.v] w fun e w' => e = .returned (spk a b).v ∧ Below w.heap.size w w' := by
  obtain ⟨ai, as'⟩ := a
  obtain ⟨bi, bs⟩ := b
  simp only [M.v]
  obtain ⟨hb1, hb2, hb3, hb4⟩ := hb
  simp only at hb1 hb2 hb3 hb4
  go_enter Try.func16, Try.ntmps16
  go_wp2
  all_goals
    refine bodyPost_ret (v := (spk ⟨ai, as'⟩ ⟨bi, bs⟩).v) ?_ rfl ⟨rfl, ?_⟩
    · simp [results, Try.results16, go_sem]
      refine v_of ?_
      unfold spk
      (repeat' split) <;> constructor <;> simp_all <;> omega
    · exact (((Below.refl _ _).alloc (Nat.le_refl _) _).alloc (by simp) _).alloc (by simp; omega) _

set_option maxHeartbeats 400000 in
theorem suspect_any (a : M) (w : World) :
    Calls Try.prog 17 #[a.v] w fun e w' => e = .returned (sus a).v ∧ Below w.heap.size w w' := by
  obtain ⟨ai, as'⟩ := a
  simp only [M.v]
  go_enter Try.func17, Try.ntmps17
  go_wp2
  all_goals
    refine bodyPost_ret (v := (sus ⟨ai, as'⟩).v) ?_ rfl ⟨rfl, ?_⟩
    · simp [results, Try.results17, go_sem]
      refine v_of ?_
      unfold sus
      split <;> constructor <;> simp_all
    · exact ((Below.refl _ _).alloc (Nat.le_refl _) _).alloc (by simp) _

set_option maxHeartbeats 400000 in
theorem rsuspect_any (a : M) (w : World) :
    Calls Try.prog 18 #[a.v] w fun e w' => e = .returned (sus a).v ∧ Below w.heap.size w w' := by
  obtain ⟨ai, as'⟩ := a
  simp only [M.v]
  go_enter Try.func18, Try.ntmps18
  go_wp2
  all_goals
    refine bodyPost_ret (v := (sus ⟨ai, as'⟩).v) ?_ rfl ⟨rfl, ?_⟩
    · simp [results, Try.results18, go_sem]
      refine v_of ?_
      unfold sus
      split <;> constructor <;> simp_all
    · exact ((Below.refl _ _).alloc (Nat.le_refl _) _).alloc (by simp) _

set_option maxHeartbeats 400000 in
theorem bury_any (a : M) (w : World) :
    Calls Try.prog 19 #[a.v] w fun e w' => e = .returned (bur a).v ∧ Below w.heap.size w w' := by
  obtain ⟨ai, as'⟩ := a
  simp only [M.v]
  go_enter Try.func19, Try.ntmps19
  go_wp2
  all_goals
    refine bodyPost_ret (v := (bur ⟨ai, as'⟩).v) ?_ rfl ⟨rfl, ?_⟩
    · simp [results, Try.results19, go_sem]
      refine v_of ?_
      unfold bur
      split <;> constructor <;> simp_all
    · exact ((Below.refl _ _).alloc (Nat.le_refl _) _).alloc (by simp) _

set_option maxHeartbeats 400000 in
theorem rbury_any (a : M) (w : World) :
    Calls Try.prog 20 #[a.v] w fun e w' => e = .returned (bur a).v ∧ Below w.heap.size w w' := by
  obtain ⟨ai, as'⟩ := a
  simp only [M.v]
  go_enter Try.func20, Try.ntmps20
  go_wp2
  all_goals
    refine bodyPost_ret (v := (bur ⟨ai, as'⟩).v) ?_ rfl ⟨rfl, ?_⟩
    · simp [results, Try.results20, go_sem]
      refine v_of ?_
      unfold bur
      split <;> constructor <;> simp_all
    · exact ((Below.refl _ _).alloc (Nat.le_refl _) _).alloc (by simp) _

set_option maxHeartbeats 400000 in
theorem check_any (a : M) (w : World) :
    Calls Try.prog 11 #[a.v] w fun e w' => e = .returned (.int .i64 (errIf (may a))) ∧ Below w.heap.size w w' := by
  obtain ⟨ai, as'⟩ := a
  simp only [M.v]
  go_enter Try.func11, Try.ntmps11
  go_wp2
  all_goals
    go_ret
    refine ⟨congrArg (fun x => Ending.returned (.int .i64 x)) ?_, (Below.refl _ _).alloc (Nat.le_refl _) _⟩
    unfold errIf may
    split <;> simp_all <;> omega

set_option maxHeartbeats 400000 in
theorem rcheck_any (a : M) (w : World) :
    Calls Try.prog 12 #[a.v] w fun e w' => e = .returned (.int .i64 (errIf (may a))) ∧ Below w.heap.size w w' := by
  obtain ⟨ai, as'⟩ := a
  simp only [M.v]
  go_enter Try.func12, Try.ntmps12
  go_wp2
  all_goals
    go_ret
    refine ⟨congrArg (fun x => Ending.returned (.int .i64 x)) ?_, (Below.refl _ _).alloc (Nat.le_refl _) _⟩
    unfold errIf may
    split <;> simp_all <;> omega
end Go.Proofs.Ytecehbodemiijaa
