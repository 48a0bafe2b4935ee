/- A chunk of an image: manifest.Build's closure. -/
import Derived.Test.YtmpbimechgelfaaVer
namespace Go.Proofs.Ytmpbimechgelfaa
open Go Go.RowKit

/-- s[l:h] with l ≤ h. -/
theorem slice_lh {t e : TypeId} (ht : Try.prog.underlying t = some (.slice e)) (hz : ∀ w, (sizeOf e).run Try.prog w = .ok 1 w) (A : Option Addr) (m c l h : Nat) (hlh : l ≤ h) (hhm : h ≤ m) (hmc : m ≤ c) :
    ∃ A', (∀ W, (Instr.slice t (.slice A m c) (some (.int .i64 (l : Int))) (some (.int .i64 (h : Int))) none).run Try.prog W = .ok (.slice A' (h - l) (c - l)) W) ∧ (∀ w B f, Rd w B 1 A m f → Rd w B 1 A' (h - l) (fun j => f (l + j))) ∧ (A = none → A' = none) := by
  have ht' : Try.prog.underlying t = some (.slice (Try.prog.elem t)) := by simp [Program.elem, ht]
  have he : Try.prog.elem t = e := by simp [Program.elem, ht]
  refine ⟨if c = l then A else A.map (·.add (l * 1)), fun W => ?_, fun w B f h hp => ?_, fun hA => by subst hA; simp⟩
  · rw [run_slice_lh W t A m c ht' .i64 .i64 _ _ (by omega) (by omega) (by omega), he, hz]
    simp [Result.andThen, sliced]
  · obtain ⟨b, off, rfl, hb, hc⟩ := h (by omega)
    rw [if_neg (by omega)]
    refine ⟨b, off + l, ?_, hb, fun j hj => ?_⟩
    · show some ((⟨b, off, none⟩ : Addr).add (l * 1)) = _
      rw [add_addr, Nat.mul_one]
    · rw [Nat.add_assoc]; exact hc (l + j) (by omega)
/-- s[l:h:h] with l ≤ h. -/
theorem slice_lhh {t e : TypeId} (ht : Try.prog.underlying t = some (.slice e)) (hz : ∀ w, (sizeOf e).run Try.prog w = .ok 1 w) (A : Option Addr) (m c l h : Nat) (hlh : l ≤ h) (hhm : h ≤ m) (hmc : m ≤ c) :
    ∃ A', (∀ W, (Instr.slice t (.slice A m c) (some (.int .i64 (l : Int))) (some (.int .i64 (h : Int))) (some (.int .i64 (h : Int)))).run Try.prog W = .ok (.slice A' (h - l) (h - l)) W) ∧ (∀ w B f, Rd w B 1 A m f → Rd w B 1 A' (h - l) (fun j => f (l + j))) ∧ (A = none → A' = none) := by
  have ht' : Try.prog.underlying t = some (.slice (Try.prog.elem t)) := by simp [Program.elem, ht]
  have he : Try.prog.elem t = e := by simp [Program.elem, ht]
  refine ⟨if h = l then A else A.map (·.add (l * 1)), fun W => ?_, fun w B f h hp => ?_, fun hA => by subst hA; simp⟩
  · rw [run_slice_lhm W t A m c ht' .i64 .i64 .i64 _ _ _ (by omega) (by omega) (by omega) (by omega), he, hz]
    simp [Result.andThen, sliced]
  · obtain ⟨b, off, rfl, hb, hc⟩ := h (by omega)
    rw [if_neg (by omega)]
    refine ⟨b, off + l, ?_, hb, fun j hj => ?_⟩
    · show some ((⟨b, off, none⟩ : Addr).add (l * 1)) = _
      rw [add_addr, Nat.mul_one]
    · rw [Nat.add_assoc]; exact hc (l + j) (by omega)
/-- The bytes from l up to h. -/
def cutL (l : List Nat) (x y : Nat) : List Nat := (l.drop x).take (y - x)
theorem cutL_len {l : List Nat} {x y : Nat} (hy : y ≤ l.length) : (cutL l x y).length = y - x := by
  unfold cutL; rw [List.length_take, List.length_drop]; omega
theorem cutL_byt {l : List Nat} (h : Byt l) (x y : Nat) : Byt (cutL l x y) := (h.drop x).take (y - x)
theorem cut_bs {w : World} {B : Nat} {A' : Option Addr} {l : List Nat} {x y : Nat} (hy : y ≤ l.length) (h : Rd w B 1 A' (y - x) (fun j => bf l (x + j))) : Bs w B A' (cutL l x y) := by
  unfold Bs
  rw [cutL_len hy]
  exact h.congr fun j hj => by unfold cutL; rw [bf_take _ _ _ (by omega), bf_drop]
/-- Chunk i of an image, in chunks of k bytes. -/
def chunkL (l : List Nat) (k i : Nat) : List Nat := cutL l (i * k) (min ((i + 1) * k) l.length)
/-- How the closure answers. -/
def NextEnd (l : List Nat) (k i : Nat) (w : World) (e : Ending) (w' : World) : Prop :=
  ∃ A' c', e = .returned (.slice A' (chunkL l k i).length c') ∧ Bs w w.heap.size A' (chunkL l k i) ∧ Below w.heap.size w w'
set_option maxHeartbeats 4000000 in
theorem next_any (A : Option Addr) (c : Nat) (l : List Nat) (k i n : Nat) (g2 g3 : Nat) (w : World) (h2 : w.cell? ⟨g2, 0, none⟩ = some (.slice A l.length c)) (h3 : w.cell? ⟨g3, 0, none⟩ = some (.int .i64 (k : Int)))
    (h : Bs w w.heap.size A l) (hc : l.length ≤ c) (hn : chkB (l.length : Int) (k : Int) n = true) (hi : i < n) :
    Calls Try.prog 45 #[.int .i64 (i : Int), .pointer (some ⟨g2, 0, none⟩), .pointer (some ⟨g3, 0, none⟩)] w (NextEnd l k i w) := by
  obtain ⟨hs1, hs2, hk1, hk2, hn1, hn2, hn3⟩ := chk_facts hn
  obtain ⟨m, hm⟩ : ∃ m, m = l.length := ⟨_, rfl⟩
  rw [← hm] at hs1 hs2 hn3 h2 hc
  have HM := Lib.hid hm
  have HBS := Lib.hid h
  have hik : i * k ≤ m := by
    have h1 : ((i * k : Nat) : Int) ≤ ((n : Int) - 1) * (k : Int) := by
      rw [Int.natCast_mul]; exact Int.mul_le_mul_of_nonneg_right (by omega) (by omega)
    have h2 : (n : Int) * (k : Int) ≤ (m : Int) + k - 1 := by rw [hn3]; exact Int.ediv_mul_le _ (by omega)
    have h3 : ((n : Int) - 1) * (k : Int) = (n : Int) * k - k := by rw [Int.sub_mul, Int.one_mul]
    omega
  have hI1 : ((i * k : Nat) : Int) = (i : Int) * (k : Int) := Int.natCast_mul _ _
  have hI2 : (((i + 1) * k : Nat) : Int) = ((i : Int) + 1) * (k : Int) := by push_cast; rfl
  have hI3 : (i + 1) * k = i * k + k := by rw [Nat.add_mul, Nat.one_mul]
  obtain ⟨x, hx⟩ : ∃ x, x = i * k := ⟨_, rfl⟩
  obtain ⟨y, hy⟩ : ∃ y, y = min ((i + 1) * k) m := ⟨_, rfl⟩
  have hxy : x ≤ y := by rw [hx, hy, hI3]; omega
  have hym : y ≤ m := by rw [hy]; omega
  obtain ⟨A', hsl, hrd, -⟩ := slice_lh Try.underlying31 size_5 A m c x y hxy hym hc
  have HRD := Lib.hid hrd
  have HX := Lib.hid hx
  have HY := Lib.hid hy
  have e1 : (i : Int) * (k : Int) = (x : Int) := by rw [hx, hI1]
  have e2 : min (((i : Int) + 1) * (k : Int)) (m : Int) = (y : Int) := by rw [hy, ← hI2]; omega
  have hb1 : 0 ≤ (i : Int) * (k : Int) ∧ (i : Int) * (k : Int) ≤ 300000 := by rw [e1]; omega
  have hb2 : 0 ≤ ((i : Int) + 1) * (k : Int) ∧ ((i : Int) + 1) * (k : Int) ≤ 300000 := by rw [← hI2, hI3]; omega
  obtain ⟨hb3, hb4⟩ := hb1
  obtain ⟨hb5, hb6⟩ := hb2
  have HE1 := Lib.hid e1
  have HE2 := Lib.hid e2
  rw [← e1, ← e2] at hsl
  obtain ⟨z, hz⟩ : ∃ z, z = Value.slice A' (y - x) (c - x) := ⟨_, rfl⟩
  rw [← hz] at hsl
  have HZ := Lib.hid hz
  clear hz
  clear hm h hik hI1 hI2 hI3 hx hy hrd hn3 hn e1 e2
  go_enter Try.func45, Try.ntmps45
  go_wp2_with fail
  have hce : chunkL l k i = cutL l x y := by unfold chunkL; rw [← HX.out, ← HM.out, ← HY.out]
  have hcl : (chunkL l k i).length = y - x := by rw [hce]; exact cutL_len (by rw [← HM.out]; exact hym)
  have hbs : Bs w w.heap.size A' (chunkL l k i) := by
    rw [hce]
    refine cut_bs (by rw [← HM.out]; exact hym) ?_
    have h := HBS.out
    unfold Bs at h
    rw [← HM.out] at h
    exact HRD.out _ _ _ h
  have HF := Lib.hid (show NextEnd l k i w (.returned z) w from ⟨A', c - x, by rw [HZ.out, hcl], hbs, Below.refl _ _⟩)
  clear hce hcl hbs hsl HZ
  go_ret
  exact HF.out
end Go.Proofs.Ytmpbimechgelfaa
