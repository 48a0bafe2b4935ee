/- Digests as values; constants of the digest; plain laws of what is digested. -/
import Derived.Test.YtmpbimechgelfaaBlock
import Derived.DeepKeys
namespace Go.Proofs.Ytmpbimechgelfaa
open Go Go.RowKit

/-- The 32 cells of a hash. -/
def hc (h : Nat → Nat) : Array Value := ((List.range 32).map fun j => Value.int .u8 ((h j : Nat) : Int)).toArray
theorem hc_size (h : Nat → Nat) : (hc h).size = 32 := by simp [hc]
def hl (h : Nat → Nat) : List Nat := (List.range 32).map h
theorem hl_len (h : Nat → Nat) : (hl h).length = 32 := by simp [hl]
theorem hc_at (h : Nat → Nat) (j : Nat) (hj : j < 32 * 1) : (hc h)[j]? = some (bf (hl h) j) := by
  have hj' : j < 32 := by omega
  simp [hc, bf, hl, hj']
theorem hc_get (h : Nat → Nat) {j : Nat} (hj : j < 32) : (hc h)[j]? = some (.int .u8 ((h j : Nat) : Int)) := by simp [hc, hj]
theorem hc_one (h : Nat → Nat) : ∀ v ∈ (hc h).toList, v.oneCell' = true := by
  intro v hv
  simp [hc] at hv
  obtain ⟨j, _, rfl⟩ := hv
  rfl
theorem hc_all (h : Nat → Nat) : (hc h).all (·.oneCell') = true := Array.all_eq_true_iff_forall_mem.2 fun v hv => hc_one h v (by simpa using hv)
theorem size_hc {h : Nat → Nat} : (Try.prog.info? 33).map (·.size) = some (hc h).size := by rw [hc_size]; kernel_rfl
theorem size_u8 : (Try.prog.info? 5).map (·.size) = some 1 := by kernel_rfl
theorem size_w64 {f : Nat → Nat} : (Try.prog.info? 76).map (·.size) = some (wc 64 f).toArray.size := by rw [List.size_toArray, wc_len]; kernel_rfl
theorem hc_congr {h h' : Nat → Nat} (e : ∀ j, j < 32 → h j = h' j) : hc h = hc h' := by
  unfold hc; rw [List.map_congr_left fun j hj => by rw [e j (by simpa using hj)]]
theorem hl_congr {h h' : Nat → Nat} (e : ∀ j, j < 32 → h j = h' j) : hl h = hl h' := List.map_congr_left fun j hj => e j (by simpa using hj)
theorem hc_inj {h h' : Nat → Nat} (e : hc h = hc h') : ∀ j, j < 32 → h j = h' j := fun j hj => by
  have h1 := hc_get h hj
  rw [e, hc_get h' hj] at h1
  simp at h1
  omega
theorem hl_byt {h : Nat → Nat} (e : ∀ j, h j < 256) : Byt (hl h) := by
  intro x hx
  obtain ⟨j, -, rfl⟩ := List.mem_map.1 hx
  exact e j

/-- The digest's constants. -/
def KL : List Nat := [1116352408, 1899447441, 3049323471, 3921009573, 961987163, 1508970993, 2453635748, 2870763221, 3624381080, 310598401, 607225278, 1426881987, 1925078388, 2162078206, 2614888103, 3248222580, 3835390401, 4022224774, 264347078, 604807628, 770255983, 1249150122, 1555081692, 1996064986, 2554220882, 2821834349, 2952996808, 3210313671, 3336571891, 3584528711, 113926993, 338241895, 666307205, 773529912, 1294757372, 1396182291, 1695183700, 1986661051, 2177026350, 2456956037, 2730485921, 2820302411, 3259730800, 3345764771, 3516065817, 3600352804, 4094571909, 275423344, 430227734, 506948616, 659060556, 883997877, 958139571, 1322822218, 1537002063, 1747873779, 1955562222, 2024104815, 2227730452, 2361852424, 2428436474, 2756734187, 3204031479, 3329325298]
def SL : List Nat := [1779033703, 3144134277, 1013904242, 2773480762, 1359893119, 2600822924, 528734635, 1541459225]
def KC (j : Nat) : Nat := KL[j]?.getD 0
def SC (j : Nat) : Nat := SL[j]?.getD 0
theorem wc_SC : (wc 8 SC).toArray = #[.int .u32 1779033703, .int .u32 3144134277, .int .u32 1013904242, .int .u32 2773480762, .int .u32 1359893119, .int .u32 2600822924, .int .u32 528734635, .int .u32 1541459225] := by rfl
theorem SC_ok : (stOf SC).ok := by unfold St.ok; decide
set_option maxRecDepth 100000 in
theorem wc_KC : (wc 64 KC).toArray = #[.int .u32 1116352408, .int .u32 1899447441, .int .u32 3049323471, .int .u32 3921009573, .int .u32 961987163, .int .u32 1508970993, .int .u32 2453635748, .int .u32 2870763221, .int .u32 3624381080, .int .u32 310598401, .int .u32 607225278, .int .u32 1426881987, .int .u32 1925078388, .int .u32 2162078206, .int .u32 2614888103, .int .u32 3248222580, .int .u32 3835390401, .int .u32 4022224774, .int .u32 264347078, .int .u32 604807628, .int .u32 770255983, .int .u32 1249150122, .int .u32 1555081692, .int .u32 1996064986, .int .u32 2554220882, .int .u32 2821834349, .int .u32 2952996808, .int .u32 3210313671, .int .u32 3336571891, .int .u32 3584528711, .int .u32 113926993, .int .u32 338241895, .int .u32 666307205, .int .u32 773529912, .int .u32 1294757372, .int .u32 1396182291, .int .u32 1695183700, .int .u32 1986661051, .int .u32 2177026350, .int .u32 2456956037, .int .u32 2730485921, .int .u32 2820302411, .int .u32 3259730800, .int .u32 3345764771, .int .u32 3516065817, .int .u32 3600352804, .int .u32 4094571909, .int .u32 275423344, .int .u32 430227734, .int .u32 506948616, .int .u32 659060556, .int .u32 883997877, .int .u32 958139571, .int .u32 1322822218, .int .u32 1537002063, .int .u32 1747873779, .int .u32 1955562222, .int .u32 2024104815, .int .u32 2227730452, .int .u32 2361852424, .int .u32 2428436474, .int .u32 2756734187, .int .u32 3204031479, .int .u32 3329325298] := by rfl
/-- Zeros behind a text of n bytes and one more. -/
def zn (n : Nat) : Nat := (119 - n % 64) % 64
/-- A length in bits, as eight bytes. -/
def ln8 (n : Nat) : List Nat := (List.range 8).map fun i => n * 8 / 2 ^ (56 - 8 * i) % 256
/-- A text and what is laid behind it. -/
def padl (l : List Nat) : List Nat := l ++ (128 :: List.replicate (zn l.length) 0) ++ ln8 l.length
/-- The state behind n blocks. -/
def rblk (K : Nat → Nat) : Nat → (Nat → Nat) → List Nat → (Nat → Nat)
  | 0, s, _ => s
  | n + 1, s, b => rblk K n (blk K s b) (b.drop 64)
/-- The bytes of a state. -/
def outH (s : Nat → Nat) (i : Nat) : Nat := s (i / 4) / 2 ^ (24 - 8 * (i % 4)) % 256
/-- The digest of a text. -/
def sumH (l : List Nat) : Nat → Nat := outH (rblk KC ((padl l).length / 64) SC (padl l))
theorem ln8_len (n : Nat) : (ln8 n).length = 8 := by simp [ln8]
theorem zn_lt (n : Nat) : zn n < 64 := Nat.mod_lt _ (by omega)
theorem zn_mod (n : Nat) : (n + 1 + zn n) % 64 = 56 := by unfold zn; omega
theorem padl_len (l : List Nat) : (padl l).length = l.length + 1 + zn l.length + 8 := by simp [padl, ln8_len]; omega
theorem padl_mod (l : List Nat) : (padl l).length = 64 * ((padl l).length / 64) := by have := zn_mod l.length; rw [padl_len]; omega
theorem outH_lt (s : Nat → Nat) (i : Nat) : outH s i < 256 := Nat.mod_lt _ (by omega)
theorem sumH_lt (l : List Nat) (i : Nat) : sumH l i < 256 := outH_lt _ i
theorem ln8_byt (n : Nat) : Byt (ln8 n) := by
  intro x hx
  obtain ⟨j, -, rfl⟩ := List.mem_map.1 hx
  exact Nat.mod_lt _ (by omega)
theorem padl_byt {l : List Nat} (h : Byt l) : Byt (padl l) := by
  refine (h.app ?_).app (ln8_byt _)
  intro x hx
  rcases List.mem_cons.1 hx with rfl | hx
  · decide
  · rw [List.eq_of_mem_replicate hx]; decide
theorem blk_ok (K s : Nat → Nat) (b : List Nat) : (stOf (blk K s b)).ok := ⟨blk_lt _ _ _ _, blk_lt _ _ _ _, blk_lt _ _ _ _, blk_lt _ _ _ _, blk_lt _ _ _ _, blk_lt _ _ _ _, blk_lt _ _ _ _, blk_lt _ _ _ _⟩

theorem eq_items_no : ∀ (h h' : Nat → Nat) (w : World) (is : List Nat), (∀ i ∈ is, i < 32) → (Op.eqItems 9999 5 (Try.prog.cellsOf 5) (hc h) (hc h') is).run Try.prog w = .ok (is.all fun i => h i == h' i) w
  | h, h', w, [], _ => by simp [Op.eqItems]
  | h, h', w, i :: is, hi => by
    have h1 := hi i (by simp)
    have hx : ∀ f : Nat → Nat, (hc f)[i * Try.prog.cellsOf 5]? = some (.int .u8 ((f i : Nat) : Int)) := by
      intro f; rw [show Try.prog.cellsOf 5 = 1 from by kernel_rfl, Nat.mul_one]; exact hc_get f h1
    have hp := run_part_plain (P := Try.prog) w (show Try.prog.plainKey 5 = true from by kernel_rfl) (hx h)
    have hp' := run_part_plain (P := Try.prog) w (show Try.prog.plainKey 5 = true from by kernel_rfl) (hx h')
    have he := run_equalIn_int (P := Try.prog) w 9998 5 .u8 .u8 ((h i : Nat) : Int) ((h' i : Nat) : Int) Try.underlying5
    have ih := eq_items_no h h' w is (fun j hj => hi j (by simp [hj]))
    simp only [Op.eqItems, Sem.run_bind, hp, hp', Result.andThen_ok]
    rw [he]
    by_cases e : h i = h' i
    · simp [ih, e]
    · have e' : ¬ ((h i : Nat) : Int) = ((h' i : Nat) : Int) := by omega
      simp [e, e']
/-- Are two hashes the same? -/
def eqh (h h' : Nat → Nat) : Bool := (List.range 32).all fun i => h i == h' i
theorem eqh_iff {h h' : Nat → Nat} : eqh h h' = true ↔ ∀ j, j < 32 → h j = h' j := by simp [eqh]
theorem eqh_self (h : Nat → Nat) : eqh h h = true := by simp [eqh]
theorem eq_hash (h h' : Nat → Nat) (w : World) : (Op.equalIn 10000 33 (.agg (hc h)) (.agg (hc h'))).run Try.prog w = .ok (eqh h h') w := by
  obtain ⟨i, hi⟩ : ∃ i, Try.prog.info? 5 = some i := by
    cases h : Try.prog.info? 5 with
    | none => have := info_u8; rw [h] at this; cases this
    | some i => exact ⟨i, rfl⟩
  rw [run_equalIn_array w 9999 (hc h) (hc h') Try.underlying33 hi]
  exact eq_items_no h h' w _ (fun i hi => by simpa using hi)
end Go.Proofs.Ytmpbimechgelfaa

