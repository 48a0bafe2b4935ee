/- The words of a block: plain laws. -/
import Derived.Test.YtmpbimechgelfaaArr
namespace Go.Proofs.Ytmpbimechgelfaa
open Go Go.RowKit

theorem wrap_u32 (n : Int) : IntKind.u32.wrap n = n % 4294967296 := by simp [IntKind.wrap, IntKind.bits, IntKind.signed]
theorem mul_lt {x k : Nat} (hx : x < 256) (hk : 0 < k) (h : Nat.ble (256 * k) 4294967296 = true) : x * k < 4294967296 :=
  Nat.lt_of_lt_of_le (Nat.mul_lt_mul_of_pos_right hx hk) (Nat.le_of_ble_eq_true h)
theorem or_lt {a b : Nat} (h1 : a < 4294967296) (h2 : b < 4294967296) : a ||| b < 4294967296 := Nat.or_lt_two_pow (n := 32) h1 h2
theorem xor_lt {a b : Nat} (h1 : a < 4294967296) (h2 : b < 4294967296) : a ^^^ b < 4294967296 := Nat.xor_lt_two_pow (n := 32) h1 h2
set_option maxRecDepth 100000 in
theorem be_expr (x0 x1 x2 x3 : Nat) (l0 : x0 < 256) (l1 : x1 < 256) (l2 : x2 < 256) (l3 : x3 < 256) : bits BinOp.or IntKind.u32 (bits BinOp.or IntKind.u32 (bits BinOp.or IntKind.u32 (IntKind.u32.wrap (IntKind.u32.wrap (x0 : Int) * 16777216)) (IntKind.u32.wrap (IntKind.u32.wrap (x1 : Int) * 65536))) (IntKind.u32.wrap (IntKind.u32.wrap (x2 : Int) * 256))) (IntKind.u32.wrap (x3 : Int)) = (((((x0 * 16777216 ||| x1 * 65536) ||| x2 * 256) ||| x3) : Nat) : Int) := by
  have b1 : x0 * 16777216 < 4294967296 := mul_lt l0 (Nat.succ_pos _) rfl
  have b2 : x1 * 65536 < 4294967296 := mul_lt l1 (Nat.succ_pos _) rfl
  have b3 : x2 * 256 < 4294967296 := mul_lt l2 (Nat.succ_pos _) rfl
  have o1 := or_lt b1 b2
  have o2 := or_lt o1 b3
  have w0 : IntKind.u32.wrap (IntKind.u32.wrap (x0 : Int) * 16777216) = ((x0 * 16777216 : Nat) : Int) := by simp only [wrap_u32]; omega
  have w1 : IntKind.u32.wrap (IntKind.u32.wrap (x1 : Int) * 65536) = ((x1 * 65536 : Nat) : Int) := by simp only [wrap_u32]; omega
  have w2 : IntKind.u32.wrap (IntKind.u32.wrap (x2 : Int) * 256) = ((x2 * 256 : Nat) : Int) := by simp only [wrap_u32]; omega
  have w3 : IntKind.u32.wrap (x3 : Int) = ((x3 : Nat) : Int) := by simp only [wrap_u32]; omega
  rw [w0, w1, w2, w3, u32_or_nat _ _ b1 b2, u32_or_nat _ _ o1 b3, u32_or_nat _ _ o2 (by omega)]
/-- The word at place t of bytes. -/
def be (b : List Nat) (t : Nat) : Nat := ((b[4 * t]?.getD 0 * 16777216 ||| b[4 * t + 1]?.getD 0 * 65536) ||| b[4 * t + 2]?.getD 0 * 256) ||| b[4 * t + 3]?.getD 0
def M32 : Nat := 4294967296
def sg0 (x : Nat) : Nat := (rotr x 7 ^^^ rotr x 18) ^^^ x / 8
def sg1 (y : Nat) : Nat := (rotr y 17 ^^^ rotr y 19) ^^^ y / 1024
/-- A word out of four that were before. -/
def wnext (y w7 x w16 : Nat) : Nat := (((sg1 y + w7) % 4294967296 + sg0 x) % 4294967296 + w16) % 4294967296
theorem u32_wrap_nat (n : Nat) : IntKind.u32.wrap (n : Int) = ((n % 4294967296 : Nat) : Int) := by rw [wrap_u32]; omega
theorem u32_add_nat (a b : Nat) : IntKind.u32.wrap ((a : Int) + (b : Int)) = (((a + b) % 4294967296 : Nat) : Int) := by rw [← Int.natCast_add, u32_wrap_nat]
theorem div_lt {x : Nat} (hx : x < 4294967296) (n : Nat) : x / n < 4294967296 := Nat.lt_of_le_of_lt (Nat.div_le_self _ _) hx
theorem and_lt {a b : Nat} (h1 : a < 4294967296) : a &&& b < 4294967296 := Nat.lt_of_le_of_lt Nat.and_le_left h1
theorem cast_div (x n : Nat) : (x : Int) / (n : Int) = ((x / n : Nat) : Int) := (Int.natCast_ediv x n).symm
theorem sg0_lt {x : Nat} (hx : x < 4294967296) : sg0 x < 4294967296 := xor_lt (xor_lt (rotr_lt hx) (rotr_lt hx)) (div_lt hx 8)
theorem sg1_lt {x : Nat} (hx : x < 4294967296) : sg1 x < 4294967296 := xor_lt (xor_lt (rotr_lt hx) (rotr_lt hx)) (div_lt hx 1024)
theorem sg0_expr {x : Nat} (hx : x < 4294967296) : bits BinOp.xor IntKind.u32 (bits BinOp.xor IntKind.u32 (rotr x 7 : Nat) (rotr x 18 : Nat)) ((x : Int) / 8) = ((sg0 x : Nat) : Int) := by
  rw [u32_xor_nat _ _ (rotr_lt hx) (rotr_lt hx), show (x : Int) / 8 = ((x / 8 : Nat) : Int) from cast_div x 8, u32_xor_nat _ _ (xor_lt (rotr_lt hx) (rotr_lt hx)) (div_lt hx 8)]
  rfl
theorem sg1_expr {x : Nat} (hx : x < 4294967296) : bits BinOp.xor IntKind.u32 (bits BinOp.xor IntKind.u32 (rotr x 17 : Nat) (rotr x 19 : Nat)) ((x : Int) / 1024) = ((sg1 x : Nat) : Int) := by
  rw [u32_xor_nat _ _ (rotr_lt hx) (rotr_lt hx), show (x : Int) / 1024 = ((x / 1024 : Nat) : Int) from cast_div x 1024, u32_xor_nat _ _ (xor_lt (rotr_lt hx) (rotr_lt hx)) (div_lt hx 1024)]
  rfl
theorem wn_expr (y w7 x w16 : Nat) (hx : x < 4294967296) (hy : y < 4294967296) : IntKind.u32.wrap (IntKind.u32.wrap (IntKind.u32.wrap (bits BinOp.xor IntKind.u32 (bits BinOp.xor IntKind.u32 (rotr y 17 : Nat) (rotr y 19 : Nat)) ((y : Int) / 1024) + (w7 : Int)) + bits BinOp.xor IntKind.u32 (bits BinOp.xor IntKind.u32 (rotr x 7 : Nat) (rotr x 18 : Nat)) ((x : Int) / 8)) + (w16 : Int)) = ((wnext y w7 x w16 : Nat) : Int) := by
  rw [sg0_expr hx, sg1_expr hy, u32_add_nat, u32_add_nat, u32_add_nat]
  rfl
/-- The first words, the last one first. -/
def wrev (b : List Nat) : Nat → List Nat
  | 0 => []
  | t + 1 => (if t < 16 then be b t else wnext ((wrev b t)[1]?.getD 0) ((wrev b t)[6]?.getD 0) ((wrev b t)[14]?.getD 0) ((wrev b t)[15]?.getD 0)) :: wrev b t
theorem wrev_len (b : List Nat) (t : Nat) : (wrev b t).length = t := by induction t with | zero => rfl | succ t ih => simp [wrev, ih]
/-- The word at place t. -/
def Wd (b : List Nat) (t : Nat) : Nat := (wrev b (t + 1))[0]?.getD 0
theorem wrev_at (b : List Nat) (t j : Nat) (h : j < t) : (wrev b t)[j]?.getD 0 = Wd b (t - 1 - j) := by
  induction t generalizing j with
  | zero => omega
  | succ t ih =>
    cases j with
    | zero => rfl
    | succ j =>
      have : (wrev b (t + 1))[j + 1]? = (wrev b t)[j]? := by simp [wrev]
      rw [this, ih j (by omega), show t + 1 - 1 - (j + 1) = t - 1 - j from by omega]
theorem Wd_lo (b : List Nat) {t : Nat} (h : t < 16) : Wd b t = be b t := if_pos h
theorem Wd_hi (b : List Nat) {t : Nat} (h : ¬ t < 16) : Wd b t = wnext (Wd b (t - 2)) (Wd b (t - 7)) (Wd b (t - 15)) (Wd b (t - 16)) := by
  have e : Wd b t = wnext ((wrev b t)[1]?.getD 0) ((wrev b t)[6]?.getD 0) ((wrev b t)[14]?.getD 0) ((wrev b t)[15]?.getD 0) := if_neg h
  rw [e, wrev_at b t 1 (by omega), wrev_at b t 6 (by omega), wrev_at b t 14 (by omega), wrev_at b t 15 (by omega)]
  rw [show t - 1 - 1 = t - 2 from by omega, show t - 1 - 6 = t - 7 from by omega, show t - 1 - 14 = t - 15 from by omega, show t - 1 - 15 = t - 16 from by omega]
/-- Eight words. -/
structure St where
  a : Nat
  c : Nat
  d : Nat
  e : Nat
  f : Nat
  g : Nat
  h : Nat
  i : Nat
def St.ok (S : St) : Prop := S.a < 4294967296 ∧ S.c < 4294967296 ∧ S.d < 4294967296 ∧ S.e < 4294967296 ∧ S.f < 4294967296 ∧ S.g < 4294967296 ∧ S.h < 4294967296 ∧ S.i < 4294967296
def sq1 (f : Nat) : Nat := (rotr f 6 ^^^ rotr f 11) ^^^ rotr f 25
def sq0 (a : Nat) : Nat := (rotr a 2 ^^^ rotr a 13) ^^^ rotr a 22
def chs (f g h : Nat) : Nat := (f &&& g) ^^^ ((4294967295 - f) &&& h)
def mjr (a c d : Nat) : Nat := ((a &&& c) ^^^ (a &&& d)) ^^^ (c &&& d)
def tone (k w f g h i : Nat) : Nat := ((((i + sq1 f) % 4294967296 + chs f g h) % 4294967296 + k) % 4294967296 + w) % 4294967296
def ttwo (a c d : Nat) : Nat := (sq0 a + mjr a c d) % 4294967296
/-- One round. -/
def rnd (k w : Nat) (S : St) : St := ⟨(tone k w S.f S.g S.h S.i + ttwo S.a S.c S.d) % 4294967296, S.a, S.c, S.d, (S.e + tone k w S.f S.g S.h S.i) % 4294967296, S.f, S.g, S.h⟩
theorem rnd_ok {k w : Nat} {S : St} (h : S.ok) : (rnd k w S).ok := by
  obtain ⟨h1, h2, h3, h4, h5, h6, h7, h8⟩ := h
  exact ⟨Nat.mod_lt _ (by omega), h1, h2, h3, Nat.mod_lt _ (by omega), h5, h6, h7⟩
/-- The state behind t rounds. -/
def rds (K W : Nat → Nat) (S : St) : Nat → St
  | 0 => S
  | t + 1 => rnd (K t) (W t) (rds K W S t)
theorem rds_ok {K W : Nat → Nat} {S : St} (h : S.ok) (t : Nat) : (rds K W S t).ok := by
  induction t with
  | zero => exact h
  | succ t ih => exact rnd_ok ih
theorem sq1_expr {f : Nat} (hf : f < 4294967296) : bits BinOp.xor IntKind.u32 (bits BinOp.xor IntKind.u32 (rotr f 6 : Nat) (rotr f 11 : Nat)) (rotr f 25 : Nat) = ((sq1 f : Nat) : Int) := by
  rw [u32_xor_nat _ _ (rotr_lt hf) (rotr_lt hf), u32_xor_nat _ _ (xor_lt (rotr_lt hf) (rotr_lt hf)) (rotr_lt hf)]
  rfl
theorem sq0_expr {f : Nat} (hf : f < 4294967296) : bits BinOp.xor IntKind.u32 (bits BinOp.xor IntKind.u32 (rotr f 2 : Nat) (rotr f 13 : Nat)) (rotr f 22 : Nat) = ((sq0 f : Nat) : Int) := by
  rw [u32_xor_nat _ _ (rotr_lt hf) (rotr_lt hf), u32_xor_nat _ _ (xor_lt (rotr_lt hf) (rotr_lt hf)) (rotr_lt hf)]
  rfl
theorem mjr_expr {a c d : Nat} (ha : a < 4294967296) (hc : c < 4294967296) (hd : d < 4294967296) :
    bits BinOp.xor IntKind.u32 (bits BinOp.xor IntKind.u32 (bits BinOp.and IntKind.u32 (a : Int) (c : Int)) (bits BinOp.and IntKind.u32 (a : Int) (d : Int))) (bits BinOp.and IntKind.u32 (c : Int) (d : Int)) = ((mjr a c d : Nat) : Int) := by
  rw [u32_and_nat _ _ ha hc, u32_and_nat _ _ ha hd, u32_and_nat _ _ hc hd, u32_xor_nat _ _ (and_lt ha) (and_lt ha), u32_xor_nat _ _ (xor_lt (and_lt ha) (and_lt ha)) (and_lt hc)]
  rfl
theorem xor_ones {f : Nat} (hf : f < 4294967296) : 4294967295 ^^^ f = 4294967295 - f := by
  refine Nat.eq_of_testBit_eq fun i => ?_
  rw [Nat.testBit_xor]
  have h : (4294967296 - (f + 1)).testBit i = (decide (i < 32) && !f.testBit i) := Nat.testBit_two_pow_sub_succ (n := 32) hf i
  have h2 : (4294967295 : Nat).testBit i = decide (i < 32) := Nat.testBit_two_pow_sub_one 32 i
  rw [show 4294967295 - f = 4294967296 - (f + 1) from by omega, h, h2]
  by_cases hi : i < 32
  · simp [hi]
  · have : f.testBit i = false := Nat.testBit_lt_two_pow (Nat.lt_of_lt_of_le hf (show 2 ^ 32 ≤ 2 ^ i from Nat.pow_le_pow_right (by decide) (Nat.le_of_not_lt hi)))
    simp [hi, this]
theorem not_expr {f : Nat} (hf : f < 4294967296) : bits BinOp.xor IntKind.u32 (if IntKind.u32.signed = true then -1 else IntKind.u32.max) (f : Int) = ((4294967295 - f : Nat) : Int) := by
  have e : (if IntKind.u32.signed = true then -1 else IntKind.u32.max) = ((4294967295 : Nat) : Int) := by decide
  rw [e, u32_xor_nat _ _ (by omega) hf, xor_ones hf]
theorem chs_expr {f g h : Nat} (hf : f < 4294967296) (hg : g < 4294967296) (hh : h < 4294967296) :
    bits BinOp.xor IntKind.u32 (bits BinOp.and IntKind.u32 (f : Int) (g : Int)) (bits BinOp.and IntKind.u32 (bits BinOp.xor IntKind.u32 (if IntKind.u32.signed = true then -1 else IntKind.u32.max) (f : Int)) (h : Int)) = ((chs f g h : Nat) : Int) := by
  have h1 : 4294967295 - f < 4294967296 := by omega
  rw [not_expr hf, u32_and_nat _ _ hf hg, u32_and_nat _ _ h1 hh, u32_xor_nat _ _ (and_lt hf) (and_lt h1)]
  rfl
theorem tone_expr {k w f g h i : Nat} (hf : f < 4294967296) (hg : g < 4294967296) (hh : h < 4294967296) :
    (((i : Int) + bits BinOp.xor IntKind.u32 (bits BinOp.xor IntKind.u32 (rotr f 6 : Nat) (rotr f 11 : Nat)) (rotr f 25 : Nat) + bits BinOp.xor IntKind.u32 (bits BinOp.and IntKind.u32 (f : Int) (g : Int)) (bits BinOp.and IntKind.u32 (bits BinOp.xor IntKind.u32 (if IntKind.u32.signed = true then -1 else IntKind.u32.max) (f : Int)) (h : Int)) + (k : Int)) % 4294967296 + (w : Int)) % 4294967296 = ((tone k w f g h i : Nat) : Int) := by
  rw [sq1_expr hf, chs_expr hf hg hh]
  unfold tone
  omega
theorem ttwo_expr {a c d : Nat} (ha : a < 4294967296) (hc : c < 4294967296) (hd : d < 4294967296) :
    (bits BinOp.xor IntKind.u32 (bits BinOp.xor IntKind.u32 (rotr a 2 : Nat) (rotr a 13 : Nat)) (rotr a 22 : Nat) + bits BinOp.xor IntKind.u32 (bits BinOp.xor IntKind.u32 (bits BinOp.and IntKind.u32 (a : Int) (c : Int)) (bits BinOp.and IntKind.u32 (a : Int) (d : Int))) (bits BinOp.and IntKind.u32 (c : Int) (d : Int))) % 4294967296 = ((ttwo a c d : Nat) : Int) := by
  rw [sq0_expr ha, mjr_expr ha hc hd]
  rfl
/-- Eight words by their place. -/
def st8 (S : St) (j : Nat) : Nat := match j with
  | 0 => S.a
  | 1 => S.c
  | 2 => S.d
  | 3 => S.e
  | 4 => S.f
  | 5 => S.g
  | 6 => S.h
  | _ => S.i
/-- The first state of a block. -/
def stOf (s : Nat → Nat) : St := ⟨s 0, s 1, s 2, s 3, s 4, s 5, s 6, s 7⟩
/-- The state behind one more block. -/
def blk (K : Nat → Nat) (s : Nat → Nat) (b : List Nat) (j : Nat) : Nat := (s j + st8 (rds K (Wd b) (stOf s) 64) j) % 4294967296
theorem blk_lt (K : Nat → Nat) (s : Nat → Nat) (b : List Nat) (j : Nat) : blk K s b j < 4294967296 := Nat.mod_lt _ (by omega)
theorem wnext_lt (a b c d : Nat) : wnext a b c d < 4294967296 := Nat.mod_lt _ (by omega)
theorem be_lt {b : List Nat} (hb : Byt b) (t : Nat) : be b t < 4294967296 := by
  have h0 := hb.at_ (4 * t)
  have h1 := hb.at_ (4 * t + 1)
  have h2 := hb.at_ (4 * t + 2)
  have h3 := hb.at_ (4 * t + 3)
  unfold be
  exact or_lt (or_lt (or_lt (mul_lt h0 (Nat.succ_pos _) rfl) (mul_lt h1 (Nat.succ_pos _) rfl)) (mul_lt h2 (Nat.succ_pos _) rfl)) (Nat.lt_trans h3 (Nat.le_of_ble_eq_true rfl))
theorem Wd_lt {b : List Nat} (hb : Byt b) (t : Nat) : Wd b t < 4294967296 := by
  by_cases h : t < 16
  · rw [Wd_lo b h]; exact be_lt hb t
  · rw [Wd_hi b h]; exact wnext_lt _ _ _ _
end Go.Proofs.Ytmpbimechgelfaa
