/- A word that is turned to the right: the code's closure, and the document's turn. -/
import Derived.Test.YtmpbimechgelfaaBytes
import Derived.Laws.BitsAllLaws
namespace Go.Proofs.Ytmpbimechgelfaa
open Go Go.RowKit

/-- A word turned to the right. -/
def rotr (x n : Nat) : Nat := (x * 2 ^ (32 - n)) % 4294967296 ||| (x / 2 ^ n)
theorem rotr_lt {x n : Nat} (hx : x < 4294967296) : rotr x n < 4294967296 := by
  unfold rotr
  have h1 : (x * 2 ^ (32 - n)) % 4294967296 < 2 ^ 32 := Nat.mod_lt _ (by omega)
  have h2 : x / 2 ^ n < 2 ^ 32 := Nat.lt_of_le_of_lt (Nat.div_le_self _ _) hx
  exact Nat.or_lt_two_pow h1 h2
theorem rotl_2 (x : Nat) (hx : x < 4294967296) (w : World) : Calls Try.prog 63 #[.int .u32 (x : Int), .int .i64 (-2)] w fun e w' => e = .returned (.int .u32 ((rotr x 2 : Nat) : Int)) ∧ w' = w := by
  have hs : bits BinOp.and IntKind.u64 (IntKind.u64.wrap (-2)) 31 = 30 := by decide
  have hv : bits BinOp.or IntKind.u32 ((x : Int) * 1073741824 % 4294967296) ((x : Int) / 4) = ((rotr x 2 : Nat) : Int) := by
    rw [show (x : Int) * 1073741824 % 4294967296 = ((x * 1073741824 % 4294967296 : Nat) : Int) from by omega, show (x : Int) / 4 = ((x / 4 : Nat) : Int) from by omega, u32_or_nat _ _ (by omega) (by omega)]
    rfl
  go_enter Try.func63, Try.ntmps63
  go_wp2
  go_ret
  exact ⟨rfl, rfl⟩
theorem right_2 (x : Nat) (hx : x < 4294967296) (w : World) : Calls Try.prog 62 #[.int .u32 (x : Int), .int .i64 2] w fun e w' => e = .returned (.int .u32 ((rotr x 2 : Nat) : Int)) ∧ w' = w := by
  go_enter Try.func62, Try.ntmps62
  go_wp2_with fail
  refine (rotl_2 x hx w).mono ?_
  rintro e w' ⟨rfl, rfl⟩
  go_wp2
  go_ret
  exact ⟨rfl, rfl⟩
theorem turn_2 (x : Nat) (hx : x < 4294967296) (w : World) : Calls Try.prog 72 #[.int .u32 (x : Int), .int .i64 2] w fun e w' => e = .returned (.int .u32 ((rotr x 2 : Nat) : Int)) ∧ w' = w := by
  have hv : bits BinOp.or IntKind.u32 ((x : Int) / 4) ((x : Int) * 1073741824 % 4294967296) = ((rotr x 2 : Nat) : Int) := by
    rw [show (x : Int) * 1073741824 % 4294967296 = ((x * 1073741824 % 4294967296 : Nat) : Int) from by omega, show (x : Int) / 4 = ((x / 4 : Nat) : Int) from by omega, u32_or_nat _ _ (by omega) (by omega), Nat.or_comm]
    rfl
  go_enter Try.func72, Try.ntmps72
  go_wp2
  go_ret
  exact ⟨rfl, rfl⟩
theorem rotl_6 (x : Nat) (hx : x < 4294967296) (w : World) : Calls Try.prog 63 #[.int .u32 (x : Int), .int .i64 (-6)] w fun e w' => e = .returned (.int .u32 ((rotr x 6 : Nat) : Int)) ∧ w' = w := by
  have hs : bits BinOp.and IntKind.u64 (IntKind.u64.wrap (-6)) 31 = 26 := by decide
  have hv : bits BinOp.or IntKind.u32 ((x : Int) * 67108864 % 4294967296) ((x : Int) / 64) = ((rotr x 6 : Nat) : Int) := by
    rw [show (x : Int) * 67108864 % 4294967296 = ((x * 67108864 % 4294967296 : Nat) : Int) from by omega, show (x : Int) / 64 = ((x / 64 : Nat) : Int) from by omega, u32_or_nat _ _ (by omega) (by omega)]
    rfl
  go_enter Try.func63, Try.ntmps63
  go_wp2
  go_ret
  exact ⟨rfl, rfl⟩
theorem right_6 (x : Nat) (hx : x < 4294967296) (w : World) : Calls Try.prog 62 #[.int .u32 (x : Int), .int .i64 6] w fun e w' => e = .returned (.int .u32 ((rotr x 6 : Nat) : Int)) ∧ w' = w := by
  go_enter Try.func62, Try.ntmps62
  go_wp2_with fail
  refine (rotl_6 x hx w).mono ?_
  rintro e w' ⟨rfl, rfl⟩
  go_wp2
  go_ret
  exact ⟨rfl, rfl⟩
theorem turn_6 (x : Nat) (hx : x < 4294967296) (w : World) : Calls Try.prog 72 #[.int .u32 (x : Int), .int .i64 6] w fun e w' => e = .returned (.int .u32 ((rotr x 6 : Nat) : Int)) ∧ w' = w := by
  have hv : bits BinOp.or IntKind.u32 ((x : Int) / 64) ((x : Int) * 67108864 % 4294967296) = ((rotr x 6 : Nat) : Int) := by
    rw [show (x : Int) * 67108864 % 4294967296 = ((x * 67108864 % 4294967296 : Nat) : Int) from by omega, show (x : Int) / 64 = ((x / 64 : Nat) : Int) from by omega, u32_or_nat _ _ (by omega) (by omega), Nat.or_comm]
    rfl
  go_enter Try.func72, Try.ntmps72
  go_wp2
  go_ret
  exact ⟨rfl, rfl⟩
theorem rotl_7 (x : Nat) (hx : x < 4294967296) (w : World) : Calls Try.prog 63 #[.int .u32 (x : Int), .int .i64 (-7)] w fun e w' => e = .returned (.int .u32 ((rotr x 7 : Nat) : Int)) ∧ w' = w := by
  have hs : bits BinOp.and IntKind.u64 (IntKind.u64.wrap (-7)) 31 = 25 := by decide
  have hv : bits BinOp.or IntKind.u32 ((x : Int) * 33554432 % 4294967296) ((x : Int) / 128) = ((rotr x 7 : Nat) : Int) := by
    rw [show (x : Int) * 33554432 % 4294967296 = ((x * 33554432 % 4294967296 : Nat) : Int) from by omega, show (x : Int) / 128 = ((x / 128 : Nat) : Int) from by omega, u32_or_nat _ _ (by omega) (by omega)]
    rfl
  go_enter Try.func63, Try.ntmps63
  go_wp2
  go_ret
  exact ⟨rfl, rfl⟩
theorem right_7 (x : Nat) (hx : x < 4294967296) (w : World) : Calls Try.prog 62 #[.int .u32 (x : Int), .int .i64 7] w fun e w' => e = .returned (.int .u32 ((rotr x 7 : Nat) : Int)) ∧ w' = w := by
  go_enter Try.func62, Try.ntmps62
  go_wp2_with fail
  refine (rotl_7 x hx w).mono ?_
  rintro e w' ⟨rfl, rfl⟩
  go_wp2
  go_ret
  exact ⟨rfl, rfl⟩
theorem turn_7 (x : Nat) (hx : x < 4294967296) (w : World) : Calls Try.prog 72 #[.int .u32 (x : Int), .int .i64 7] w fun e w' => e = .returned (.int .u32 ((rotr x 7 : Nat) : Int)) ∧ w' = w := by
  have hv : bits BinOp.or IntKind.u32 ((x : Int) / 128) ((x : Int) * 33554432 % 4294967296) = ((rotr x 7 : Nat) : Int) := by
    rw [show (x : Int) * 33554432 % 4294967296 = ((x * 33554432 % 4294967296 : Nat) : Int) from by omega, show (x : Int) / 128 = ((x / 128 : Nat) : Int) from by omega, u32_or_nat _ _ (by omega) (by omega), Nat.or_comm]
    rfl
  go_enter Try.func72, Try.ntmps72
  go_wp2
  go_ret
  exact ⟨rfl, rfl⟩
theorem rotl_11 (x : Nat) (hx : x < 4294967296) (w : World) : Calls Try.prog 63 #[.int .u32 (x : Int), .int .i64 (-11)] w fun e w' => e = .returned (.int .u32 ((rotr x 11 : Nat) : Int)) ∧ w' = w := by
  have hs : bits BinOp.and IntKind.u64 (IntKind.u64.wrap (-11)) 31 = 21 := by decide
  have hv : bits BinOp.or IntKind.u32 ((x : Int) * 2097152 % 4294967296) ((x : Int) / 2048) = ((rotr x 11 : Nat) : Int) := by
    rw [show (x : Int) * 2097152 % 4294967296 = ((x * 2097152 % 4294967296 : Nat) : Int) from by omega, show (x : Int) / 2048 = ((x / 2048 : Nat) : Int) from by omega, u32_or_nat _ _ (by omega) (by omega)]
    rfl
  go_enter Try.func63, Try.ntmps63
  go_wp2
  go_ret
  exact ⟨rfl, rfl⟩
theorem right_11 (x : Nat) (hx : x < 4294967296) (w : World) : Calls Try.prog 62 #[.int .u32 (x : Int), .int .i64 11] w fun e w' => e = .returned (.int .u32 ((rotr x 11 : Nat) : Int)) ∧ w' = w := by
  go_enter Try.func62, Try.ntmps62
  go_wp2_with fail
  refine (rotl_11 x hx w).mono ?_
  rintro e w' ⟨rfl, rfl⟩
  go_wp2
  go_ret
  exact ⟨rfl, rfl⟩
theorem turn_11 (x : Nat) (hx : x < 4294967296) (w : World) : Calls Try.prog 72 #[.int .u32 (x : Int), .int .i64 11] w fun e w' => e = .returned (.int .u32 ((rotr x 11 : Nat) : Int)) ∧ w' = w := by
  have hv : bits BinOp.or IntKind.u32 ((x : Int) / 2048) ((x : Int) * 2097152 % 4294967296) = ((rotr x 11 : Nat) : Int) := by
    rw [show (x : Int) * 2097152 % 4294967296 = ((x * 2097152 % 4294967296 : Nat) : Int) from by omega, show (x : Int) / 2048 = ((x / 2048 : Nat) : Int) from by omega, u32_or_nat _ _ (by omega) (by omega), Nat.or_comm]
    rfl
  go_enter Try.func72, Try.ntmps72
  go_wp2
  go_ret
  exact ⟨rfl, rfl⟩
theorem rotl_13 (x : Nat) (hx : x < 4294967296) (w : World) : Calls Try.prog 63 #[.int .u32 (x : Int), .int .i64 (-13)] w fun e w' => e = .returned (.int .u32 ((rotr x 13 : Nat) : Int)) ∧ w' = w := by
  have hs : bits BinOp.and IntKind.u64 (IntKind.u64.wrap (-13)) 31 = 19 := by decide
  have hv : bits BinOp.or IntKind.u32 ((x : Int) * 524288 % 4294967296) ((x : Int) / 8192) = ((rotr x 13 : Nat) : Int) := by
    rw [show (x : Int) * 524288 % 4294967296 = ((x * 524288 % 4294967296 : Nat) : Int) from by omega, show (x : Int) / 8192 = ((x / 8192 : Nat) : Int) from by omega, u32_or_nat _ _ (by omega) (by omega)]
    rfl
  go_enter Try.func63, Try.ntmps63
  go_wp2
  go_ret
  exact ⟨rfl, rfl⟩
theorem right_13 (x : Nat) (hx : x < 4294967296) (w : World) : Calls Try.prog 62 #[.int .u32 (x : Int), .int .i64 13] w fun e w' => e = .returned (.int .u32 ((rotr x 13 : Nat) : Int)) ∧ w' = w := by
  go_enter Try.func62, Try.ntmps62
  go_wp2_with fail
  refine (rotl_13 x hx w).mono ?_
  rintro e w' ⟨rfl, rfl⟩
  go_wp2
  go_ret
  exact ⟨rfl, rfl⟩
theorem turn_13 (x : Nat) (hx : x < 4294967296) (w : World) : Calls Try.prog 72 #[.int .u32 (x : Int), .int .i64 13] w fun e w' => e = .returned (.int .u32 ((rotr x 13 : Nat) : Int)) ∧ w' = w := by
  have hv : bits BinOp.or IntKind.u32 ((x : Int) / 8192) ((x : Int) * 524288 % 4294967296) = ((rotr x 13 : Nat) : Int) := by
    rw [show (x : Int) * 524288 % 4294967296 = ((x * 524288 % 4294967296 : Nat) : Int) from by omega, show (x : Int) / 8192 = ((x / 8192 : Nat) : Int) from by omega, u32_or_nat _ _ (by omega) (by omega), Nat.or_comm]
    rfl
  go_enter Try.func72, Try.ntmps72
  go_wp2
  go_ret
  exact ⟨rfl, rfl⟩
theorem rotl_17 (x : Nat) (hx : x < 4294967296) (w : World) : Calls Try.prog 63 #[.int .u32 (x : Int), .int .i64 (-17)] w fun e w' => e = .returned (.int .u32 ((rotr x 17 : Nat) : Int)) ∧ w' = w := by
  have hs : bits BinOp.and IntKind.u64 (IntKind.u64.wrap (-17)) 31 = 15 := by decide
  have hv : bits BinOp.or IntKind.u32 ((x : Int) * 32768 % 4294967296) ((x : Int) / 131072) = ((rotr x 17 : Nat) : Int) := by
    rw [show (x : Int) * 32768 % 4294967296 = ((x * 32768 % 4294967296 : Nat) : Int) from by omega, show (x : Int) / 131072 = ((x / 131072 : Nat) : Int) from by omega, u32_or_nat _ _ (by omega) (by omega)]
    rfl
  go_enter Try.func63, Try.ntmps63
  go_wp2
  go_ret
  exact ⟨rfl, rfl⟩
theorem right_17 (x : Nat) (hx : x < 4294967296) (w : World) : Calls Try.prog 62 #[.int .u32 (x : Int), .int .i64 17] w fun e w' => e = .returned (.int .u32 ((rotr x 17 : Nat) : Int)) ∧ w' = w := by
  go_enter Try.func62, Try.ntmps62
  go_wp2_with fail
  refine (rotl_17 x hx w).mono ?_
  rintro e w' ⟨rfl, rfl⟩
  go_wp2
  go_ret
  exact ⟨rfl, rfl⟩
theorem turn_17 (x : Nat) (hx : x < 4294967296) (w : World) : Calls Try.prog 72 #[.int .u32 (x : Int), .int .i64 17] w fun e w' => e = .returned (.int .u32 ((rotr x 17 : Nat) : Int)) ∧ w' = w := by
  have hv : bits BinOp.or IntKind.u32 ((x : Int) / 131072) ((x : Int) * 32768 % 4294967296) = ((rotr x 17 : Nat) : Int) := by
    rw [show (x : Int) * 32768 % 4294967296 = ((x * 32768 % 4294967296 : Nat) : Int) from by omega, show (x : Int) / 131072 = ((x / 131072 : Nat) : Int) from by omega, u32_or_nat _ _ (by omega) (by omega), Nat.or_comm]
    rfl
  go_enter Try.func72, Try.ntmps72
  go_wp2
  go_ret
  exact ⟨rfl, rfl⟩
theorem rotl_18 (x : Nat) (hx : x < 4294967296) (w : World) : Calls Try.prog 63 #[.int .u32 (x : Int), .int .i64 (-18)] w fun e w' => e = .returned (.int .u32 ((rotr x 18 : Nat) : Int)) ∧ w' = w := by
  have hs : bits BinOp.and IntKind.u64 (IntKind.u64.wrap (-18)) 31 = 14 := by decide
  have hv : bits BinOp.or IntKind.u32 ((x : Int) * 16384 % 4294967296) ((x : Int) / 262144) = ((rotr x 18 : Nat) : Int) := by
    rw [show (x : Int) * 16384 % 4294967296 = ((x * 16384 % 4294967296 : Nat) : Int) from by omega, show (x : Int) / 262144 = ((x / 262144 : Nat) : Int) from by omega, u32_or_nat _ _ (by omega) (by omega)]
    rfl
  go_enter Try.func63, Try.ntmps63
  go_wp2
  go_ret
  exact ⟨rfl, rfl⟩
theorem right_18 (x : Nat) (hx : x < 4294967296) (w : World) : Calls Try.prog 62 #[.int .u32 (x : Int), .int .i64 18] w fun e w' => e = .returned (.int .u32 ((rotr x 18 : Nat) : Int)) ∧ w' = w := by
  go_enter Try.func62, Try.ntmps62
  go_wp2_with fail
  refine (rotl_18 x hx w).mono ?_
  rintro e w' ⟨rfl, rfl⟩
  go_wp2
  go_ret
  exact ⟨rfl, rfl⟩
theorem turn_18 (x : Nat) (hx : x < 4294967296) (w : World) : Calls Try.prog 72 #[.int .u32 (x : Int), .int .i64 18] w fun e w' => e = .returned (.int .u32 ((rotr x 18 : Nat) : Int)) ∧ w' = w := by
  have hv : bits BinOp.or IntKind.u32 ((x : Int) / 262144) ((x : Int) * 16384 % 4294967296) = ((rotr x 18 : Nat) : Int) := by
    rw [show (x : Int) * 16384 % 4294967296 = ((x * 16384 % 4294967296 : Nat) : Int) from by omega, show (x : Int) / 262144 = ((x / 262144 : Nat) : Int) from by omega, u32_or_nat _ _ (by omega) (by omega), Nat.or_comm]
    rfl
  go_enter Try.func72, Try.ntmps72
  go_wp2
  go_ret
  exact ⟨rfl, rfl⟩
theorem rotl_19 (x : Nat) (hx : x < 4294967296) (w : World) : Calls Try.prog 63 #[.int .u32 (x : Int), .int .i64 (-19)] w fun e w' => e = .returned (.int .u32 ((rotr x 19 : Nat) : Int)) ∧ w' = w := by
  have hs : bits BinOp.and IntKind.u64 (IntKind.u64.wrap (-19)) 31 = 13 := by decide
  have hv : bits BinOp.or IntKind.u32 ((x : Int) * 8192 % 4294967296) ((x : Int) / 524288) = ((rotr x 19 : Nat) : Int) := by
    rw [show (x : Int) * 8192 % 4294967296 = ((x * 8192 % 4294967296 : Nat) : Int) from by omega, show (x : Int) / 524288 = ((x / 524288 : Nat) : Int) from by omega, u32_or_nat _ _ (by omega) (by omega)]
    rfl
  go_enter Try.func63, Try.ntmps63
  go_wp2
  go_ret
  exact ⟨rfl, rfl⟩
theorem right_19 (x : Nat) (hx : x < 4294967296) (w : World) : Calls Try.prog 62 #[.int .u32 (x : Int), .int .i64 19] w fun e w' => e = .returned (.int .u32 ((rotr x 19 : Nat) : Int)) ∧ w' = w := by
  go_enter Try.func62, Try.ntmps62
  go_wp2_with fail
  refine (rotl_19 x hx w).mono ?_
  rintro e w' ⟨rfl, rfl⟩
  go_wp2
  go_ret
  exact ⟨rfl, rfl⟩
theorem turn_19 (x : Nat) (hx : x < 4294967296) (w : World) : Calls Try.prog 72 #[.int .u32 (x : Int), .int .i64 19] w fun e w' => e = .returned (.int .u32 ((rotr x 19 : Nat) : Int)) ∧ w' = w := by
  have hv : bits BinOp.or IntKind.u32 ((x : Int) / 524288) ((x : Int) * 8192 % 4294967296) = ((rotr x 19 : Nat) : Int) := by
    rw [show (x : Int) * 8192 % 4294967296 = ((x * 8192 % 4294967296 : Nat) : Int) from by omega, show (x : Int) / 524288 = ((x / 524288 : Nat) : Int) from by omega, u32_or_nat _ _ (by omega) (by omega), Nat.or_comm]
    rfl
  go_enter Try.func72, Try.ntmps72
  go_wp2
  go_ret
  exact ⟨rfl, rfl⟩
theorem rotl_22 (x : Nat) (hx : x < 4294967296) (w : World) : Calls Try.prog 63 #[.int .u32 (x : Int), .int .i64 (-22)] w fun e w' => e = .returned (.int .u32 ((rotr x 22 : Nat) : Int)) ∧ w' = w := by
  have hs : bits BinOp.and IntKind.u64 (IntKind.u64.wrap (-22)) 31 = 10 := by decide
  have hv : bits BinOp.or IntKind.u32 ((x : Int) * 1024 % 4294967296) ((x : Int) / 4194304) = ((rotr x 22 : Nat) : Int) := by
    rw [show (x : Int) * 1024 % 4294967296 = ((x * 1024 % 4294967296 : Nat) : Int) from by omega, show (x : Int) / 4194304 = ((x / 4194304 : Nat) : Int) from by omega, u32_or_nat _ _ (by omega) (by omega)]
    rfl
  go_enter Try.func63, Try.ntmps63
  go_wp2
  go_ret
  exact ⟨rfl, rfl⟩
theorem right_22 (x : Nat) (hx : x < 4294967296) (w : World) : Calls Try.prog 62 #[.int .u32 (x : Int), .int .i64 22] w fun e w' => e = .returned (.int .u32 ((rotr x 22 : Nat) : Int)) ∧ w' = w := by
  go_enter Try.func62, Try.ntmps62
  go_wp2_with fail
  refine (rotl_22 x hx w).mono ?_
  rintro e w' ⟨rfl, rfl⟩
  go_wp2
  go_ret
  exact ⟨rfl, rfl⟩
theorem turn_22 (x : Nat) (hx : x < 4294967296) (w : World) : Calls Try.prog 72 #[.int .u32 (x : Int), .int .i64 22] w fun e w' => e = .returned (.int .u32 ((rotr x 22 : Nat) : Int)) ∧ w' = w := by
  have hv : bits BinOp.or IntKind.u32 ((x : Int) / 4194304) ((x : Int) * 1024 % 4294967296) = ((rotr x 22 : Nat) : Int) := by
    rw [show (x : Int) * 1024 % 4294967296 = ((x * 1024 % 4294967296 : Nat) : Int) from by omega, show (x : Int) / 4194304 = ((x / 4194304 : Nat) : Int) from by omega, u32_or_nat _ _ (by omega) (by omega), Nat.or_comm]
    rfl
  go_enter Try.func72, Try.ntmps72
  go_wp2
  go_ret
  exact ⟨rfl, rfl⟩
theorem rotl_25 (x : Nat) (hx : x < 4294967296) (w : World) : Calls Try.prog 63 #[.int .u32 (x : Int), .int .i64 (-25)] w fun e w' => e = .returned (.int .u32 ((rotr x 25 : Nat) : Int)) ∧ w' = w := by
  have hs : bits BinOp.and IntKind.u64 (IntKind.u64.wrap (-25)) 31 = 7 := by decide
  have hv : bits BinOp.or IntKind.u32 ((x : Int) * 128 % 4294967296) ((x : Int) / 33554432) = ((rotr x 25 : Nat) : Int) := by
    rw [show (x : Int) * 128 % 4294967296 = ((x * 128 % 4294967296 : Nat) : Int) from by omega, show (x : Int) / 33554432 = ((x / 33554432 : Nat) : Int) from by omega, u32_or_nat _ _ (by omega) (by omega)]
    rfl
  go_enter Try.func63, Try.ntmps63
  go_wp2
  go_ret
  exact ⟨rfl, rfl⟩
theorem right_25 (x : Nat) (hx : x < 4294967296) (w : World) : Calls Try.prog 62 #[.int .u32 (x : Int), .int .i64 25] w fun e w' => e = .returned (.int .u32 ((rotr x 25 : Nat) : Int)) ∧ w' = w := by
  go_enter Try.func62, Try.ntmps62
  go_wp2_with fail
  refine (rotl_25 x hx w).mono ?_
  rintro e w' ⟨rfl, rfl⟩
  go_wp2
  go_ret
  exact ⟨rfl, rfl⟩
theorem turn_25 (x : Nat) (hx : x < 4294967296) (w : World) : Calls Try.prog 72 #[.int .u32 (x : Int), .int .i64 25] w fun e w' => e = .returned (.int .u32 ((rotr x 25 : Nat) : Int)) ∧ w' = w := by
  have hv : bits BinOp.or IntKind.u32 ((x : Int) / 33554432) ((x : Int) * 128 % 4294967296) = ((rotr x 25 : Nat) : Int) := by
    rw [show (x : Int) * 128 % 4294967296 = ((x * 128 % 4294967296 : Nat) : Int) from by omega, show (x : Int) / 33554432 = ((x / 33554432 : Nat) : Int) from by omega, u32_or_nat _ _ (by omega) (by omega), Nat.or_comm]
    rfl
  go_enter Try.func72, Try.ntmps72
  go_wp2
  go_ret
  exact ⟨rfl, rfl⟩
end Go.Proofs.Ytmpbimechgelfaa
