/- The contracts of member's functions once more, spelled as a walk spells them. -/
import Derived.Test.YtecehbodemiijaaAwake
import Derived.Test.YtecehbodemiijaaOpen
namespace Go.Proofs.Ytecehbodemiijaa
open Go Go.RowKit

theorem speak_raw (a b : M) (hb : b.fits) (w : World) : Calls Try.prog 15 #[Value.agg #[.int .i64 a.inc, .int .i64 a.st], Value.agg #[.int .i64 b.inc, .int .i64 b.st]] w
    fun e w' => e = .returned (Value.agg #[.int .i64 (spk a b).inc, .int .i64 (spk a b).st]) ∧ Below w.heap.size w w' := speak_any a b w hb
theorem rspeak_raw (a b : M) (hb : b.fits) (w : World) : Calls Try.prog 16 #[Value.agg #[.int .i64 a.inc, .int .i64 a.st], Value.agg #[.int .i64 b.inc, .int .i64 b.st]] w
    fun e w' => e = .returned (Value.agg #[.int .i64 (spk a b).inc, .int .i64 (spk a b).st]) ∧ Below w.heap.size w w' := rspeak_any a b w hb
theorem suspect_raw (a : M) (w : World) : Calls Try.prog 17 #[Value.agg #[.int .i64 a.inc, .int .i64 a.st]] w
    fun e w' => e = .returned (Value.agg #[.int .i64 (sus a).inc, .int .i64 (sus a).st]) ∧ Below w.heap.size w w' := suspect_any a w
theorem rsuspect_raw (a : M) (w : World) : Calls Try.prog 18 #[Value.agg #[.int .i64 a.inc, .int .i64 a.st]] w
    fun e w' => e = .returned (Value.agg #[.int .i64 (sus a).inc, .int .i64 (sus a).st]) ∧ Below w.heap.size w w' := rsuspect_any a w
theorem bury_raw (a : M) (w : World) : Calls Try.prog 19 #[Value.agg #[.int .i64 a.inc, .int .i64 a.st]] w
    fun e w' => e = .returned (Value.agg #[.int .i64 (bur a).inc, .int .i64 (bur a).st]) ∧ Below w.heap.size w w' := bury_any a w
theorem rbury_raw (a : M) (w : World) : Calls Try.prog 20 #[Value.agg #[.int .i64 a.inc, .int .i64 a.st]] w
    fun e w' => e = .returned (Value.agg #[.int .i64 (bur a).inc, .int .i64 (bur a).st]) ∧ Below w.heap.size w w' := rbury_any a w
theorem check_raw (a : M) (w : World) : Calls Try.prog 11 #[Value.agg #[.int .i64 a.inc, .int .i64 a.st]] w
    fun e w' => e = .returned (.int .i64 (errIf (may a))) ∧ Below w.heap.size w w' := check_any a w
theorem rcheck_raw (a : M) (w : World) : Calls Try.prog 12 #[Value.agg #[.int .i64 a.inc, .int .i64 a.st]] w
    fun e w' => e = .returned (.int .i64 (errIf (may a))) ∧ Below w.heap.size w w' := rcheck_any a w
end Go.Proofs.Ytecehbodemiijaa
