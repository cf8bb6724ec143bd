/- What the rows ask of the program. -/
import Derived.Test.YthjdhmnmlblpfaaRBase
import Derived.Test.YthjdhmnmlblpfaaRFpRow
namespace Go.Proofs.YthjdhmnmlblpfaaR
theorem Try.own : ownKnob Try.prog.godebug = none := by kernel_rfl
theorem Try.laidOut : laidOutB Try.prog = true := by kernel_rfl
theorem wf_u64 {n : Int} (h : (Lit.int .u64 n).wf = true) : 0 ≤ n ∧ n < 18446744073709551616 := by simp [Lit.wf, IntKind.bits, IntKind.signed, IntKind.min, IntKind.max] at h; omega
theorem wf_i64 {n : Int} (h : (Lit.int .i64 n).wf = true) : -9223372036854775808 ≤ n ∧ n < 9223372036854775808 := by simp [Lit.wf, IntKind.bits, IntKind.signed, IntKind.min, IntKind.max] at h; omega
theorem wf_u32 {n : Int} (h : (Lit.int .u32 n).wf = true) : 0 ≤ n ∧ n < 4294967296 := by simp [Lit.wf, IntKind.bits, IntKind.signed, IntKind.min, IntKind.max] at h; omega
theorem wf_u16 {n : Int} (h : (Lit.int .u16 n).wf = true) : 0 ≤ n ∧ n < 65536 := by simp [Lit.wf, IntKind.bits, IntKind.signed, IntKind.min, IntKind.max] at h; omega
theorem wf_u8 {n : Int} (h : (Lit.int .u8 n).wf = true) : 0 ≤ n ∧ n < 256 := by simp [Lit.wf, IntKind.bits, IntKind.signed, IntKind.min, IntKind.max] at h; omega
end Go.Proofs.YthjdhmnmlblpfaaR
