/- THE WITNESS of BudgetSizes: a start that fits. -/
import Derived.Test.YtfcmjlbfoindaaaBase
import Derived.Test.YtfcmjlbfoindaaaLSiz31
namespace Go.Proofs.Ytfcmjlbfoindaaa
open Go.ChangeShapes Go.WideShapes Go.ChangeAt Go.RowKit Go.Fp
set_option maxHeartbeats 4000000
set_option maxRecDepth 100000
def zsg : List Value := ([Value.int .i64 0, Value.int .u32 0] : List Value) ++ List.replicate 1120 (Value.int .u8 0)
def sizIn : Input := ⟨#[], #[.agg #[.bool false, .slice none 0 0], .agg #[.int .u8 0, .slice none 0 0], .agg zsg.toArray], []⟩
theorem zsg_len : zsg.length = 1122 := by unfold zsg; rw [List.length_append, List.length_replicate]; rfl
theorem zsg_ts : Try.prog.cellTypes Try.prog.depth 67 = some (3 :: 61 :: List.replicate 1120 5) := by kernel_rfl
theorem zsg_of : Try.prog.cellsOf 67 = 1122 := by kernel_rfl
theorem big_ok (w : World) (base : Nat) : Value.okWide Try.prog w .any base 67 (.agg zsg.toArray) := by
  unfold Value.okWide
  rw [Try.underlying67]
  refine ⟨_, rfl, by rw [zsg_of, List.size_toArray, zsg_len], _, zsg_ts, ⟨1, by rw [List.size_toArray, zsg_len, List.length_cons, List.length_cons, List.length_replicate]⟩, fun i v hv => ?_⟩
  rw [List.getElem?_toArray] at hv
  have hi : i < 1122 := by have := (List.getElem?_eq_some_iff.1 hv).1; rw [zsg_len] at this; exact this
  rw [show (3 :: 61 :: List.replicate 1120 5 : List Nat).length = 1122 by rw [List.length_cons, List.length_cons, List.length_replicate], Nat.mod_eq_of_lt hi]
  match i, hi, hv with
  | 0, _, hv =>
    obtain rfl : v = .int .i64 0 := by have : some (Value.int .i64 0) = some v := hv; exact (Option.some.inj this).symm
    exact ⟨_, rfl, Cell.okWide_of_okWideB (by kernel_rfl)⟩
  | 1, _, hv =>
    obtain rfl : v = .int .u32 0 := by have : some (Value.int .u32 0) = some v := hv; exact (Option.some.inj this).symm
    exact ⟨_, rfl, Cell.okWide_of_okWideB (by kernel_rfl)⟩
  | i + 2, hi, hv =>
    have h2 : (List.replicate 1120 (Value.int .u8 0))[i]? = some v := hv
    rw [List.getElem?_replicate, if_pos (by omega)] at h2
    obtain rfl := Option.some.inj h2
    refine ⟨5, ?_, Cell.okWide_of_okWideB (by kernel_rfl)⟩
    show (List.replicate 1120 5)[i]? = some 5
    rw [List.getElem?_replicate, if_pos (by omega)]
theorem siz_w1 (os : Os) : (World.plainHolding Try.prog os sizIn).variablesB Try.prog = true := by kernel_rfl
theorem siz_w2 (os : Os) : ((World.plainHolding Try.prog os sizIn).heap.toList.drop Try.checked.prog.globals.size).take ((begin Try.checked.prog (fun _ _ => 0) default).world.heap.size - Try.checked.prog.globals.size) =
      (begin Try.checked.prog (fun _ _ => 0) default).world.heap.toList.drop Try.checked.prog.globals.size := by kernel_rfl
theorem siz_w4 (os : Os) (H : Type) (enc : TypeId × Value → H) : Rows.budgetSizesSpec.preB enc Try.prog Try.f5 Rows.budgetSizesRow.domain false (World.plainHolding Try.prog os sizIn).memory sizIn.args 8 = true := by kernel_rfl
theorem siz_w5 (os : Os) (H : Type) (enc : TypeId × Value → H) : Rows.budgetSizesSpec.sizedB enc Try.prog Try.f5 false (World.plainHolding Try.prog os sizIn).memory sizIn.args 8 = true := by kernel_rfl
theorem siz_ok (w : World) (base : Nat) : Input.okWide Try.prog w .any base 5 ⟨#[], sizIn.args, []⟩ := by
  refine ⟨fun o ho => by simp at ho, by simp, by kernel_rfl, _, Try.func5, rfl, rfl, rfl, rfl, fun j t v ht hv => ?_⟩
  match j, ht, hv with
  | 0, ht, hv =>
    obtain rfl := Option.some.inj ht
    obtain rfl := Option.some.inj hv
    exact Value.okWide_of_okWideB (by kernel_rfl)
  | 1, ht, hv =>
    obtain rfl := Option.some.inj ht
    obtain rfl := Option.some.inj hv
    exact Value.okWide_of_okWideB (by kernel_rfl)
  | 2, ht, hv =>
    obtain rfl := Option.some.inj ht
    obtain rfl := Option.some.inj hv
    exact big_ok w base
  | j + 3, ht, _ => exact absurd ht (by simp [Try.params5])
end Go.Proofs.Ytfcmjlbfoindaaa
