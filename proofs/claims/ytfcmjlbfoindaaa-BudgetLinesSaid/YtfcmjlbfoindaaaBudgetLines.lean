/-
  What each kind of frame costs at most, of any rules, or why that isn't told, and the worst, are the document's (BudgetLines), whatever the arguments are.
-/
import Derived.Test.YtfcmjlbfoindaaaRow0
import Derived.Test.YtfcmjlbfoindaaaBudLaw
namespace Go.Proofs.Ytfcmjlbfoindaaa
open Go.ChangeShapes Go.WideShapes Go.ChangeAt Go.RowKit Go.Fp
set_option maxRecDepth 100000 in
theorem BudgetLines_lifted (os : Os) (started : os.Started) (H : Type) (enc : TypeId × Value → H) :
    ReturnsInHanded {} Try.checked os 3 .any (Rows.budgetLinesSpec.pre6 enc Try.prog Try.f3 Rows.budgetLinesRow.domain false) (Rows.budgetLinesSpec.post enc Try.prog Try.f3 false true false false) := by
  refine returnsInHanded_of_change (C := Try.checked) Try.own started (by kernel_rfl) Try.func3
    (ChangeSpec.witness6 (enc := enc) (C := Try.checked) false ⟨#[], #[.agg #[.int .i64 0, .int .i64 0, .int .i64 0], .int .i64 0, .int .i64 0], []⟩ 8 (by kernel_rfl) (by kernel_rfl) (by kernel_rfl) (by kernel_rfl)) ?_
  intro W base args ds gs before hval0 hW _ _
  obtain ⟨m, hm, hA⟩ : ∃ m, 0 ≤ m ∧ Args enc Try.prog W m base Try.f3.params.toList args.toList := by
    obtain ⟨p, q, hA0, hV0, _, _, _⟩ := hW
    exact ⟨_, Nat.zero_le _, args_of (Nat.le_refl _) (fun j t v ht hv => hval0 j t v (by simpa using ht) (by simpa using hv)) hA0⟩
  rw [Try.params3] at hA
  obtain ⟨v_r, r_r, e_r, y_r, hA⟩ := hA.cons
  obtain ⟨v_m, r_m, e_m, y_m, hA⟩ := hA.cons
  obtain ⟨v_k, r_k, e_k, y_k, hA⟩ := hA.cons
  have hA := hA.nil
  obtain rfl : args = #[v_r, v_m, v_k] := by cases args; simp_all
  clear hA e_r e_m e_k
  obtain ⟨cs, rfl, hr⟩ := y_r.flat 3 (ks := [.int .i64, .int .i64, .int .i64]) (by kernel_rfl) (by kernel_rfl)
  obtain ⟨c_hr_0, l_hr_0, q_hr, ⟨r0, rfl, w_r0⟩, hr_0⟩ := hr.cons
  obtain ⟨c_hr_1, l_hr_1, rfl, ⟨r1, rfl, w_r1⟩, hr_1⟩ := hr_0.cons
  obtain ⟨c_hr_2, l_hr_2, rfl, ⟨r2, rfl, w_r2⟩, hr_2⟩ := hr_1.cons
  have z_hr := hr_2.nil
  subst z_hr
  obtain rfl : cs = #[.int .i64 r0, .int .i64 r1, .int .i64 r2] := by cases cs; simp_all
  obtain ⟨m, rfl, _⟩ := y_m.int Try.underlying3
  obtain ⟨k, rfl, _⟩ := y_k.int Try.underlying3
  have hwalk : Calls Try.prog 3 _ W fun e W' => e = .returned (.bool true) ∧ Fr [] W W' := law31_Lines r0 r1 r2 m k W
  refine hwalk.mono fun e W' ⟨he, hf⟩ => ⟨_, he, law_post (s := Rows.budgetLinesSpec) Try.laidOut rfl (fun ds hl => ?_) rfl Try.underlying4 (by kernel_rfl) hW (hf.below (Nat.le_refl _) (by simp))⟩
  match ds, hl with
  | [d0, d1, d2], _ => rfl

theorem BudgetLines_holds : Rows.BudgetLinesSaid :=
  OpenClaim.holds_of_wide 3 Try.f3 rfl rfl rfl rfl rfl rfl rfl ⟨rfl, rfl, rfl, rfl, rfl⟩ rfl rfl rfl rfl rfl (by kernel_rfl) Try.func3 (by kernel_rfl)
    (of_decide_eq_true (by kernel_rfl)) (by unfold Func.isWrapper; first | (rw [if_pos (by decide +kernel)]; kernel_rfl) | (rw [if_neg (by decide +kernel)]; exact ⟨rfl, rfl⟩))
    (fun os started H enc _ => BudgetLines_lifted os started H enc)

end Go.Proofs.Ytfcmjlbfoindaaa
