/-
  What a neighbour sends in a tick at most, and which rates are enough, is the document's answer (BudgetTicks), whatever the arguments are.
-/
import Derived.Test.YtfcmjlbfoindaaaRow0
import Derived.Test.YtfcmjlbfoindaaaBudTick
namespace Go.Proofs.Ytfcmjlbfoindaaa
open Go.ChangeShapes Go.WideShapes Go.ChangeAt Go.RowKit Go.Fp
set_option maxRecDepth 100000 in
theorem BudgetTicks_lifted (os : Os) (started : os.Started) (H : Type) (enc : TypeId × Value → H) :
    ReturnsInHanded {} Try.checked os 4 .any (Rows.budgetTicksSpec.pre6 enc Try.prog Try.f4 Rows.budgetTicksRow.domain false) (Rows.budgetTicksSpec.post enc Try.prog Try.f4 false true false false) := by
  refine returnsInHanded_of_change (C := Try.checked) Try.own started (by kernel_rfl) Try.func4
    (ChangeSpec.witness6 (enc := enc) (C := Try.checked) false ⟨#[], #[.agg #[.int .i64 0, .int .i64 0, .int .i64 0], .int .i64 0, .int .i64 0, .agg #[.int .i64 0, .int .i64 0, .int .i64 0, .int .i64 0]], []⟩ 8 (by kernel_rfl) (by kernel_rfl) (by kernel_rfl) (by kernel_rfl)) ?_
  intro W base args ds gs before hval0 hW _ _
  obtain ⟨m, hm, hA⟩ : ∃ m, 0 ≤ m ∧ Args enc Try.prog W m base Try.f4.params.toList args.toList := by
    obtain ⟨p, q, hA0, hV0, _, _, _⟩ := hW
    exact ⟨_, Nat.zero_le _, args_of (Nat.le_refl _) (fun j t v ht hv => hval0 j t v (by simpa using ht) (by simpa using hv)) hA0⟩
  rw [Try.params4] at hA
  obtain ⟨v_r, r_r, e_r, y_r, hA⟩ := hA.cons
  obtain ⟨v_m, r_m, e_m, y_m, hA⟩ := hA.cons
  obtain ⟨v_n, r_n, e_n, y_n, hA⟩ := hA.cons
  obtain ⟨v_t, r_t, e_t, y_t, hA⟩ := hA.cons
  have hA := hA.nil
  obtain rfl : args = #[v_r, v_m, v_n, v_t] := by cases args; simp_all
  clear hA e_r e_m e_n e_t
  obtain ⟨cs, rfl, hr⟩ := y_r.flat 3 (ks := [.int .i64, .int .i64, .int .i64]) (by kernel_rfl) (by kernel_rfl)
  obtain ⟨c_hr_0, l_hr_0, q_hr, ⟨r0, rfl, w_r0⟩, hr_0⟩ := hr.cons
  obtain ⟨c_hr_1, l_hr_1, rfl, ⟨r1, rfl, w_r1⟩, hr_1⟩ := hr_0.cons
  obtain ⟨c_hr_2, l_hr_2, rfl, ⟨r2, rfl, w_r2⟩, hr_2⟩ := hr_1.cons
  have z_hr := hr_2.nil
  subst z_hr
  obtain rfl : cs = #[.int .i64 r0, .int .i64 r1, .int .i64 r2] := by cases cs; simp_all
  obtain ⟨m, rfl, _⟩ := y_m.int Try.underlying3
  obtain ⟨n, rfl, _⟩ := y_n.int Try.underlying3
  obtain ⟨ct, rfl, ht⟩ := y_t.flat 3 (ks := [.int .i64, .int .i64, .int .i64, .int .i64]) (by kernel_rfl) (by kernel_rfl)
  obtain ⟨c_ht_0, l_ht_0, q_ht, ⟨t0, rfl, w_t0⟩, ht_0⟩ := ht.cons
  obtain ⟨c_ht_1, l_ht_1, rfl, ⟨t1, rfl, w_t1⟩, ht_1⟩ := ht_0.cons
  obtain ⟨c_ht_2, l_ht_2, rfl, ⟨t2, rfl, w_t2⟩, ht_2⟩ := ht_1.cons
  obtain ⟨c_ht_3, l_ht_3, rfl, ⟨t3, rfl, w_t3⟩, ht_3⟩ := ht_2.cons
  have z_ht := ht_3.nil
  subst z_ht
  obtain rfl : ct = #[.int .i64 t0, .int .i64 t1, .int .i64 t2, .int .i64 t3] := by cases ct; simp_all
  have hwalk : Calls Try.prog 4 _ W fun e W' => e = .returned (.bool true) ∧ Fr [] W W' := law31_Ticks r0 r1 r2 m n t0 t1 t2 t3 W
  refine hwalk.mono fun e W' ⟨he, hf⟩ => ⟨_, he, law_post (s := Rows.budgetTicksSpec) Try.laidOut rfl (fun ds hl => ?_) rfl Try.underlying4 (by kernel_rfl) hW (hf.below (Nat.le_refl _) (by simp))⟩
  match ds, hl with
  | [d0, d1, d2, d3], _ => rfl

theorem BudgetTicks_holds : Rows.BudgetTicksSaid :=
  OpenClaim.holds_of_wide 4 Try.f4 rfl rfl rfl rfl rfl rfl rfl ⟨rfl, rfl, rfl, rfl, rfl⟩ rfl rfl rfl rfl rfl (by kernel_rfl) Try.func4 (by kernel_rfl)
    (of_decide_eq_true (by kernel_rfl)) (by unfold Func.isWrapper; first | (rw [if_pos (by decide +kernel)]; kernel_rfl) | (rw [if_neg (by decide +kernel)]; exact ⟨rfl, rfl⟩))
    (fun os started H enc _ => BudgetTicks_lifted os started H enc)

end Go.Proofs.Ytfcmjlbfoindaaa
