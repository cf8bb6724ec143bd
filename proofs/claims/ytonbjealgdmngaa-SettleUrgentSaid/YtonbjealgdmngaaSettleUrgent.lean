/-
  Urgent news are told at once; others not before they have settled, but with all (SettleUrgent), whatever the arguments are.
-/
import Derived.Test.YtonbjealgdmngaaRow0
import Derived.Test.YtonbjealgdmngaaUrgent20
namespace Go.Proofs.Ytonbjealgdmngaa
open Go.ChangeShapes Go.WideShapes Go.ChangeAt Go.RowKit Go.Fp
set_option maxRecDepth 100000 in
theorem SettleUrgent_lifted (os : Os) (started : os.Started) (H : Type) (enc : TypeId × Value → H) :
    ReturnsInHanded {} Try.checked os 4 .any (Rows.settleUrgentSpec.pre6 enc Try.prog Try.f4 Rows.settleUrgentRow.domain false) (Rows.settleUrgentSpec.post enc Try.prog Try.f4 false true false false) := by
  refine returnsInHanded_of_change (C := Try.checked) Try.own started (by kernel_rfl) Try.func4
    (ChangeSpec.witness6 (enc := enc) (C := Try.checked) false ⟨#[], #[.agg #[.int .i64 0, .int .i64 0], .agg #[.int .u32 0, .int .u32 0, .int .i64 0], .int .i64 0, .int .u8 0], []⟩ 8 (by kernel_rfl) (by kernel_rfl) (by kernel_rfl) (by kernel_rfl)) ?_
  intro W base args ds gs before hval0 hW _ _
  obtain ⟨m, hm, hA⟩ : ∃ m, 0 ≤ m ∧ Args enc Try.prog W m base Try.f4.params.toList args.toList := by
    obtain ⟨p, q, hA0, hV0, _, _, _⟩ := hW
    exact ⟨_, Nat.zero_le _, args_of (Nat.le_refl _) (fun j t v ht hv => hval0 j t v (by simpa using ht) (by simpa using hv)) hA0⟩
  rw [Try.params4] at hA
  obtain ⟨v_r, r_r, e_r, y_r, hA⟩ := hA.cons
  obtain ⟨v_k, r_k, e_k, y_k, hA⟩ := hA.cons
  obtain ⟨v_d, r_d, e_d, y_d, hA⟩ := hA.cons
  obtain ⟨v_t, r_t, e_t, y_t, hA⟩ := hA.cons
  have hA := hA.nil
  obtain rfl : args = #[v_r, v_k, v_d, v_t] := by cases args; simp_all
  clear hA e_r e_k e_d e_t
  obtain ⟨cs, rfl, hr⟩ := y_r.flat 3 (ks := [.int .i64, .int .i64]) (by kernel_rfl) (by kernel_rfl)
  obtain ⟨c_hr_0, l_hr_0, q_hr, ⟨r0, rfl, w_r0⟩, hr_0⟩ := hr.cons
  obtain ⟨c_hr_1, l_hr_1, rfl, ⟨r1, rfl, w_r1⟩, hr_1⟩ := hr_0.cons
  have z_hr := hr_1.nil
  subst z_hr
  obtain rfl : cs = #[.int .i64 r0, .int .i64 r1] := by cases cs; simp_all
  obtain ⟨cs, rfl, hk⟩ := y_k.flat 3 (ks := [.int .u32, .int .u32, .int .i64]) (by kernel_rfl) (by kernel_rfl)
  obtain ⟨c_hk_0, l_hk_0, q_hk, ⟨e, rfl, w_e⟩, hk_0⟩ := hk.cons
  obtain ⟨c_hk_1, l_hk_1, rfl, ⟨s, rfl, w_s⟩, hk_1⟩ := hk_0.cons
  obtain ⟨c_hk_2, l_hk_2, rfl, ⟨m, rfl, w_m⟩, hk_2⟩ := hk_1.cons
  have z_hk := hk_2.nil
  subst z_hk
  obtain rfl : cs = #[.int .u32 e, .int .u32 s, .int .i64 m] := by cases cs; simp_all
  obtain ⟨d, rfl, _⟩ := y_d.int Try.underlying3
  obtain ⟨t, rfl, w_t⟩ := y_t.int Try.underlying5
  have wt := wf_u8 w_t
  have hwalk : Calls Try.prog 4 _ W fun e W' => e = .returned (.bool true) ∧ Fr [] W W' := law20_Urgent r0 r1 e s m d t W (by omega) (by omega)
  refine hwalk.mono fun e W' ⟨he, hf⟩ => ⟨_, he, law_post (s := Rows.settleUrgentSpec) Try.laidOut rfl (fun ds hl => ?_) rfl Try.underlying4 (by kernel_rfl) hW (hf.below (Nat.le_refl _) (by simp))⟩
  match ds, hl with
  | [d0, d1, d2, d3], _ => rfl

theorem SettleUrgent_holds : Rows.SettleUrgentSaid :=
  OpenClaim.holds_of_wide 4 Try.f4 rfl rfl rfl rfl rfl rfl rfl ⟨rfl, rfl, rfl, rfl, rfl⟩ rfl rfl rfl rfl rfl (by kernel_rfl) Try.func4 (by kernel_rfl)
    (of_decide_eq_true (by kernel_rfl)) (by unfold Func.isWrapper; first | (rw [if_pos (by decide +kernel)]; kernel_rfl) | (rw [if_neg (by decide +kernel)]; exact ⟨rfl, rfl⟩))
    (fun os started H enc _ => SettleUrgent_lifted os started H enc)

end Go.Proofs.Ytonbjealgdmngaa
