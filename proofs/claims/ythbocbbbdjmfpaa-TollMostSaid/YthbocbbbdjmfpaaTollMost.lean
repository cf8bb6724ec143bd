/-
  How many blocks a neighbour may cost at most is the document's answer (TollMost), whatever the rates and the ticks.
-/
import Derived.Test.YthbocbbbdjmfpaaRow0
import Derived.Test.YthbocbbbdjmfpaaLaw17a
namespace Go.Proofs.Ythbocbbbdjmfpaa
open Go.ChangeShapes Go.WideShapes Go.ChangeAt Go.RowKit Go.Fp
set_option maxRecDepth 100000 in
theorem TollMost_lifted (os : Os) (started : os.Started) (H : Type) (enc : TypeId × Value → H) :
    ReturnsInHanded {} Try.checked os 6 .any (Rows.tollMostSpec.pre6 enc Try.prog Try.f6 Rows.tollMostRow.domain false) (Rows.tollMostSpec.post enc Try.prog Try.f6 false true false false) := by
  refine returnsInHanded_of_change (C := Try.checked) Try.own started (by kernel_rfl) Try.func6
    (ChangeSpec.witness6 (enc := enc) (C := Try.checked) false ⟨#[], #[.agg #[.int .i64 0, .int .i64 0, .int .i64 0, .int .i64 0], .int .i64 0], []⟩ 8 (by kernel_rfl) (by kernel_rfl) (by kernel_rfl) (by kernel_rfl)) ?_
  intro W base args ds gs before hval0 hW _ _
  obtain ⟨m, hm, hA⟩ : ∃ m, 0 ≤ m ∧ Args enc Try.prog W m base Try.f6.params.toList args.toList := by
    obtain ⟨p, q, hA0, hV0, _, _, _⟩ := hW
    exact ⟨_, Nat.zero_le _, args_of (Nat.le_refl _) (fun j t v ht hv => hval0 j t v (by simpa using ht) (by simpa using hv)) hA0⟩
  rw [Try.params6] at hA
  obtain ⟨v_r, r_r, e_r, y_r, hA⟩ := hA.cons
  obtain ⟨v_n, r_n, e_n, y_n, hA⟩ := hA.cons
  have hA := hA.nil
  obtain rfl : args = #[v_r, v_n] := by cases args; simp_all
  clear hA e_r e_n
  obtain ⟨n, rfl, _⟩ := y_n.int Try.underlying3
  obtain ⟨cs, rfl, hr⟩ := y_r.flat 3 (ks := [.int .i64, .int .i64, .int .i64, .int .i64]) (by kernel_rfl) (by kernel_rfl)
  obtain ⟨c_hr_0, l_hr_0, q_hr, ⟨f, rfl, w_f⟩, hr_0⟩ := hr.cons
  obtain ⟨c_hr_1, l_hr_1, rfl, ⟨ft, rfl, w_ft⟩, hr_1⟩ := hr_0.cons
  obtain ⟨c_hr_2, l_hr_2, rfl, ⟨b, rfl, w_b⟩, hr_2⟩ := hr_1.cons
  obtain ⟨c_hr_3, l_hr_3, rfl, ⟨bt, rfl, w_bt⟩, hr_3⟩ := hr_2.cons
  have z_hr := hr_3.nil
  subst z_hr
  obtain rfl : cs = #[.int .i64 f, .int .i64 ft, .int .i64 b, .int .i64 bt] := by cases cs; simp_all
  have hwalk : Calls Try.prog 6 _ W fun e W' => e = .returned (.bool true) ∧ Fr [] W W' := law17_Most ⟨f, ft, b, bt⟩ n W
  refine hwalk.mono fun e W' ⟨he, hf⟩ => ⟨_, he, law_post (s := Rows.tollMostSpec) Try.laidOut rfl (fun ds hl => ?_) rfl Try.underlying4 (by kernel_rfl) hW (hf.below (Nat.le_refl _) (by simp))⟩
  match ds, hl with
  | [d0, d1], _ => rfl

theorem TollMost_holds : Rows.TollMostSaid :=
  OpenClaim.holds_of_wide 6 Try.f6 rfl rfl rfl rfl rfl rfl rfl ⟨rfl, rfl, rfl, rfl, rfl⟩ rfl rfl rfl rfl rfl (by kernel_rfl) Try.func6 (by kernel_rfl)
    (of_decide_eq_true (by kernel_rfl)) (by unfold Func.isWrapper; first | (rw [if_pos (by decide +kernel)]; kernel_rfl) | (rw [if_neg (by decide +kernel)]; exact ⟨rfl, rfl⟩))
    (fun os started H enc _ => TollMost_lifted os started H enc)

end Go.Proofs.Ythbocbbbdjmfpaa
