/-
  Nil ones of the layer answer as they have to (FieldNil), whatever the arguments are.
-/
import Derived.Test.YthinfgblapfekaaRow0
import Derived.Test.YthinfgblapfekaaLawNil03
namespace Go.Proofs.Ythinfgblapfekaa
open Go.ChangeShapes Go.WideShapes Go.ChangeAt Go.RowKit Go.Fp
set_option maxRecDepth 100000 in
theorem FieldNil_lifted (os : Os) (started : os.Started) (H : Type) (enc : TypeId × Value → H) :
    ReturnsInHanded {} Try.checked os 6 .any (Rows.fieldNilSpec.pre6 enc Try.prog Try.f6 Rows.fieldNilRow.domain false) (Rows.fieldNilSpec.post enc Try.prog Try.f6 false true false false) := by
  refine returnsInHanded_of_change (C := Try.checked) Try.own started (by kernel_rfl) Try.func6
    (ChangeSpec.witness6 (enc := enc) (C := Try.checked) false ⟨#[], #[.int .u64 0, .slice none 0 0], []⟩ 8 (by kernel_rfl) (by kernel_rfl) (by kernel_rfl) (by kernel_rfl)) ?_
  intro W base args ds gs before hval0 hW _ _
  obtain ⟨m, hm, hA⟩ : ∃ m, 0 ≤ m ∧ Args enc Try.prog W m base Try.f6.params.toList args.toList := by
    obtain ⟨p, q, hA0, hV0, _, _, _⟩ := hW
    exact ⟨_, Nat.zero_le _, args_of (Nat.le_refl _) (fun j t v ht hv => hval0 j t v (by simpa using ht) (by simpa using hv)) hA0⟩
  rw [Try.params6] at hA
  obtain ⟨v_n, r_n, e_n, y_n, hA⟩ := hA.cons
  obtain ⟨v_p, r_p, e_p, y_p, hA⟩ := hA.cons
  have hA := hA.nil
  obtain rfl : args = #[v_n, v_p] := by cases args; simp_all
  clear hA e_n e_p
  obtain ⟨n, rfl, _⟩ := y_n.int Try.underlying41
  have hwalk : Calls Try.prog 6 _ W fun e W' => e = .returned (.bool true) ∧ Fr [] W W' := law03_Nil n v_p W
  refine hwalk.mono fun e W' ⟨he, hf⟩ => ⟨_, he, law_post (s := Rows.fieldNilSpec) Try.laidOut rfl (fun ds hl => ?_) rfl Try.underlying4 (by kernel_rfl) hW (hf.below (Nat.le_refl _) (by simp))⟩
  match ds, hl with
  | [d0, d1], _ => rfl

theorem FieldNil_holds : Rows.FieldNilSaid :=
  OpenClaim.holds_of_wide 6 Try.f6 rfl rfl rfl rfl rfl rfl rfl ⟨rfl, rfl, rfl, rfl, rfl⟩ rfl rfl rfl rfl rfl (by kernel_rfl) Try.func6 (by kernel_rfl)
    (of_decide_eq_true (by kernel_rfl)) (by unfold Func.isWrapper; first | (rw [if_pos (by decide +kernel)]; kernel_rfl) | (rw [if_neg (by decide +kernel)]; exact ⟨rfl, rfl⟩))
    (fun os started H enc _ => FieldNil_lifted os started H enc)

end Go.Proofs.Ythinfgblapfekaa
