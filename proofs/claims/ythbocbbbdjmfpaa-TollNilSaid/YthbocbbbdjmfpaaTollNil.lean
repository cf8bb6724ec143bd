/-
  Every method of a nil toll answers as the document says (TollNil), whatever the number.
-/
import Derived.Test.YthbocbbbdjmfpaaRow0
import Derived.Test.YthbocbbbdjmfpaaLaw17a
namespace Go.Proofs.Ythbocbbbdjmfpaa
open Go.ChangeShapes Go.WideShapes Go.ChangeAt Go.RowKit Go.Fp
set_option maxRecDepth 100000 in
theorem TollNil_lifted (os : Os) (started : os.Started) (H : Type) (enc : TypeId × Value → H) :
    ReturnsInHanded {} Try.checked os 4 .any (Rows.tollNilSpec.pre6 enc Try.prog Try.f4 Rows.tollNilRow.domain false) (Rows.tollNilSpec.post enc Try.prog Try.f4 false true false false) := by
  refine returnsInHanded_of_change (C := Try.checked) Try.own started (by kernel_rfl) Try.func4
    (ChangeSpec.witness6 (enc := enc) (C := Try.checked) false ⟨#[], #[.int .i64 0], []⟩ 8 (by kernel_rfl) (by kernel_rfl) (by kernel_rfl) (by kernel_rfl)) ?_
  intro W base args ds gs before hval0 hW _ _
  obtain ⟨m, hm, hA⟩ : ∃ m, 0 ≤ m ∧ Args enc Try.prog W m base Try.f4.params.toList args.toList := by
    obtain ⟨p, q, hA0, hV0, _, _, _⟩ := hW
    exact ⟨_, Nat.zero_le _, args_of (Nat.le_refl _) (fun j t v ht hv => hval0 j t v (by simpa using ht) (by simpa using hv)) hA0⟩
  rw [Try.params4] at hA
  obtain ⟨v_n, r_n, e_n, y_n, hA⟩ := hA.cons
  have hA := hA.nil
  obtain rfl : args = #[v_n] := by cases args; simp_all
  clear hA e_n
  obtain ⟨n, rfl, _⟩ := y_n.int Try.underlying3
  have hwalk : Calls Try.prog 4 _ W fun e W' => e = .returned (.bool true) ∧ Fr [] W W' := law17_Nil n W
  refine hwalk.mono fun e W' ⟨he, hf⟩ => ⟨_, he, law_post (s := Rows.tollNilSpec) Try.laidOut rfl (fun ds hl => ?_) rfl Try.underlying4 (by kernel_rfl) hW (hf.below (Nat.le_refl _) (by simp))⟩
  match ds, hl with
  | [d0], _ => rfl

theorem TollNil_holds : Rows.TollNilSaid :=
  OpenClaim.holds_of_wide 4 Try.f4 rfl rfl rfl rfl rfl rfl rfl ⟨rfl, rfl, rfl, rfl, rfl⟩ rfl rfl rfl rfl rfl (by kernel_rfl) Try.func4 (by kernel_rfl)
    (of_decide_eq_true (by kernel_rfl)) (by unfold Func.isWrapper; first | (rw [if_pos (by decide +kernel)]; kernel_rfl) | (rw [if_neg (by decide +kernel)]; exact ⟨rfl, rfl⟩))
    (fun os started H enc _ => TollNil_lifted os started H enc)

end Go.Proofs.Ythbocbbbdjmfpaa
