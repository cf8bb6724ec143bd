/-
  What was laid is taken as it was, and nothing is left (FieldBack), whatever the fields are.
-/
import Derived.Test.YthinfgblapfekaaOpn03
import Derived.Test.YthinfgblapfekaaFBack03
namespace Go.Proofs.Ythinfgblapfekaa
open Go.ChangeShapes Go.WideShapes Go.ChangeAt Go.RowKit Go.Fp
set_option maxRecDepth 100000 in
theorem FieldBack_lifted (os : Os) (started : os.Started) (H : Type) (enc : TypeId × Value → H) :
    ReturnsInHanded {} Try.checked os 7 .any (Rows.fieldBackSpec.pre6 enc Try.prog Try.f7 Rows.fieldBackRow.domain false) (Rows.fieldBackSpec.post enc Try.prog Try.f7 false true false false) := by
  refine returnsInHanded_of_change (C := Try.checked) Try.own started (by kernel_rfl) Try.func7
    (ChangeSpec.witness6 (enc := enc) (C := Try.checked) false ⟨#[], #[.slice none 0 0], []⟩ 8 (by kernel_rfl) (by kernel_rfl) (by kernel_rfl) (by kernel_rfl)) ?_
  intro W base args ds gs before hval0 hW _ _
  obtain ⟨m, hm, hA⟩ : ∃ m, 0 ≤ m ∧ Args enc Try.prog W m base Try.f7.params.toList args.toList := by
    obtain ⟨p, q, hA0, hV0, _, _, _⟩ := hW
    exact ⟨_, Nat.zero_le _, args_of (Nat.le_refl _) (fun j t v ht hv => hval0 j t v (by simpa using ht) (by simpa using hv)) hA0⟩
  rw [Try.params7] at hA
  obtain ⟨v_l, r_l, e_l, y_l, hA⟩ := hA.cons
  have hA := hA.nil
  obtain rfl : args = #[v_l] := by cases args; simp_all
  clear hA e_l
  obtain ⟨x, c, its, rfl, _, _, _, _, hr, hq⟩ := itms_open (y_l.slc Try.underlying22)
  have hI := itmR its hq (itmObs its) (fun _ h => h)
  have hT : Tk [] W W [] (Itms x its :: itmObs its) := Tk.start W fun o ho => by
    rcases List.mem_cons.1 ho with rfl | ho
    · obtain ⟨f, h, _⟩ := of_rd hr; exact ⟨f, h⟩
    · exact itmObs_start its hq o ho
  have hwalk : Calls Try.prog 7 _ W fun e W' => e = .returned (.bool true) ∧ Fr [] W W' := law03_FBack x c its W hI hT
  refine hwalk.mono fun e W' ⟨he, hf⟩ => ⟨_, he, law_post (s := Rows.fieldBackSpec) Try.laidOut rfl (fun ds hl => ?_) rfl Try.underlying4 (by kernel_rfl) hW (hf.below (Nat.le_refl _) (by simp))⟩
  match ds, hl with
  | [d0], _ => rfl

theorem FieldBack_holds : Rows.FieldBackSaid :=
  OpenClaim.holds_of_wide 7 Try.f7 rfl rfl rfl rfl rfl rfl rfl ⟨rfl, rfl, rfl, rfl, rfl⟩ rfl rfl rfl rfl rfl (by kernel_rfl) Try.func7 (by kernel_rfl)
    (of_decide_eq_true (by kernel_rfl)) (by unfold Func.isWrapper; first | (rw [if_pos (by decide +kernel)]; kernel_rfl) | (rw [if_neg (by decide +kernel)]; exact ⟨rfl, rfl⟩))
    (fun os started H enc _ => FieldBack_lifted os started H enc)

end Go.Proofs.Ythinfgblapfekaa
