/-
  Behind an error all is zero, and the error stays the first one (FieldStops), where what comes in is of bulk at most 1048576.
-/
import Derived.Test.YthinfgblapfekaaOpn03
import Derived.Test.YthinfgblapfekaaFStop03
namespace Go.Proofs.Ythinfgblapfekaa
open Go.ChangeShapes Go.WideShapes Go.ChangeAt Go.RowKit Go.Fp
set_option maxRecDepth 100000 in
theorem FieldStops_lifted (os : Os) (started : os.Started) (H : Type) (enc : TypeId × Value → H) (F : Stop.Interp) :
    ReturnsInHanded {} Try.checked os 5 .any ((Rows.OpenSpec.upto Rows.fieldStopsSpec).pre6 enc Try.prog Try.f5 Rows.fieldStopsUptoRow.domain false) (((Rows.OpenSpec.upto Rows.fieldStopsSpec).at F).post enc Try.prog Try.f5 false true false false) := by
  refine returnsInHanded_of_cond (C := Try.checked) (s := (Rows.OpenSpec.upto Rows.fieldStopsSpec)) (k := Rows.uptoSmall) rfl Try.own started (by kernel_rfl) Try.func5
    (OpenSpec.witness (enc := enc) (C := Try.checked) (s := (Rows.OpenSpec.upto Rows.fieldStopsSpec)) (k := Rows.uptoSmall) rfl false ⟨#[], #[.slice none 0 0, .slice none 0 0, .int .i64 0, .slice none 0 0], []⟩ 8 (by kernel_rfl) (by kernel_rfl) (by kernel_rfl)
      (x := ([.nil, .nil, .lit (.int .i64 0), .nil], [], [])) (by kernel_rfl) rfl (by kernel_rfl)) ?_
  intro W base args ds gs before hval0 hW _ hk _
  obtain ⟨m, hm, hA⟩ : ∃ m, m ≤ 1048576 ∧ Args enc Try.prog W m base Try.f5.params.toList args.toList := by
    obtain ⟨p, q, hA0, hV0, _, _, _⟩ := hW
    have hg : gs = [] := by cases gs with | nil => rfl | cons g gs => exact hV0.elim
    subst hg
    rw [List.append_nil] at hk
    exact ⟨_, of_decide_eq_true hk, args_of (Nat.le_refl _) (fun j t v ht hv => hval0 j t v (by simpa using ht) (by simpa using hv)) hA0⟩
  rw [Try.params5] at hA
  obtain ⟨v_b, r_b, e_b, y_b, hA⟩ := hA.cons
  obtain ⟨v_l, r_l, e_l, y_l, hA⟩ := hA.cons
  obtain ⟨v_e, r_e, e_e, y_e, hA⟩ := hA.cons
  obtain ⟨v_k, r_k, e_k, y_k, hA⟩ := hA.cons
  have hA := hA.nil
  obtain rfl : args = #[v_b, v_l, v_e, v_k] := by cases args; simp_all
  clear hA e_b e_l e_e e_k
  obtain ⟨xb, cb, bs, rfl, _, _, _, hxb, hrb⟩ := bytes_open (by kernel_rfl) (by kernel_rfl) (y_b.slc Try.underlying26)
  obtain ⟨x, c, its, rfl, _, _, _, _, hr, hq⟩ := itms_open (y_l.slc Try.underlying22)
  obtain ⟨e, rfl, _⟩ := y_e.int Try.underlying3
  obtain ⟨x2, c2, its2, rfl, _, _, _, _, hr2, hq2⟩ := itms_open (y_k.slc Try.underlying22)
  have hI := itmR its hq (itmObs its ++ itmObs its2) (fun _ h => List.mem_append_left _ h)
  have hI2 := itmR its2 hq2 (itmObs its ++ itmObs its2) (fun _ h => List.mem_append_right _ h)
  have hT : Tk [] W W [] (Ob.rd xb bs.length 1 (u8s bs) :: Itms x its :: Itms x2 its2 :: (itmObs its ++ itmObs its2)) := Tk.start W fun o ho => by
    rcases List.mem_cons.1 ho with rfl | ho
    · obtain ⟨f, h, _⟩ := of_rd hrb; exact ⟨f, h⟩
    rcases List.mem_cons.1 ho with rfl | ho
    · obtain ⟨f, h, _⟩ := of_rd hr; exact ⟨f, h⟩
    rcases List.mem_cons.1 ho with rfl | ho
    · obtain ⟨f, h, _⟩ := of_rd hr2; exact ⟨f, h⟩
    rcases List.mem_append.1 ho with ho | ho
    · exact itmObs_start its hq o ho
    · exact itmObs_start its2 hq2 o ho
  have hwalk : Calls Try.prog 5 _ W fun e W' => e = .returned (.bool true) ∧ Fr [] W W' := law03_FStops xb cb bs (by omega) hxb x c its (by omega) e x2 c2 its2 (by omega) W hI hI2 hT
  refine hwalk.mono fun e W' ⟨he, hf⟩ => ⟨_, he, law_post (s := Rows.fieldStopsSpec) Try.laidOut rfl (fun ds hl => ?_) rfl Try.underlying4 (by kernel_rfl) hW (hf.below (Nat.le_refl _) (by simp))⟩
  match ds, hl with
  | [d0, d1, d2, d3], _ => rfl

theorem FieldStops_holds : Rows.FieldStopsUptoSaid :=
  OpenClaim.holds_of_cond 5 Try.f5 rfl rfl rfl rfl rfl rfl rfl ⟨rfl, rfl, rfl, rfl, rfl⟩ rfl rfl rfl rfl rfl (by kernel_rfl) Try.func5 (by kernel_rfl)
    (of_decide_eq_true (by kernel_rfl)) (by unfold Func.isWrapper; first | (rw [if_pos (by decide +kernel)]; kernel_rfl) | (rw [if_neg (by decide +kernel)]; exact ⟨rfl, rfl⟩))
    (fun os started H enc _ F => FieldStops_lifted os started H enc F)

end Go.Proofs.Ythinfgblapfekaa
