/-
  A frame that is admitted, or refused by its tag or number, has cost its sender's toll just what its tag costs, which is no more than the worst (BudgetPays), whatever comes in.
-/
import Derived.Test.YtfcmjlbfoindaaaLPay31
namespace Go.Proofs.Ytfcmjlbfoindaaa
open Go.ChangeShapes Go.WideShapes Go.ChangeAt Go.RowKit Go.Fp
set_option maxHeartbeats 4000000
set_option maxRecDepth 100000 in
theorem BudgetPays_lifted (os : Os) (started : os.Started) (H : Type) (enc : TypeId × Value → H) :
    ReturnsInHanded {} Try.checked os 6 .any (Rows.budgetPaysSpec.pre6 enc Try.prog Try.f6 Rows.budgetPaysRow.domain false) (Rows.budgetPaysSpec.post enc Try.prog Try.f6 false true false false) := by
  refine returnsInHanded_of_change (C := Try.checked) Try.own started (by kernel_rfl) Try.func6
    (ChangeSpec.witness6 (enc := enc) (C := Try.checked) false ⟨#[], #[.agg #[.int .u8 0, .int .u8 0, .int .u8 0, .int .u8 0, .int .u8 0, .int .u8 0, .int .u8 0, .int .u8 0, .int .u8 0, .int .u8 0, .int .u8 0, .int .u8 0, .int .u8 0, .int .u8 0, .int .u8 0, .int .u8 0, .int .u8 0, .int .u8 0, .int .u8 0, .int .u8 0, .int .u8 0, .int .u8 0, .int .u8 0, .int .u8 0, .int .u8 0, .int .u8 0, .int .u8 0, .int .u8 0, .int .u8 0, .int .u8 0, .int .u8 0, .int .u8 0], .slice none 0 0, .slice none 0 0], []⟩ 8 (by kernel_rfl) (by kernel_rfl) (by kernel_rfl) (by kernel_rfl)) ?_
  intro W base args ds gs before hval0 hW _ _
  obtain ⟨m, hm, hA⟩ : ∃ m, 0 ≤ m ∧ Args enc Try.prog W m base Try.f6.params.toList args.toList := by
    obtain ⟨p, q, hA0, hV0, _, _, _⟩ := hW
    exact ⟨_, Nat.zero_le _, args_of (Nat.le_refl _) (fun j t v ht hv => hval0 j t v (by simpa using ht) (by simpa using hv)) hA0⟩
  rw [Try.params6] at hA
  obtain ⟨v_k, r_k, e_k, y_k, hA⟩ := hA.cons
  obtain ⟨v_s, r_s, e_s, y_s, hA⟩ := hA.cons
  obtain ⟨v_t, r_t, e_t, y_t, hA⟩ := hA.cons
  have hA := hA.nil
  obtain rfl : args = #[v_k, v_s, v_t] := by cases args; simp_all
  clear hA e_k e_s e_t
  obtain ⟨ks, rfl, hkr⟩ := y_k.flat 3 (ks := List.replicate 32 (.int .u8)) (by kernel_rfl) (by kernel_rfl)
  obtain ⟨key, hkl, hks⟩ := All2.bytes hkr
  obtain rfl : ks = (u8s key).toArray := by rw [← hks]
  obtain ⟨x, c, os, rfl, hlc, hcm, hro, hq⟩ := bdys_open (y_s.slc Try.underlying96)
  obtain ⟨y, d, tn, rfl, _, _, _, _, hry⟩ := bytes_open (by kernel_rfl) (by kernel_rfl) (y_t.slc Try.underlying76)
  have hT : Tk [] W W [] (Ob.rd y tn.length 1 (u8s tn) :: Ob.rd x os.length 1 (os.map Bdy.cell) :: os.map Bdy.ob) := Tk.start W fun o ho => by
    rcases List.mem_cons.1 ho with rfl | ho
    · obtain ⟨f, h, _⟩ := of_rd hry; exact ⟨f, h⟩
    rcases List.mem_cons.1 ho with rfl | ho
    · obtain ⟨f, h, _⟩ := of_rd hro; exact ⟨f, h⟩
    · obtain ⟨e, he, rfl⟩ := List.mem_map.1 ho
      obtain ⟨f, h, _⟩ := of_rd (hq e he).2; exact ⟨f, h⟩
  have hwalk : Calls Try.prog 6 _ W fun e W' => e = .returned (.bool true) ∧ Fr [] W W' := law31_Pays key hkl x c os y d tn W (fun o ho => ⟨(hq o ho).1, List.mem_cons_of_mem _ (List.mem_cons_of_mem _ (List.mem_map.2 ⟨o, ho, rfl⟩))⟩) (List.mem_cons_of_mem _ (List.mem_cons_self ..)) (List.mem_cons_self ..) hT
  refine hwalk.mono fun e W' ⟨he, hf⟩ => ⟨_, he, law_post (s := Rows.budgetPaysSpec) Try.laidOut rfl (fun ds hl => ?_) rfl Try.underlying4 (by kernel_rfl) hW (hf.below (Nat.le_refl _) (by simp))⟩
  match ds, hl with
  | [d0, d1, d2], _ => rfl

theorem BudgetPays_holds : Rows.BudgetPaysSaid :=
  OpenClaim.holds_of_wide 6 Try.f6 rfl rfl rfl rfl rfl rfl rfl ⟨rfl, rfl, rfl, rfl, rfl⟩ rfl rfl rfl rfl rfl (by kernel_rfl) Try.func6 (by kernel_rfl)
    (of_decide_eq_true (by kernel_rfl)) (by unfold Func.isWrapper; first | (rw [if_pos (by decide +kernel)]; kernel_rfl) | (rw [if_neg (by decide +kernel)]; exact ⟨rfl, rfl⟩))
    (fun os started H enc _ => BudgetPays_lifted os started H enc)

end Go.Proofs.Ytfcmjlbfoindaaa
