/-
  No number is taken twice by a window, and no boot that was passed is taken again (WindowOnce), whatever the arguments are.
-/
import Derived.Test.YtbjopppgiklfkaaRow0
import Derived.Test.YtbjopppgiklfkaaWinOnce
namespace Go.Proofs.Ytbjopppgiklfkaa
open Go.ChangeShapes Go.WideShapes Go.ChangeAt Go.RowKit Go.Fp
set_option maxRecDepth 100000 in
theorem WindowOnce_lifted (os : Os) (started : os.Started) (H : Type) (enc : TypeId × Value → H) :
    ReturnsInHanded {} Try.checked os 3 .any (Rows.windowOnceSpec.pre6 enc Try.prog Try.f3 Rows.windowOnceRow.domain false) (Rows.windowOnceSpec.post enc Try.prog Try.f3 false true false false) := by
  refine returnsInHanded_of_change (C := Try.checked) Try.own started (by kernel_rfl) Try.func3
    (ChangeSpec.witness6 (enc := enc) (C := Try.checked) false ⟨#[], #[.int .i64 0, .slice none 0 0], []⟩ 8 (by kernel_rfl) (by kernel_rfl) (by kernel_rfl) (by kernel_rfl)) ?_
  intro W base args ds gs before hval0 hW _ _
  obtain ⟨m, hm, hA⟩ : ∃ m, 0 ≤ m ∧ Args enc Try.prog W m base Try.f3.params.toList args.toList := by
    obtain ⟨p, q, hA0, hV0, _, _, _⟩ := hW
    exact ⟨_, Nat.zero_le _, args_of (Nat.le_refl _) (fun j t v ht hv => hval0 j t v (by simpa using ht) (by simpa using hv)) hA0⟩
  rw [Try.params3] at hA
  obtain ⟨v_n, r_n, e_n, y_n, hA⟩ := hA.cons
  obtain ⟨v_l, r_l, e_l, y_l, hA⟩ := hA.cons
  have hA := hA.nil
  obtain rfl : args = #[v_n, v_l] := by cases args; simp_all
  clear hA e_n e_l
  obtain ⟨n, rfl, _⟩ := y_n.int Try.underlying3
  obtain ⟨x, len, cap, B, off, rfl, hl1, hl2, _, hx, _, hcs⟩ := slice_open 3 (ks := [.int .u64, .int .u64]) (by kernel_rfl) (by kernel_rfl) (by decide) (y_l.slc Try.underlying22)
  have hc : ∀ i, i < len → ∃ b c : Int, (Lit.int .u64 b).wf = true ∧ (Lit.int .u64 c).wf = true ∧ W.cell? ⟨B, off + i * 2, none⟩ = some (.int .u64 b) ∧ W.cell? ⟨B, off + i * 2 + 1, none⟩ = some (.int .u64 c) := by
    intro i hi
    obtain ⟨cs, h1, h2⟩ := hcs i hi
    obtain ⟨c_h1_0, l_h1_0, q_h1, ⟨b, rfl, w_b⟩, h1_0⟩ := h1.cons
    obtain ⟨c_h1_1, l_h1_1, rfl, ⟨c, rfl, w_c⟩, h1_1⟩ := h1_0.cons
    have z_h1 := h1_1.nil
    subst z_h1
    have q_h1 : cs = [.int .u64 b, .int .u64 c] := q_h1
    have a0 := h2 0 (by decide)
    have a1 := h2 1 (by decide)
    rw [q_h1] at a0 a1
    exact ⟨b, c, w_b, w_c, a0, a1⟩
  unfold maxLen at hl2
  have hwalk : Calls Try.prog 3 _ W fun e W' => e = .returned (.bool true) ∧ Fr [] W W' := law02_Once n x len cap B off W hx (by omega) hc
  refine hwalk.mono fun e W' ⟨he, hf⟩ => ⟨_, he, law_post (s := Rows.windowOnceSpec) Try.laidOut rfl (fun ds hl => ?_) rfl Try.underlying4 (by kernel_rfl) hW (hf.below (Nat.le_refl _) (by simp))⟩
  match ds, hl with
  | [d0, d1], _ => rfl

theorem WindowOnce_holds : Rows.WindowOnceSaid :=
  OpenClaim.holds_of_wide 3 Try.f3 rfl rfl rfl rfl rfl rfl rfl ⟨rfl, rfl, rfl, rfl, rfl⟩ rfl rfl rfl rfl rfl (by kernel_rfl) Try.func3 (by kernel_rfl)
    (of_decide_eq_true (by kernel_rfl)) (by unfold Func.isWrapper; first | (rw [if_pos (by decide +kernel)]; kernel_rfl) | (rw [if_neg (by decide +kernel)]; exact ⟨rfl, rfl⟩))
    (fun os started H enc _ => WindowOnce_lifted os started H enc)

end Go.Proofs.Ytbjopppgiklfkaa
