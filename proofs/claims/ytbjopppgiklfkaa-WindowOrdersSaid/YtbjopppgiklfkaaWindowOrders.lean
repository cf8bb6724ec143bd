/-
  Numbers that a counter gives are taken by a window, each once, in whatever order they come, as long as each comes within the window's size of the highest; doubles are not (WindowOrders), whatever the arguments are.
-/
import Derived.Test.YtbjopppgiklfkaaRow0
import Derived.Test.YtbjopppgiklfkaaWinOrders
namespace Go.Proofs.Ytbjopppgiklfkaa
open Go.ChangeShapes Go.WideShapes Go.ChangeAt Go.RowKit Go.Fp
set_option maxRecDepth 100000 in
theorem WindowOrders_lifted (os : Os) (started : os.Started) (H : Type) (enc : TypeId × Value → H) :
    ReturnsInHanded {} Try.checked os 5 .any (Rows.windowOrdersSpec.pre6 enc Try.prog Try.f5 Rows.windowOrdersRow.domain false) (Rows.windowOrdersSpec.post enc Try.prog Try.f5 false true false false) := by
  refine returnsInHanded_of_change (C := Try.checked) Try.own started (by kernel_rfl) Try.func5
    (ChangeSpec.witness6 (enc := enc) (C := Try.checked) false ⟨#[], #[.int .i64 0, .int .u64 0, .int .u32 0, .slice none 0 0], []⟩ 8 (by kernel_rfl) (by kernel_rfl) (by kernel_rfl) (by kernel_rfl)) ?_
  intro W base args ds gs before hval0 hW _ _
  obtain ⟨m, hm, hA⟩ : ∃ m, 0 ≤ m ∧ Args enc Try.prog W m base Try.f5.params.toList args.toList := by
    obtain ⟨p, q, hA0, hV0, _, _, _⟩ := hW
    exact ⟨_, Nat.zero_le _, args_of (Nat.le_refl _) (fun j t v ht hv => hval0 j t v (by simpa using ht) (by simpa using hv)) hA0⟩
  rw [Try.params5] at hA
  obtain ⟨v_n, r_n, e_n, y_n, hA⟩ := hA.cons
  obtain ⟨v_b, r_b, e_b, y_b, hA⟩ := hA.cons
  obtain ⟨v_s, r_s, e_s, y_s, hA⟩ := hA.cons
  obtain ⟨v_l, r_l, e_l, y_l, hA⟩ := hA.cons
  have hA := hA.nil
  obtain rfl : args = #[v_n, v_b, v_s, v_l] := by cases args; simp_all
  clear hA e_n e_b e_s e_l
  obtain ⟨n, rfl, _⟩ := y_n.int Try.underlying3
  obtain ⟨b, rfl, w_b⟩ := y_b.int Try.underlying30
  obtain ⟨s, rfl, w_s⟩ := y_s.int Try.underlying44
  obtain ⟨x, len, cap, B, off, rfl, hl1, hl2, _, hx, _, hcs⟩ := slice_open 2 (ks := [.int .i64]) (by kernel_rfl) (by kernel_rfl) (by decide) (y_l.slc Try.underlying45)
  have hc : ∀ i, i < len → ∃ z : Int, W.cell? ⟨B, off + i, none⟩ = some (.int .i64 z) := by
    intro i hi
    obtain ⟨cs, h1, h2⟩ := hcs i hi
    obtain ⟨c_h1_0, l_h1_0, q_h1, ⟨z, rfl, w_z⟩, h1_0⟩ := h1.cons
    have z_h1 := h1_0.nil
    subst z_h1
    have q_h1 : cs = [.int .i64 z] := q_h1
    have a0 := h2 0 (by decide)
    rw [q_h1] at a0
    simp at a0
    exact ⟨z, a0⟩
  unfold maxLen at hl2
  have hwalk : Calls Try.prog 5 _ W fun e W' => e = .returned (.bool true) ∧ Fr [] W W' := law02_Orders n b s x len cap B off W hx (by omega) hc (wf_u64 w_b).1 (wf_u64 w_b).2 (wf_u32 w_s).1 (wf_u32 w_s).2
  refine hwalk.mono fun e W' ⟨he, hf⟩ => ⟨_, he, law_post (s := Rows.windowOrdersSpec) Try.laidOut rfl (fun ds hl => ?_) rfl Try.underlying4 (by kernel_rfl) hW (hf.below (Nat.le_refl _) (by simp))⟩
  match ds, hl with
  | [d0, d1, d2, d3], _ => rfl

theorem WindowOrders_holds : Rows.WindowOrdersSaid :=
  OpenClaim.holds_of_wide 5 Try.f5 rfl rfl rfl rfl rfl rfl rfl ⟨rfl, rfl, rfl, rfl, rfl⟩ rfl rfl rfl rfl rfl (by kernel_rfl) Try.func5 (by kernel_rfl)
    (of_decide_eq_true (by kernel_rfl)) (by unfold Func.isWrapper; first | (rw [if_pos (by decide +kernel)]; kernel_rfl) | (rw [if_neg (by decide +kernel)]; exact ⟨rfl, rfl⟩))
    (fun os started H enc _ => WindowOrders_lifted os started H enc)

end Go.Proofs.Ytbjopppgiklfkaa
