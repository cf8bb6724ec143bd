/-
  Within any ticks no more blocks are taken than Most tells, and never more frames than there are and come back (TollBounds), whatever the rates and the steps.
-/
import Derived.Test.YthbocbbbdjmfpaaRow0
import Derived.Test.YthbocbbbdjmfpaaBounds17
namespace Go.Proofs.Ythbocbbbdjmfpaa
open Go.ChangeShapes Go.WideShapes Go.ChangeAt Go.RowKit Go.Fp

set_option maxRecDepth 100000 in
theorem TollBounds_lifted (os : Os) (started : os.Started) (H : Type) (enc : TypeId × Value → H) :
    ReturnsInHanded {} Try.checked os 5 .any (Rows.tollBoundsSpec.pre6 enc Try.prog Try.f5 Rows.tollBoundsRow.domain false) (Rows.tollBoundsSpec.post enc Try.prog Try.f5 false true false false) := by
  refine returnsInHanded_of_change (C := Try.checked) Try.own started (by kernel_rfl) Try.func5
    (ChangeSpec.witness6 (enc := enc) (C := Try.checked) false ⟨#[], #[.agg #[.int .i64 0, .int .i64 0, .int .i64 0, .int .i64 0], .slice none 0 0], []⟩ 8 (by kernel_rfl) (by kernel_rfl) (by kernel_rfl) (by kernel_rfl)) ?_
  intro W base args ds gs before hval0 hW _ _
  obtain ⟨m, hm, hA⟩ : ∃ m, 0 ≤ m ∧ Args enc Try.prog W m base Try.f5.params.toList args.toList := by
    obtain ⟨p, q, hA0, hV0, _, _, _⟩ := hW
    exact ⟨_, Nat.zero_le _, args_of (Nat.le_refl _) (fun j t v ht hv => hval0 j t v (by simpa using ht) (by simpa using hv)) hA0⟩
  rw [Try.params5] at hA
  obtain ⟨v_r, r_r, e_r, y_r, hA⟩ := hA.cons
  obtain ⟨v_l, r_l, e_l, y_l, hA⟩ := hA.cons
  have hA := hA.nil
  obtain rfl : args = #[v_r, v_l] := by cases args; simp_all
  clear hA e_r e_l
  obtain ⟨cs, rfl, hr⟩ := y_r.flat 3 (ks := [.int .i64, .int .i64, .int .i64, .int .i64]) (by kernel_rfl) (by kernel_rfl)
  obtain ⟨c_hr_0, l_hr_0, q_hr, ⟨f, rfl, w_f⟩, hr_0⟩ := hr.cons
  obtain ⟨c_hr_1, l_hr_1, rfl, ⟨ft, rfl, w_ft⟩, hr_1⟩ := hr_0.cons
  obtain ⟨c_hr_2, l_hr_2, rfl, ⟨b, rfl, w_b⟩, hr_2⟩ := hr_1.cons
  obtain ⟨c_hr_3, l_hr_3, rfl, ⟨bt, rfl, w_bt⟩, hr_3⟩ := hr_2.cons
  have z_hr := hr_3.nil
  subst z_hr
  obtain rfl : cs = #[.int .i64 f, .int .i64 ft, .int .i64 b, .int .i64 bt] := by cases cs; simp_all
  obtain ⟨x, len, cap, B, off, rfl, hl1, hl2, _, hx, _, hcs⟩ := slice_open 3 (ks := [.int .i64, .int .i64]) (by kernel_rfl) (by kernel_rfl) (by decide) (y_l.slc Try.underlying24)
  have hc : ∀ i, i < len → ∃ kd n : Int, W.cell? ⟨B, off + i * 2, none⟩ = some (.int .i64 kd) ∧ W.cell? ⟨B, off + i * 2 + 1, none⟩ = some (.int .i64 n) := by
    intro i hi
    obtain ⟨cs, h1, h2⟩ := hcs i hi
    obtain ⟨c_h1_0, l_h1_0, q_h1, ⟨kd, rfl, w_kd⟩, h1_0⟩ := h1.cons
    obtain ⟨c_h1_1, l_h1_1, rfl, ⟨n, rfl, w_n⟩, h1_1⟩ := h1_0.cons
    have z_h1 := h1_1.nil
    subst z_h1
    have q_h1 : cs = [.int .i64 kd, .int .i64 n] := q_h1
    have a0 := h2 0 (by decide)
    have a1 := h2 1 (by decide)
    rw [q_h1] at a0 a1
    exact ⟨kd, n, a0, a1⟩
  unfold maxLen at hl2
  have hwalk : Calls Try.prog 5 _ W fun e W' => e = .returned (.bool true) ∧ Fr [] W W' := law17_Bounds ⟨f, ft, b, bt⟩ x len cap B off W hx (by omega) hc
  refine hwalk.mono fun e W' ⟨he, hf⟩ => ⟨_, he, law_post (s := Rows.tollBoundsSpec) Try.laidOut rfl (fun ds hl => ?_) rfl Try.underlying4 (by kernel_rfl) hW (hf.below (Nat.le_refl _) (by simp))⟩
  match ds, hl with
  | [d0, d1], _ => rfl

theorem TollBounds_holds : Rows.TollBoundsSaid :=
  OpenClaim.holds_of_wide 5 Try.f5 rfl rfl rfl rfl rfl rfl rfl ⟨rfl, rfl, rfl, rfl, rfl⟩ rfl rfl rfl rfl rfl (by kernel_rfl) Try.func5 (by kernel_rfl)
    (of_decide_eq_true (by kernel_rfl)) (by unfold Func.isWrapper; first | (rw [if_pos (by decide +kernel)]; kernel_rfl) | (rw [if_neg (by decide +kernel)]; exact ⟨rfl, rfl⟩))
    (fun os started H enc _ => TollBounds_lifted os started H enc)

end Go.Proofs.Ythbocbbbdjmfpaa
