/-
  Step by step each answer of a toll, and what is left, are the document's (TollPlays), where what comes in is of bulk at most 1048576.
-/
import Derived.Test.YthbocbbbdjmfpaaRow0
import Derived.Test.YthbocbbbdjmfpaaPlays17
namespace Go.Proofs.Ythbocbbbdjmfpaa
open Go.ChangeShapes Go.WideShapes Go.ChangeAt Go.RowKit Go.Fp

set_option maxRecDepth 100000 in
theorem TollPlays_lifted (os : Os) (started : os.Started) (H : Type) (enc : TypeId × Value → H) (F : Stop.Interp) :
    ReturnsInHanded {} Try.checked os 3 .any ((Rows.OpenSpec.upto Rows.tollPlaysSpec).pre6 enc Try.prog Try.f3 Rows.tollPlaysUptoRow.domain false) (((Rows.OpenSpec.upto Rows.tollPlaysSpec).at F).post enc Try.prog Try.f3 false true false false) := by
  refine returnsInHanded_of_cond (C := Try.checked) (s := (Rows.OpenSpec.upto Rows.tollPlaysSpec)) (k := Rows.uptoSmall) rfl Try.own started (by kernel_rfl) Try.func3
    (OpenSpec.witness (enc := enc) (C := Try.checked) (s := (Rows.OpenSpec.upto Rows.tollPlaysSpec)) (k := Rows.uptoSmall) rfl false ⟨#[], #[.agg #[.int .i64 0, .int .i64 0, .int .i64 0, .int .i64 0], .slice none 0 0], []⟩ 8 (by kernel_rfl) (by kernel_rfl) (by kernel_rfl)
      (x := ([.agg [.lit (.int .i64 0), .lit (.int .i64 0), .lit (.int .i64 0), .lit (.int .i64 0)], .nil], [], [])) (by kernel_rfl) rfl (by kernel_rfl)) ?_
  intro W base args ds gs before hval0 hW _ hk _
  obtain ⟨m, hm, hA⟩ : ∃ m, m ≤ 1048576 ∧ Args enc Try.prog W m base Try.f3.params.toList args.toList := by
    obtain ⟨p, q, hA0, hV0, _, _, _⟩ := hW
    have hg : gs = [] := by cases gs with | nil => rfl | cons g gs => exact hV0.elim
    subst hg
    rw [List.append_nil] at hk
    exact ⟨_, of_decide_eq_true hk, args_of (Nat.le_refl _) (fun j t v ht hv => hval0 j t v (by simpa using ht) (by simpa using hv)) hA0⟩
  rw [Try.params3] at hA
  obtain ⟨v_r, r_r, e_r, y_r, hA⟩ := hA.cons
  obtain ⟨v_l, r_l, e_l, y_l, hA⟩ := hA.cons
  have hA := hA.nil
  obtain rfl : args = #[v_r, v_l] := by cases args; simp_all
  clear hA e_r e_l
  obtain ⟨cs, rfl, hr⟩ := y_r.flat 3 (ks := [.int .i64, .int .i64, .int .i64, .int .i64]) (by kernel_rfl) (by kernel_rfl)
  obtain ⟨c_hr_0, l_hr_0, q_hr, ⟨f, rfl, w_f⟩, hr_0⟩ := hr.cons
  obtain ⟨c_hr_1, l_hr_1, rfl, ⟨ft, rfl, w_ft⟩, hr_1⟩ := hr_0.cons
  obtain ⟨c_hr_2, l_hr_2, rfl, ⟨b, rfl, w_b⟩, hr_2⟩ := hr_1.cons
  obtain ⟨c_hr_3, l_hr_3, rfl, ⟨bt, rfl, w_bt⟩, hr_3⟩ := hr_2.cons
  have z_hr := hr_3.nil
  subst z_hr
  obtain rfl : cs = #[.int .i64 f, .int .i64 ft, .int .i64 b, .int .i64 bt] := by cases cs; simp_all
  obtain ⟨x, len, cap, B, off, rfl, hl1, _, hm2, hx, _, hcs⟩ := slice_open 3 (ks := [.int .i64, .int .i64]) (by kernel_rfl) (by kernel_rfl) (by decide) (y_l.slc Try.underlying24)
  have hc : ∀ i, i < len → ∃ kd n : Int, W.cell? ⟨B, off + i * 2, none⟩ = some (.int .i64 kd) ∧ W.cell? ⟨B, off + i * 2 + 1, none⟩ = some (.int .i64 n) := by
    intro i hi
    obtain ⟨cs, h1, h2⟩ := hcs i hi
    obtain ⟨c_h1_0, l_h1_0, q_h1, ⟨kd, rfl, w_kd⟩, h1_0⟩ := h1.cons
    obtain ⟨c_h1_1, l_h1_1, rfl, ⟨n, rfl, w_n⟩, h1_1⟩ := h1_0.cons
    have z_h1 := h1_1.nil
    subst z_h1
    have q_h1 : cs = [.int .i64 kd, .int .i64 n] := q_h1
    have a0 := h2 0 (by decide)
    have a1 := h2 1 (by decide)
    rw [q_h1] at a0 a1
    exact ⟨kd, n, a0, a1⟩
  have hwalk : Calls Try.prog 3 _ W fun e W' => e = .returned (.bool true) ∧ Fr [] W W' := law17_Plays ⟨f, ft, b, bt⟩ x len cap B off W hx (by omega) hc
  refine hwalk.mono fun e W' ⟨he, hf⟩ => ⟨_, he, law_post (s := Rows.tollPlaysSpec) Try.laidOut rfl (fun ds hl => ?_) rfl Try.underlying4 (by kernel_rfl) hW (hf.below (Nat.le_refl _) (by simp))⟩
  match ds, hl with
  | [d0, d1], _ => rfl

theorem TollPlays_holds : Rows.TollPlaysUptoSaid :=
  OpenClaim.holds_of_cond 3 Try.f3 rfl rfl rfl rfl rfl rfl rfl ⟨rfl, rfl, rfl, rfl, rfl⟩ rfl rfl rfl rfl rfl (by kernel_rfl) Try.func3 (by kernel_rfl)
    (of_decide_eq_true (by kernel_rfl)) (by unfold Func.isWrapper; first | (rw [if_pos (by decide +kernel)]; kernel_rfl) | (rw [if_neg (by decide +kernel)]; exact ⟨rfl, rfl⟩))
    (fun os started H enc _ F => TollPlays_lifted os started H enc F)

end Go.Proofs.Ythbocbbbdjmfpaa
