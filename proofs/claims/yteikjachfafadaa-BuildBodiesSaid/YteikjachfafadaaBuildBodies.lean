/-
  The bodies of any bytes, or why there are none, and what a body of pieces was, are the document's (BuildBodies), whatever comes in.
-/
import Derived.Test.YteikjachfafadaaOpn
import Derived.Test.YteikjachfafadaaLBd21
namespace Go.Proofs.Yteikjachfafadaa
open Go.ChangeShapes Go.WideShapes Go.ChangeAt Go.RowKit Go.Fp
set_option maxRecDepth 100000 in
theorem BuildBodies_lifted (os : Os) (started : os.Started) (H : Type) (enc : TypeId × Value → H) :
    ReturnsInHanded {} Try.checked os 3 .any (Rows.buildBodiesSpec.pre6 enc Try.prog Try.f3 Rows.buildBodiesRow.domain false) (Rows.buildBodiesSpec.post enc Try.prog Try.f3 false true false false) := by
  refine returnsInHanded_of_change (C := Try.checked) Try.own started (by kernel_rfl) Try.func3
    (ChangeSpec.witness6 (enc := enc) (C := Try.checked) false ⟨#[], #[.int .i64 0, .int .u32 0, .slice none 0 0, .int .i64 0], []⟩ 8 (by kernel_rfl) (by kernel_rfl) (by kernel_rfl) (by kernel_rfl)) ?_
  intro W base args ds gs before hval0 hW _ _
  obtain ⟨m, hm, hA⟩ : ∃ m, 0 ≤ m ∧ Args enc Try.prog W m base Try.f3.params.toList args.toList := by
    obtain ⟨p, q, hA0, hV0, _, _, _⟩ := hW
    exact ⟨_, Nat.zero_le _, args_of (Nat.le_refl _) (fun j t v ht hv => hval0 j t v (by simpa using ht) (by simpa using hv)) hA0⟩
  rw [Try.params3] at hA
  obtain ⟨v_k, r_k, e_k, y_k, hA⟩ := hA.cons
  obtain ⟨v_i, r_i, e_i, y_i, hA⟩ := hA.cons
  obtain ⟨v_b, r_b, e_b, y_b, hA⟩ := hA.cons
  obtain ⟨v_z, r_z, e_z, y_z, hA⟩ := hA.cons
  have hA := hA.nil
  obtain rfl : args = #[v_k, v_i, v_b, v_z] := by cases args; simp_all
  clear hA e_k e_i e_b e_z
  obtain ⟨kind, rfl, _⟩ := y_k.int Try.underlying3
  obtain ⟨id, rfl, w_id⟩ := y_i.int Try.underlying22
  obtain ⟨xb, cb, bs, rfl, hbc, _, _, hxb, hrb⟩ := bytes_open (by kernel_rfl) (by kernel_rfl) (y_b.slc Try.underlying23)
  obtain ⟨most, rfl, _⟩ := y_z.int Try.underlying3
  have hid := wf_u32 w_id
  obtain ⟨n, rfl⟩ : ∃ n : Nat, id = n := ⟨id.toNat, by omega⟩
  have hT : Tk [] W W [] [Ob.rd xb bs.length 1 (u8s bs)] := Tk.start W fun o ho => by
    rw [List.mem_singleton] at ho; subst ho
    obtain ⟨f, h, _⟩ := of_rd hrb; exact ⟨f, h⟩
  have hwalk : Calls Try.prog 3 _ W fun e W' => e = .returned (.bool true) ∧ Fr [] W W' := law21_Bodies kind n (by omega) xb cb bs hxb hbc most W hT
  refine hwalk.mono fun e W' ⟨he, hf⟩ => ⟨_, he, law_post (s := Rows.buildBodiesSpec) Try.laidOut rfl (fun ds hl => ?_) rfl Try.underlying4 (by kernel_rfl) hW (hf.below (Nat.le_refl _) (by simp))⟩
  match ds, hl with
  | [d0, d1, d2, d3], _ => rfl

theorem BuildBodies_holds : Rows.BuildBodiesSaid :=
  OpenClaim.holds_of_wide 3 Try.f3 rfl rfl rfl rfl rfl rfl rfl ⟨rfl, rfl, rfl, rfl, rfl⟩ rfl rfl rfl rfl rfl (by kernel_rfl) Try.func3 (by kernel_rfl)
    (of_decide_eq_true (by kernel_rfl)) (by unfold Func.isWrapper; first | (rw [if_pos (by decide +kernel)]; kernel_rfl) | (rw [if_neg (by decide +kernel)]; exact ⟨rfl, rfl⟩))
    (fun os started H enc _ => BuildBodies_lifted os started H enc)

end Go.Proofs.Yteikjachfafadaa
