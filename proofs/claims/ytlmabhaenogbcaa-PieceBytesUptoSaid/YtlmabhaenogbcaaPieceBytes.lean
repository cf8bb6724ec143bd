/-
  Any piece's bytes, and the piece of any bytes, or why there is none, are the document's (PieceBytes), where what comes in is of bulk at most 1048576.
-/
import Derived.Test.YtlmabhaenogbcaaOpn
import Derived.Test.YtlmabhaenogbcaaLPB13
namespace Go.Proofs.Ytlmabhaenogbcaa
open Go.ChangeShapes Go.WideShapes Go.ChangeAt Go.RowKit Go.Fp
set_option maxRecDepth 100000 in
theorem PieceBytes_lifted (os : Os) (started : os.Started) (H : Type) (enc : TypeId × Value → H) (F : Stop.Interp) :
    ReturnsInHanded {} Try.checked os 7 .any ((Rows.OpenSpec.upto Rows.pieceBytesSpec).pre6 enc Try.prog Try.f7 Rows.pieceBytesUptoRow.domain false) (((Rows.OpenSpec.upto Rows.pieceBytesSpec).at F).post enc Try.prog Try.f7 false true false false) := by
  refine returnsInHanded_of_cond (C := Try.checked) (s := (Rows.OpenSpec.upto Rows.pieceBytesSpec)) (k := Rows.uptoSmall) rfl Try.own started (by kernel_rfl) Try.func7
    (OpenSpec.witness (enc := enc) (C := Try.checked) (s := (Rows.OpenSpec.upto Rows.pieceBytesSpec)) (k := Rows.uptoSmall) rfl false ⟨#[], #[.agg #[.int .u32 0, .int .i64 0, .int .i64 0, .slice none 0 0], .slice none 0 0], []⟩ 8 (by kernel_rfl) (by kernel_rfl) (by kernel_rfl)
      (x := ([.agg [.lit (.int .u32 0), .lit (.int .i64 0), .lit (.int .i64 0), .nil], .nil], [], [])) (by kernel_rfl) rfl (by kernel_rfl)) ?_
  intro W base args ds gs before hval0 hW _ hk _
  obtain ⟨m, hm, hA⟩ : ∃ m, m ≤ 1048576 ∧ Args enc Try.prog W m base Try.f7.params.toList args.toList := by
    obtain ⟨p, q, hA0, hV0, _, _, _⟩ := hW
    have hg : gs = [] := by cases gs with | nil => rfl | cons g gs => exact hV0.elim
    subst hg
    rw [List.append_nil] at hk
    exact ⟨_, of_decide_eq_true hk, args_of (Nat.le_refl _) (fun j t v ht hv => hval0 j t v (by simpa using ht) (by simpa using hv)) hA0⟩
  rw [Try.params7] at hA
  obtain ⟨v_p, r_p, e_p, y_p, hA⟩ := hA.cons
  obtain ⟨v_b, r_b, e_b, y_b, hA⟩ := hA.cons
  have hA := hA.nil
  obtain rfl : args = #[v_p, v_b] := by cases args; simp_all
  clear hA e_p e_b
  obtain ⟨cs, rfl, hr⟩ := y_p.flat 3 (ks := [.int .u32, .int .i64, .int .i64, .slc 5]) (by kernel_rfl) (by kernel_rfl)
  obtain ⟨c_hr_0, l_hr_0, q_hr, ⟨id, rfl, w_id⟩, hr_0⟩ := hr.cons
  obtain ⟨c_hr_1, l_hr_1, rfl, ⟨pl, rfl, w_pl⟩, hr_1⟩ := hr_0.cons
  obtain ⟨c_hr_2, l_hr_2, rfl, ⟨many, rfl, w_many⟩, hr_2⟩ := hr_1.cons
  obtain ⟨v_part, l_hr_3, rfl, h_part, hr_3⟩ := hr_2.cons
  have z_hr := hr_3.nil
  subst z_hr
  obtain rfl : cs = #[.int .u32 id, .int .i64 pl, .int .i64 many, v_part] := by cases cs; simp_all
  obtain ⟨xb, cb, bs, rfl, _, _, _, hxb, hrb⟩ := bytes_open (by kernel_rfl) (by kernel_rfl) h_part
  obtain ⟨x, c, ys, rfl, _, _, _, hx, hry⟩ := bytes_open (by kernel_rfl) (by kernel_rfl) (y_b.slc Try.underlying23)
  have hid := wf_u32 w_id
  obtain ⟨n, rfl⟩ : ∃ n : Nat, id = n := ⟨id.toNat, by omega⟩
  have hT : Tk [] W W [] [Ob.rd xb bs.length 1 (u8s bs), Ob.rd x ys.length 1 (u8s ys)] := Tk.start W fun o ho => by
    simp only [List.mem_cons, List.not_mem_nil, or_false] at ho
    rcases ho with rfl | rfl
    · obtain ⟨f, h, _⟩ := of_rd hrb; exact ⟨f, h⟩
    · obtain ⟨f, h, _⟩ := of_rd hry; exact ⟨f, h⟩
  have hwalk : Calls Try.prog 7 _ W fun e W' => e = .returned (.bool true) ∧ Fr [] W W' := law13_Bytes ⟨⟨n, pl, many, bs⟩, xb, cb⟩ hxb (by dsimp only; omega) x c ys hx (by omega) W hT
  refine hwalk.mono fun e W' ⟨he, hf⟩ => ⟨_, he, law_post (s := Rows.pieceBytesSpec) Try.laidOut rfl (fun ds hl => ?_) rfl Try.underlying4 (by kernel_rfl) hW (hf.below (Nat.le_refl _) (by simp))⟩
  match ds, hl with
  | [d0, d1], _ => rfl

theorem PieceBytes_holds : Rows.PieceBytesUptoSaid :=
  OpenClaim.holds_of_cond 7 Try.f7 rfl rfl rfl rfl rfl rfl rfl ⟨rfl, rfl, rfl, rfl, rfl⟩ rfl rfl rfl rfl rfl (by kernel_rfl) Try.func7 (by kernel_rfl)
    (of_decide_eq_true (by kernel_rfl)) (by unfold Func.isWrapper; first | (rw [if_pos (by decide +kernel)]; kernel_rfl) | (rw [if_neg (by decide +kernel)]; exact ⟨rfl, rfl⟩))
    (fun os started H enc _ F => PieceBytes_lifted os started H enc F)

end Go.Proofs.Ytlmabhaenogbcaa
