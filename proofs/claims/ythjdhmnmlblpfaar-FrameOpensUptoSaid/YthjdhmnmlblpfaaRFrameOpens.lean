/-
  The frame that any bytes are, with any tag, or with the right one, or why they are none, is the document's (FrameOpens), where what comes in is of bulk at most 1048576.
-/
import Derived.Test.YthjdhmnmlblpfaaRBase
import Derived.Test.YthjdhmnmlblpfaaRLOpn12
namespace Go.Proofs.YthjdhmnmlblpfaaR
open Go.ChangeShapes Go.WideShapes Go.ChangeAt Go.RowKit Go.Fp
set_option maxHeartbeats 4000000
set_option maxRecDepth 100000 in
theorem FrameOpens_lifted (os : Os) (started : os.Started) (H : Type) (enc : TypeId × Value → H) (F : Stop.Interp) :
    ReturnsInHanded {} Try.checked os 6 .any ((Rows.OpenSpec.upto Rows.frameOpensSpec).pre6 enc Try.prog Try.f6 Rows.frameOpensUptoRow.domain false) (((Rows.OpenSpec.upto Rows.frameOpensSpec).at F).post enc Try.prog Try.f6 false true false false) := by
  refine returnsInHanded_of_cond (C := Try.checked) (s := (Rows.OpenSpec.upto Rows.frameOpensSpec)) (k := Rows.uptoSmall) rfl Try.own started (by kernel_rfl) Try.func6
    (OpenSpec.witness (enc := enc) (C := Try.checked) (s := (Rows.OpenSpec.upto Rows.frameOpensSpec)) (k := Rows.uptoSmall) rfl false ⟨#[], #[.agg #[.int .u8 0, .int .u8 0, .int .u8 0, .int .u8 0, .int .u8 0, .int .u8 0, .int .u8 0, .int .u8 0, .int .u8 0, .int .u8 0, .int .u8 0, .int .u8 0, .int .u8 0, .int .u8 0, .int .u8 0, .int .u8 0, .int .u8 0, .int .u8 0, .int .u8 0, .int .u8 0, .int .u8 0, .int .u8 0, .int .u8 0, .int .u8 0, .int .u8 0, .int .u8 0, .int .u8 0, .int .u8 0, .int .u8 0, .int .u8 0, .int .u8 0, .int .u8 0], .slice none 0 0], []⟩ 8 (by kernel_rfl) (by kernel_rfl) (by kernel_rfl)
      (x := ([.agg [.lit (.int .u8 0), .lit (.int .u8 0), .lit (.int .u8 0), .lit (.int .u8 0), .lit (.int .u8 0), .lit (.int .u8 0), .lit (.int .u8 0), .lit (.int .u8 0), .lit (.int .u8 0), .lit (.int .u8 0), .lit (.int .u8 0), .lit (.int .u8 0), .lit (.int .u8 0), .lit (.int .u8 0), .lit (.int .u8 0), .lit (.int .u8 0), .lit (.int .u8 0), .lit (.int .u8 0), .lit (.int .u8 0), .lit (.int .u8 0), .lit (.int .u8 0), .lit (.int .u8 0), .lit (.int .u8 0), .lit (.int .u8 0), .lit (.int .u8 0), .lit (.int .u8 0), .lit (.int .u8 0), .lit (.int .u8 0), .lit (.int .u8 0), .lit (.int .u8 0), .lit (.int .u8 0), .lit (.int .u8 0)], .nil], [], [])) (by kernel_rfl) rfl (by kernel_rfl)) ?_
  intro W base args ds gs before hval0 hW _ hk _
  obtain ⟨m, hm, hA⟩ : ∃ m, m ≤ 1048576 ∧ Args enc Try.prog W m base Try.f6.params.toList args.toList := by
    obtain ⟨p, q, hA0, hV0, _, _, _⟩ := hW
    have hg : gs = [] := by cases gs with | nil => rfl | cons g gs => exact hV0.elim
    subst hg
    rw [List.append_nil] at hk
    exact ⟨_, of_decide_eq_true hk, args_of (Nat.le_refl _) (fun j t v ht hv => hval0 j t v (by simpa using ht) (by simpa using hv)) hA0⟩
  rw [Try.params6] at hA
  obtain ⟨v_k, r_k, e_k, y_k, hA⟩ := hA.cons
  obtain ⟨v_b, r_b, e_b, y_b, hA⟩ := hA.cons
  have hA := hA.nil
  obtain rfl : args = #[v_k, v_b] := by cases args; simp_all
  clear hA e_k e_b
  obtain ⟨ks, rfl, hkr⟩ := y_k.flat 3 (ks := List.replicate 32 (.int .u8)) (by kernel_rfl) (by kernel_rfl)
  obtain ⟨key, hkl, hks⟩ := All2.bytes hkr
  obtain rfl : ks = (u8s key).toArray := by rw [← hks]
  obtain ⟨y, d, bs, rfl, hyd, _, _, hy, hry⟩ := bytes_open (by kernel_rfl) (by kernel_rfl) (y_b.slc Try.underlying24)
  have hT : Tk [] W W [] [Ob.rd y bs.length 1 (u8s bs)] := Tk.start W fun o ho => by
    rw [List.mem_singleton] at ho; subst ho
    obtain ⟨f, h, _⟩ := of_rd hry; exact ⟨f, h⟩
  have hwalk : Calls Try.prog 6 _ W fun e W' => e = .returned (.bool true) ∧ Fr [] W W' := law12_Opens key hkl y d bs hy hyd (by omega) W (List.mem_cons_self ..) hT
  refine hwalk.mono fun e W' ⟨he, hf⟩ => ⟨_, he, law_post (s := Rows.frameOpensSpec) Try.laidOut rfl (fun ds hl => ?_) rfl Try.underlying4 (by kernel_rfl) hW (hf.below (Nat.le_refl _) (by simp))⟩
  match ds, hl with
  | [d0, d1], _ => rfl

theorem FrameOpens_holds : Rows.FrameOpensUptoSaid :=
  OpenClaim.holds_of_cond 6 Try.f6 rfl rfl rfl rfl rfl rfl rfl ⟨rfl, rfl, rfl, rfl, rfl⟩ rfl rfl rfl rfl rfl (by kernel_rfl) Try.func6 (by kernel_rfl)
    (of_decide_eq_true (by kernel_rfl)) (by unfold Func.isWrapper; first | (rw [if_pos (by decide +kernel)]; kernel_rfl) | (rw [if_neg (by decide +kernel)]; exact ⟨rfl, rfl⟩))
    (fun os started H enc _ F => FrameOpens_lifted os started H enc F)

end Go.Proofs.YthjdhmnmlblpfaaR
