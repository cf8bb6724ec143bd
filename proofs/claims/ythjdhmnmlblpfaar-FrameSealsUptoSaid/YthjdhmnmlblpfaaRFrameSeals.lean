/-
  Any frame's bytes by any key, or that it may not be, are the document's; so is what its tag takes (FrameSeals), where what comes in is of bulk at most 1048576.
-/
import Derived.Test.YthjdhmnmlblpfaaRBase
import Derived.Test.YthjdhmnmlblpfaaRLSea12
namespace Go.Proofs.YthjdhmnmlblpfaaR
open Go.ChangeShapes Go.WideShapes Go.ChangeAt Go.RowKit Go.Fp
set_option maxHeartbeats 4000000
set_option maxRecDepth 100000 in
theorem FrameSeals_lifted (os : Os) (started : os.Started) (H : Type) (enc : TypeId × Value → H) (F : Stop.Interp) :
    ReturnsInHanded {} Try.checked os 3 .any ((Rows.OpenSpec.upto Rows.frameSealsSpec).pre6 enc Try.prog Try.f3 Rows.frameSealsUptoRow.domain false) (((Rows.OpenSpec.upto Rows.frameSealsSpec).at F).post enc Try.prog Try.f3 false true false false) := by
  refine returnsInHanded_of_cond (C := Try.checked) (s := (Rows.OpenSpec.upto Rows.frameSealsSpec)) (k := Rows.uptoSmall) rfl Try.own started (by kernel_rfl) Try.func3
    (OpenSpec.witness (enc := enc) (C := Try.checked) (s := (Rows.OpenSpec.upto Rows.frameSealsSpec)) (k := Rows.uptoSmall) rfl false ⟨#[], #[.agg #[.int .u8 0, .int .u8 0, .int .u8 0, .int .u8 0, .int .u8 0, .int .u8 0, .int .u8 0, .int .u8 0, .int .u8 0, .int .u8 0, .int .u8 0, .int .u8 0, .int .u8 0, .int .u8 0, .int .u8 0, .int .u8 0, .int .u8 0, .int .u8 0, .int .u8 0, .int .u8 0, .int .u8 0, .int .u8 0, .int .u8 0, .int .u8 0, .int .u8 0, .int .u8 0, .int .u8 0, .int .u8 0, .int .u8 0, .int .u8 0, .int .u8 0, .int .u8 0], .agg #[.int .i64 0, .int .i64 0, .int .u64 0, .int .u64 0, .int .i64 0, .slice none 0 0], .int .i64 0], []⟩ 8 (by kernel_rfl) (by kernel_rfl) (by kernel_rfl)
      (x := ([.agg [.lit (.int .u8 0), .lit (.int .u8 0), .lit (.int .u8 0), .lit (.int .u8 0), .lit (.int .u8 0), .lit (.int .u8 0), .lit (.int .u8 0), .lit (.int .u8 0), .lit (.int .u8 0), .lit (.int .u8 0), .lit (.int .u8 0), .lit (.int .u8 0), .lit (.int .u8 0), .lit (.int .u8 0), .lit (.int .u8 0), .lit (.int .u8 0), .lit (.int .u8 0), .lit (.int .u8 0), .lit (.int .u8 0), .lit (.int .u8 0), .lit (.int .u8 0), .lit (.int .u8 0), .lit (.int .u8 0), .lit (.int .u8 0), .lit (.int .u8 0), .lit (.int .u8 0), .lit (.int .u8 0), .lit (.int .u8 0), .lit (.int .u8 0), .lit (.int .u8 0), .lit (.int .u8 0), .lit (.int .u8 0)], .agg [.lit (.int .i64 0), .lit (.int .i64 0), .lit (.int .u64 0), .lit (.int .u64 0), .lit (.int .i64 0), .nil], .lit (.int .i64 0)], [], [])) (by kernel_rfl) rfl (by kernel_rfl)) ?_
  intro W base args ds gs before hval0 hW _ hk _
  obtain ⟨m, hm, hA⟩ : ∃ m, m ≤ 1048576 ∧ Args enc Try.prog W m base Try.f3.params.toList args.toList := by
    obtain ⟨p, q, hA0, hV0, _, _, _⟩ := hW
    have hg : gs = [] := by cases gs with | nil => rfl | cons g gs => exact hV0.elim
    subst hg
    rw [List.append_nil] at hk
    exact ⟨_, of_decide_eq_true hk, args_of (Nat.le_refl _) (fun j t v ht hv => hval0 j t v (by simpa using ht) (by simpa using hv)) hA0⟩
  rw [Try.params3] at hA
  obtain ⟨v_k, r_k, e_k, y_k, hA⟩ := hA.cons
  obtain ⟨v_f, r_f, e_f, y_f, hA⟩ := hA.cons
  obtain ⟨v_n, r_n, e_n, y_n, hA⟩ := hA.cons
  have hA := hA.nil
  obtain rfl : args = #[v_k, v_f, v_n] := by cases args; simp_all
  clear hA e_k e_f e_n
  obtain ⟨ks, rfl, hkr⟩ := y_k.flat 3 (ks := List.replicate 32 (.int .u8)) (by kernel_rfl) (by kernel_rfl)
  obtain ⟨key, hkl, hks⟩ := All2.bytes hkr
  obtain rfl : ks = (u8s key).toArray := by rw [← hks]
  obtain ⟨cs, rfl, hr⟩ := y_f.flat 3 (ks := [.int .i64, .int .i64, .int .u64, .int .u64, .int .i64, .slc 5]) (by kernel_rfl) (by kernel_rfl)
  obtain ⟨c_hr_0, l_hr_0, q_hr, ⟨fr, rfl, w_fr⟩, hr_0⟩ := hr.cons
  obtain ⟨c_hr_1, l_hr_1, rfl, ⟨to, rfl, w_to⟩, hr_1⟩ := hr_0.cons
  obtain ⟨c_hr_2, l_hr_2, rfl, ⟨bt, rfl, w_bt⟩, hr_2⟩ := hr_1.cons
  obtain ⟨c_hr_3, l_hr_3, rfl, ⟨ct, rfl, w_ct⟩, hr_3⟩ := hr_2.cons
  obtain ⟨c_hr_4, l_hr_4, rfl, ⟨kd, rfl, w_kd⟩, hr_4⟩ := hr_3.cons
  obtain ⟨v_body, l_hr_5, rfl, h_body, hr_5⟩ := hr_4.cons
  have z_hr := hr_5.nil
  subst z_hr
  obtain rfl : cs = #[.int .i64 fr, .int .i64 to, .int .u64 bt, .int .u64 ct, .int .i64 kd, v_body] := by cases cs; simp_all
  have hbt := wf_u64 w_bt
  have hct := wf_u64 w_ct
  obtain ⟨bt, rfl⟩ : ∃ n : Nat, bt = n := ⟨bt.toNat, by omega⟩
  obtain ⟨ct, rfl⟩ : ∃ n : Nat, ct = n := ⟨ct.toNat, by omega⟩
  obtain ⟨x, c, bd, rfl, _, _, _, hx, hrx⟩ := bytes_open (by kernel_rfl) (by kernel_rfl) h_body
  obtain ⟨n, rfl, _⟩ := y_n.int Try.underlying3
  have hT : Tk [] W W [] [Ob.rd x bd.length 1 (u8s bd)] := Tk.start W fun o ho => by
    rw [List.mem_singleton] at ho; subst ho
    obtain ⟨f, h, _⟩ := of_rd hrx; exact ⟨f, h⟩
  have hwalk : Calls Try.prog 3 _ W fun e W' => e = .returned (.bool true) ∧ Fr [] W W' := law12_Seals key hkl ⟨fr, to, bt, ct, kd, bd⟩ ⟨by dsimp only; omega, by dsimp only; omega⟩ x c hx (by dsimp only; omega) n W (List.mem_cons_self ..) hT
  refine hwalk.mono fun e W' ⟨he, hf⟩ => ⟨_, he, law_post (s := Rows.frameSealsSpec) Try.laidOut rfl (fun ds hl => ?_) rfl Try.underlying4 (by kernel_rfl) hW (hf.below (Nat.le_refl _) (by simp))⟩
  match ds, hl with
  | [d0, d1, d2], _ => rfl

theorem FrameSeals_holds : Rows.FrameSealsUptoSaid :=
  OpenClaim.holds_of_cond 3 Try.f3 rfl rfl rfl rfl rfl rfl rfl ⟨rfl, rfl, rfl, rfl, rfl⟩ rfl rfl rfl rfl rfl (by kernel_rfl) Try.func3 (by kernel_rfl)
    (of_decide_eq_true (by kernel_rfl)) (by unfold Func.isWrapper; first | (rw [if_pos (by decide +kernel)]; kernel_rfl) | (rw [if_neg (by decide +kernel)]; exact ⟨rfl, rfl⟩))
    (fun os started H enc _ F => FrameSeals_lifted os started H enc F)

end Go.Proofs.YthjdhmnmlblpfaaR
