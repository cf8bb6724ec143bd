/-
  Any hello's bytes, and the hello of any bytes, or why there is none, are the document's; a hello is read back (FrameHellos), where what comes in is of bulk at most 1048576.
-/
import Derived.Test.YthjdhmnmlblpfaaROpn
import Derived.Test.YthjdhmnmlblpfaaRLHel12
namespace Go.Proofs.YthjdhmnmlblpfaaR
open Go.ChangeShapes Go.WideShapes Go.ChangeAt Go.RowKit Go.Fp
set_option maxHeartbeats 4000000
theorem w32s_flat : ∀ l : List UInt32, (l.map fun b : UInt32 => [w32 b]).flatten = w32s l
  | [] => rfl
  | a :: l => by rw [List.map_cons, List.flatten_cons, w32s_flat l]; rfl
theorem words_open {H : Type} {enc : TypeId × Value → H} {w : World} {m : Nat} {v : Value} (h : CellIs enc Try.prog w m (.slc 92) v) :
    ∃ (x : Option Addr) (c : Nat) (l : List UInt32), v = .slice x l.length c ∧ l.length ≤ c ∧ c ≤ m ∧ Rdz w x l.length 1 (w32s l) := by
  obtain ⟨x, c, l, h1, h2, h3, h4, h5, h6, _⟩ := rows_open 1 (ks := [.int .u32]) (fun b : UInt32 => [w32 b]) (fun _ => True) (by kernel_rfl) (by kernel_rfl) (by decide) (fun cs h => by
    obtain ⟨k2, c2, rfl, ⟨ep, rfl, wep⟩, h6⟩ := h.cons
    obtain rfl := h6.nil
    have wep := wf_u32 wep
    refine ⟨UInt32.ofNat ep.toNat, ?_, trivial⟩
    have e : ((UInt32.ofNat ep.toNat).toNat : Int) = ep := by rw [UInt32.toNat_ofNat']; omega
    show [Value.int .u32 ep] = [Value.int .u32 ((UInt32.ofNat ep.toNat).toNat : Int)]
    rw [e]) h
  refine ⟨x, c, l, h1, h2, h4, ?_⟩
  have e := w32s_flat l
  rw [e] at h6
  exact h6
set_option maxRecDepth 100000 in
theorem FrameHellos_lifted (os : Os) (started : os.Started) (H : Type) (enc : TypeId × Value → H) (F : Stop.Interp) :
    ReturnsInHanded {} Try.checked os 4 .any ((Rows.OpenSpec.upto Rows.frameHellosSpec).pre6 enc Try.prog Try.f4 Rows.frameHellosUptoRow.domain false) (((Rows.OpenSpec.upto Rows.frameHellosSpec).at F).post enc Try.prog Try.f4 false true false false) := by
  refine returnsInHanded_of_cond (C := Try.checked) (s := (Rows.OpenSpec.upto Rows.frameHellosSpec)) (k := Rows.uptoSmall) rfl Try.own started (by kernel_rfl) Try.func4
    (OpenSpec.witness (enc := enc) (C := Try.checked) (s := (Rows.OpenSpec.upto Rows.frameHellosSpec)) (k := Rows.uptoSmall) rfl false ⟨#[], #[.agg #[.int .u8 0, .slice none 0 0], .slice none 0 0], []⟩ 8 (by kernel_rfl) (by kernel_rfl) (by kernel_rfl)
      (x := ([.agg [.lit (.int .u8 0), .nil], .nil], [], [])) (by kernel_rfl) rfl (by kernel_rfl)) ?_
  intro W base args ds gs before hval0 hW _ hk _
  obtain ⟨m, hm, hA⟩ : ∃ m, m ≤ 1048576 ∧ Args enc Try.prog W m base Try.f4.params.toList args.toList := by
    obtain ⟨p, q, hA0, hV0, _, _, _⟩ := hW
    have hg : gs = [] := by cases gs with | nil => rfl | cons g gs => exact hV0.elim
    subst hg
    rw [List.append_nil] at hk
    exact ⟨_, of_decide_eq_true hk, args_of (Nat.le_refl _) (fun j t v ht hv => hval0 j t v (by simpa using ht) (by simpa using hv)) hA0⟩
  rw [Try.params4] at hA
  obtain ⟨v_h, r_h, e_h, y_h, hA⟩ := hA.cons
  obtain ⟨v_b, r_b, e_b, y_b, hA⟩ := hA.cons
  have hA := hA.nil
  obtain rfl : args = #[v_h, v_b] := by cases args; simp_all
  clear hA e_h e_b
  obtain ⟨cs, rfl, hr⟩ := y_h.flat 3 (ks := [.int .u8, .slc 92]) (by kernel_rfl) (by kernel_rfl)
  obtain ⟨c_hr_0, l_hr_0, q_hr, ⟨heard, rfl, w_heard⟩, hr_0⟩ := hr.cons
  obtain ⟨v_wants, l_hr_1, rfl, h_wants, hr_1⟩ := hr_0.cons
  have z_hr := hr_1.nil
  subst z_hr
  obtain rfl : cs = #[.int .u8 heard, v_wants] := by cases cs; simp_all
  have hhd := wf_u8 w_heard
  obtain ⟨hd, rfl⟩ : ∃ n : Nat, heard = n := ⟨heard.toNat, by omega⟩
  obtain ⟨x, c, l, rfl, hlc, hcm, hrd⟩ := words_open h_wants
  obtain ⟨y, d, bs, rfl, _, _, _, hy, hry⟩ := bytes_open (by kernel_rfl) (by kernel_rfl) (y_b.slc Try.underlying24)
  have hT : Tk [] W W [] [Ob.rd x l.length 1 (w32s l), Ob.rd y bs.length 1 (u8s bs)] := Tk.start W fun o ho => by
    simp only [List.mem_cons, List.not_mem_nil, or_false] at ho
    rcases ho with rfl | rfl
    · obtain ⟨f, h, _⟩ := of_rd hrd; exact ⟨f, h⟩
    · obtain ⟨f, h, _⟩ := of_rd hry; exact ⟨f, h⟩
  have hwalk : Calls Try.prog 4 _ W fun e W' => e = .returned (.bool true) ∧ Fr [] W W' := law12_Hellos hd (by omega) x c l hlc y d bs hy (by omega) W (List.mem_cons_self ..) (List.mem_cons_of_mem _ (List.mem_cons_self ..)) hT
  refine hwalk.mono fun e W' ⟨he, hf⟩ => ⟨_, he, law_post (s := Rows.frameHellosSpec) Try.laidOut rfl (fun ds hl => ?_) rfl Try.underlying4 (by kernel_rfl) hW (hf.below (Nat.le_refl _) (by simp))⟩
  match ds, hl with
  | [d0, d1], _ => rfl

theorem FrameHellos_holds : Rows.FrameHellosUptoSaid :=
  OpenClaim.holds_of_cond 4 Try.f4 rfl rfl rfl rfl rfl rfl rfl ⟨rfl, rfl, rfl, rfl, rfl⟩ rfl rfl rfl rfl rfl (by kernel_rfl) Try.func4 (by kernel_rfl)
    (of_decide_eq_true (by kernel_rfl)) (by unfold Func.isWrapper; first | (rw [if_pos (by decide +kernel)]; kernel_rfl) | (rw [if_neg (by decide +kernel)]; exact ⟨rfl, rfl⟩))
    (fun os started H enc _ F => FrameHellos_lifted os started H enc F)

end Go.Proofs.YthjdhmnmlblpfaaR
