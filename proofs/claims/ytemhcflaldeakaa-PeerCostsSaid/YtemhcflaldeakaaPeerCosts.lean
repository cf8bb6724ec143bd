/-
  Whatever a neighbour sends, within any ticks, its frames cost no more blocks than its toll lets (PeerCosts), whatever comes in.
-/
import Derived.Test.YtemhcflaldeakaaLCos18
namespace Go.Proofs.Ytemhcflaldeakaa
open Go.ChangeShapes Go.WideShapes Go.ChangeAt Go.RowKit Go.Fp
set_option maxHeartbeats 4000000
set_option maxRecDepth 100000 in
theorem PeerCosts_lifted (os : Os) (started : os.Started) (H : Type) (enc : TypeId × Value → H) :
    ReturnsInHanded {} Try.checked os 3 .any (Rows.peerCostsSpec.pre6 enc Try.prog Try.f3 Rows.peerCostsRow.domain false) (Rows.peerCostsSpec.post enc Try.prog Try.f3 false true false false) := by
  refine returnsInHanded_of_change (C := Try.checked) Try.own started (by kernel_rfl) Try.func3
    (ChangeSpec.witness6 (enc := enc) (C := Try.checked) false ⟨#[], #[.agg #[.int .i64 0, .int .i64 0, .int .i64 0, .int .i64 0], .agg #[.int .u8 0, .int .u8 0, .int .u8 0, .int .u8 0, .int .u8 0, .int .u8 0, .int .u8 0, .int .u8 0, .int .u8 0, .int .u8 0, .int .u8 0, .int .u8 0, .int .u8 0, .int .u8 0, .int .u8 0, .int .u8 0, .int .u8 0, .int .u8 0, .int .u8 0, .int .u8 0, .int .u8 0, .int .u8 0, .int .u8 0, .int .u8 0, .int .u8 0, .int .u8 0, .int .u8 0, .int .u8 0, .int .u8 0, .int .u8 0, .int .u8 0, .int .u8 0], .slice none 0 0], []⟩ 8 (by kernel_rfl) (by kernel_rfl) (by kernel_rfl) (by kernel_rfl)) ?_
  intro W base args ds gs before hval0 hW _ _
  obtain ⟨m, hm, hA⟩ : ∃ m, 0 ≤ m ∧ Args enc Try.prog W m base Try.f3.params.toList args.toList := by
    obtain ⟨p, q, hA0, hV0, _, _, _⟩ := hW
    exact ⟨_, Nat.zero_le _, args_of (Nat.le_refl _) (fun j t v ht hv => hval0 j t v (by simpa using ht) (by simpa using hv)) hA0⟩
  rw [Try.params3] at hA
  obtain ⟨v_r, r_r, e_r, y_r, hA⟩ := hA.cons
  obtain ⟨v_k, r_k, e_k, y_k, hA⟩ := hA.cons
  obtain ⟨v_s, r_s, e_s, y_s, hA⟩ := hA.cons
  have hA := hA.nil
  obtain rfl : args = #[v_r, v_k, v_s] := by cases args; simp_all
  clear hA e_r e_k e_s
  obtain ⟨cs, rfl, hrr⟩ := y_r.flat 3 (ks := [.int .i64, .int .i64, .int .i64, .int .i64]) (by kernel_rfl) (by kernel_rfl)
  obtain ⟨c_hrr_0, l_hrr_0, q_hrr, ⟨f, rfl, w_f⟩, hrr_0⟩ := hrr.cons
  obtain ⟨c_hrr_1, l_hrr_1, rfl, ⟨ft, rfl, w_ft⟩, hrr_1⟩ := hrr_0.cons
  obtain ⟨c_hrr_2, l_hrr_2, rfl, ⟨b, rfl, w_b⟩, hrr_2⟩ := hrr_1.cons
  obtain ⟨c_hrr_3, l_hrr_3, rfl, ⟨bt, rfl, w_bt⟩, hrr_3⟩ := hrr_2.cons
  have z_hrr := hrr_3.nil
  subst z_hrr
  obtain rfl : cs = #[.int .i64 f, .int .i64 ft, .int .i64 b, .int .i64 bt] := by cases cs; simp_all
  obtain ⟨ks, rfl, hkr⟩ := y_k.flat 3 (ks := List.replicate 32 (.int .u8)) (by kernel_rfl) (by kernel_rfl)
  obtain ⟨key, hkl, hks⟩ := All2.bytes hkr
  obtain rfl : ks = (u8s key).toArray := by rw [← hks]
  obtain ⟨x, c, os, rfl, hlc, hcm, hro, hq⟩ := stps_open (y_s.slc Try.underlying25)
  have hT : Tk [] W W [] (Ob.rd x os.length 41 (os.map Stp.cells).flatten :: os.map Stp.ob) := Tk.start W fun o ho => by
    rcases List.mem_cons.1 ho with rfl | ho
    · obtain ⟨f, h, _⟩ := of_rd hro; exact ⟨f, h⟩
    · obtain ⟨e, he, rfl⟩ := List.mem_map.1 ho
      obtain ⟨f, h, _⟩ := of_rd (hq e he).2; exact ⟨f, h⟩
  have hwalk : Calls Try.prog 3 _ W fun e W' => e = .returned (.bool true) ∧ Fr [] W W' := law18_Costs ⟨f, ft, b, bt⟩ key hkl x c os (by unfold maxLen at hcm; omega) W (fun o ho => ⟨(hq o ho).1, List.mem_cons_of_mem _ (List.mem_map.2 ⟨o, ho, rfl⟩)⟩) (List.mem_cons_self ..) hT
  refine hwalk.mono fun e W' ⟨he, hf⟩ => ⟨_, he, law_post (s := Rows.peerCostsSpec) Try.laidOut rfl (fun ds hl => ?_) rfl Try.underlying4 (by kernel_rfl) hW (hf.below (Nat.le_refl _) (by simp))⟩
  match ds, hl with
  | [d0, d1, d2], _ => rfl

theorem PeerCosts_holds : Rows.PeerCostsSaid :=
  OpenClaim.holds_of_wide 3 Try.f3 rfl rfl rfl rfl rfl rfl rfl ⟨rfl, rfl, rfl, rfl, rfl⟩ rfl rfl rfl rfl rfl (by kernel_rfl) Try.func3 (by kernel_rfl)
    (of_decide_eq_true (by kernel_rfl)) (by unfold Func.isWrapper; first | (rw [if_pos (by decide +kernel)]; kernel_rfl) | (rw [if_neg (by decide +kernel)]; exact ⟨rfl, rfl⟩))
    (fun os started H enc _ => PeerCosts_lifted os started H enc)

end Go.Proofs.Ytemhcflaldeakaa
