/-
  Any body of a kind that there may be has at most its size (BudgetSizes), whatever comes in.
-/
import Derived.Test.YtfcmjlbfoindaaaBase
import Derived.Test.YtfcmjlbfoindaaaLSiz31
import Derived.Test.YtfcmjlbfoindaaaSizW31
namespace Go.Proofs.Ytfcmjlbfoindaaa
open Go.ChangeShapes Go.WideShapes Go.ChangeAt Go.RowKit Go.Fp
set_option maxHeartbeats 4000000
def enKs : List Ck := [.int .i64, .int .u32, .int .u32, .int .i64] ++ List.replicate 16 (.int .u8) ++ [.slc 62, .slc 62]
theorem ens_open {H : Type} {enc : TypeId × Value → H} {w : World} {m : Nat} {v : Value} (h : CellIs enc Try.prog w m (.slc 75) v) :
    ∃ (x : Option Addr) (c : Nat) (es : List En), v = .slice x es.length c ∧ es.length ≤ c ∧ c ≤ maxLen ∧ Rdz w x es.length 22 (es.map En.cells).flatten ∧ ∀ e, e ∈ es → e.Ok ∧ Rdz w e.wx e.way.length 16 (u8s e.way.flatten) ∧ Rdz w e.px e.path.length 16 (u8s e.path.flatten) := by
  obtain ⟨x, c, es, h1, h2, h3, h4, h5, h6, h7⟩ := rows_open 6 (ks := enKs) En.cells (fun e => e.Ok ∧ Rdz w e.wx e.way.length 16 (u8s e.way.flatten) ∧ Rdz w e.px e.path.length 16 (u8s e.path.flatten)) (by kernel_rfl) (by kernel_rfl) (by decide) (fun cs h => by
    obtain ⟨a, b, rfl, h1, h2⟩ := All2.split (ks := [.int .i64, .int .u32, .int .u32, .int .i64] ++ List.replicate 16 (.int .u8)) (ks' := [.slc 62, .slc 62]) h
    obtain ⟨a1, a2, rfl, h3, h4⟩ := h1.split
    obtain ⟨k1, c1, rfl, ⟨dest, rfl, _⟩, h5⟩ := h3.cons
    obtain ⟨k2, c2, rfl, ⟨ep, rfl, wep⟩, h6⟩ := h5.cons
    obtain ⟨k3, c3, rfl, ⟨sq, rfl, wsq⟩, h7⟩ := h6.cons
    obtain ⟨k4, c4, rfl, ⟨me, rfl, _⟩, h8⟩ := h7.cons
    obtain rfl := h8.nil
    obtain ⟨leaf, hleaf, rfl⟩ := h4.bytes
    obtain ⟨k5, c5, rfl, hw, h9⟩ := h2.cons
    obtain ⟨k6, c6, rfl, hp, h10⟩ := h9.cons
    obtain rfl := h10.nil
    obtain ⟨wx, wc, way, rfl, _, _, _, _, w6, w7⟩ := sums_open 2 (k := 16) (by kernel_rfl) (by kernel_rfl) (by decide) hw
    obtain ⟨px, pc, path, rfl, _, _, _, _, p6, p7⟩ := sums_open 2 (k := 16) (by kernel_rfl) (by kernel_rfl) (by decide) hp
    have wep := wf_u32 wep
    have wsq := wf_u32 wsq
    refine ⟨⟨dest, ep.toNat, sq.toNat, me, leaf, wx, wc, way, px, pc, path⟩, ?_, ⟨by dsimp only; omega, by dsimp only; omega, hleaf, w7, p7⟩, w6, p6⟩
    have e1 : ((ep.toNat : Nat) : Int) = ep := by omega
    have e2 : ((sq.toNat : Nat) : Int) = sq := by omega
    simp [En.cells, e1, e2]) h
  exact ⟨x, c, es, h1, h2, h3, h6, h7⟩
theorem w32s_flat : ∀ l : List UInt32, (l.map fun b : UInt32 => [w32 b]).flatten = w32s l
  | [] => rfl
  | a :: l => by rw [List.map_cons, List.flatten_cons, w32s_flat l]; rfl
theorem words_open {H : Type} {enc : TypeId × Value → H} {w : World} {m : Nat} {v : Value} (h : CellIs enc Try.prog w m (.slc 61) v) :
    ∃ (x : Option Addr) (c : Nat) (l : List UInt32), v = .slice x l.length c ∧ l.length ≤ c ∧ c ≤ m ∧ Rdz w x l.length 1 (w32s l) := by
  obtain ⟨x, c, l, h1, h2, h3, h4, h5, h6, _⟩ := rows_open 1 (ks := [.int .u32]) (fun b : UInt32 => [w32 b]) (fun _ => True) (by kernel_rfl) (by kernel_rfl) (by decide) (fun cs h => by
    obtain ⟨k2, c2, rfl, ⟨ep, rfl, wep⟩, h6⟩ := h.cons
    obtain rfl := h6.nil
    have wep := wf_u32 wep
    refine ⟨UInt32.ofNat ep.toNat, ?_, trivial⟩
    have e : ((UInt32.ofNat ep.toNat).toNat : Int) = ep := by rw [UInt32.toNat_ofNat']; omega
    show [Value.int .u32 ep] = [Value.int .u32 ((UInt32.ofNat ep.toNat).toNat : Int)]
    rw [e]) h
  refine ⟨x, c, l, h1, h2, h4, ?_⟩
  have e := w32s_flat l
  rw [e] at h6
  exact h6
def sgKs : List Ck := [.int .i64, .int .u32] ++ List.replicate 1120 (.int .u8)
set_option maxRecDepth 100000
set_option maxRecDepth 100000 in
theorem BudgetSizes_lifted (os : Os) (started : os.Started) (H : Type) (enc : TypeId × Value → H) :
    ReturnsInHanded {} Try.checked os 5 .any (Rows.budgetSizesSpec.pre6 enc Try.prog Try.f5 Rows.budgetSizesRow.domain false) (Rows.budgetSizesSpec.post enc Try.prog Try.f5 false true false false) := by
  refine returnsInHanded_of_change (C := Try.checked) Try.own started (by kernel_rfl) Try.func5
    (⟨World.holding Try.checked.prog os sizIn, fun _ _ => 0, ⟨#[], sizIn.args, []⟩, rfl, World.shaped_of_B (siz_w1 os) (siz_w2 os), rfl, siz_ok _ _, ⟨ChangeSpec.pre_of_preB (siz_w4 os H enc), sizedMet_of_sizedB (siz_w5 os H enc)⟩, by simp only [Assume.holds]; exact ⟨by simp, by simp, fun _ => Modest.zero, by simp, by simp⟩⟩) ?_
  intro W base args ds gs before hval0 hW _ _
  obtain ⟨m, hm, hA⟩ : ∃ m, 0 ≤ m ∧ Args enc Try.prog W m base Try.f5.params.toList args.toList := by
    obtain ⟨p, q, hA0, hV0, _, _, _⟩ := hW
    exact ⟨_, Nat.zero_le _, args_of (Nat.le_refl _) (fun j t v ht hv => hval0 j t v (by simpa using ht) (by simpa using hv)) hA0⟩
  rw [Try.params5] at hA
  obtain ⟨v_u, r_u, e_u, y_u, hA⟩ := hA.cons
  obtain ⟨v_h, r_h, e_h, y_h, hA⟩ := hA.cons
  obtain ⟨v_s, r_s, e_s, y_s, hA⟩ := hA.cons
  have hA := hA.nil
  obtain rfl : args = #[v_u, v_h, v_s] := by cases args; simp_all
  clear hA e_u e_h e_s
  obtain ⟨cs, rfl, hru⟩ := y_u.flat 3 (ks := [.bool, .slc 75]) (by kernel_rfl) (by kernel_rfl)
  obtain ⟨c_hru_0, l_hru_0, q_hru, ⟨full, rfl⟩, hru_0⟩ := hru.cons
  obtain ⟨v_ens, l_hru_1, rfl, h_ens, hru_1⟩ := hru_0.cons
  have z_hru := hru_1.nil
  subst z_hru
  obtain rfl : cs = #[.bool full, v_ens] := by cases cs; simp_all
  obtain ⟨x, c, es, rfl, hlc, hcm, hr, hq⟩ := ens_open h_ens
  obtain ⟨ds, rfl, hrh⟩ := y_h.flat 3 (ks := [.int .u8, .slc 61]) (by kernel_rfl) (by kernel_rfl)
  obtain ⟨c_hrh_0, l_hrh_0, q_hrh, ⟨heard, rfl, w_heard⟩, hrh_0⟩ := hrh.cons
  obtain ⟨v_wants, l_hrh_1, rfl, h_wants, hrh_1⟩ := hrh_0.cons
  have z_hrh := hrh_1.nil
  subst z_hrh
  obtain rfl : ds = #[.int .u8 heard, v_wants] := by cases ds; simp_all
  have hhd := wf_u8 w_heard
  obtain ⟨hd, rfl⟩ : ∃ n : Nat, heard = n := ⟨heard.toNat, by omega⟩
  obtain ⟨y, d, l, rfl, hld, hdm, hrd⟩ := words_open h_wants
  obtain ⟨ss, rfl, hrs⟩ := y_s.flat 6 (ks := sgKs) (by kernel_rfl) (by kernel_rfl)
  obtain ⟨sa, sb, hss, h1, h2⟩ := All2.split (ks := [.int .i64, .int .u32]) (ks' := List.replicate 1120 (.int .u8)) hrs
  obtain ⟨k1, c1, rfl, ⟨dest, rfl, _⟩, h5⟩ := h1.cons
  obtain ⟨k2, c2, rfl, ⟨ep, rfl, wep⟩, h6⟩ := h5.cons
  obtain rfl := h6.nil
  obtain ⟨rs, hrl, rfl⟩ := h2.bytes
  have wep := wf_u32 wep
  obtain ⟨ep, rfl⟩ : ∃ n : Nat, ep = n := ⟨ep.toNat, by omega⟩
  obtain rfl : ss = (sgC dest ep rs).toArray := by rw [show sgC dest ep rs = [.int .i64 dest, .int .u32 ep] ++ u8s rs from rfl, ← hss]
  have hT : Tk [] W W [] (Ob.rd y l.length 1 (w32s l) :: Ob.rd x es.length 22 (es.map En.cells).flatten :: (es.map En.wob ++ es.map En.pob)) := Tk.start W fun o ho => by
    rcases List.mem_cons.1 ho with rfl | ho
    · obtain ⟨f, h, _⟩ := of_rd hrd; exact ⟨f, h⟩
    rcases List.mem_cons.1 ho with rfl | ho
    · obtain ⟨f, h, _⟩ := of_rd hr; exact ⟨f, h⟩
    · rcases List.mem_append.1 ho with ho | ho
      · obtain ⟨e, he, rfl⟩ := List.mem_map.1 ho
        obtain ⟨f, h, _⟩ := of_rd (hq e he).2.1; exact ⟨f, h⟩
      · obtain ⟨e, he, rfl⟩ := List.mem_map.1 ho
        obtain ⟨f, h, _⟩ := of_rd (hq e he).2.2; exact ⟨f, h⟩
  have hwalk : Calls Try.prog 5 _ W fun e W' => e = .returned (.bool true) ∧ Fr [] W W' := law31_Sizes full x c es (by unfold maxLen at hcm; omega) hd (by omega) y d l hld dest ep rs hrl (by omega) W (fun e he => ⟨(hq e he).1, List.mem_cons_of_mem _ (List.mem_cons_of_mem _ (List.mem_append_left _ (List.mem_map.2 ⟨e, he, rfl⟩))), List.mem_cons_of_mem _ (List.mem_cons_of_mem _ (List.mem_append_right _ (List.mem_map.2 ⟨e, he, rfl⟩)))⟩) (List.mem_cons_of_mem _ (List.mem_cons_self ..)) (List.mem_cons_self ..) hT
  refine hwalk.mono fun e W' ⟨he, hf⟩ => ⟨_, he, law_post (s := Rows.budgetSizesSpec) Try.laidOut rfl (fun ds hl => ?_) rfl Try.underlying4 (by kernel_rfl) hW (hf.below (Nat.le_refl _) (by simp))⟩
  match ds, hl with
  | [d0, d1, d2], _ => rfl

theorem BudgetSizes_holds : Rows.BudgetSizesSaid :=
  OpenClaim.holds_of_wide 5 Try.f5 rfl rfl rfl rfl rfl rfl rfl ⟨rfl, rfl, rfl, rfl, rfl⟩ rfl rfl rfl rfl rfl (by kernel_rfl) Try.func5 (by kernel_rfl)
    (of_decide_eq_true (by kernel_rfl)) (by unfold Func.isWrapper; first | (rw [if_pos (by decide +kernel)]; kernel_rfl) | (rw [if_neg (by decide +kernel)]; exact ⟨rfl, rfl⟩))
    (fun os started H enc _ => BudgetSizes_lifted os started H enc)

end Go.Proofs.Ytfcmjlbfoindaaa
