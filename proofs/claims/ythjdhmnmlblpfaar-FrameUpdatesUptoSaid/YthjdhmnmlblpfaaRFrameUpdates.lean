/-
  Any update's bytes, and the update of any bytes, or why there is none, are the document's; an update is read back (FrameUpdates), where what comes in is of bulk at most 1048576.
-/
import Derived.Test.YthjdhmnmlblpfaaRBase
import Derived.Test.YthjdhmnmlblpfaaRLUpd12
namespace Go.Proofs.YthjdhmnmlblpfaaR
open Go.ChangeShapes Go.WideShapes Go.ChangeAt Go.RowKit Go.Fp
set_option maxHeartbeats 4000000
def enKs : List Ck := [.int .i64, .int .u32, .int .u32, .int .i64] ++ List.replicate 16 (.int .u8) ++ [.slc 57, .slc 57]
theorem ens_open {H : Type} {enc : TypeId × Value → H} {w : World} {m : Nat} {v : Value} (h : CellIs enc Try.prog w m (.slc 117) v) :
    ∃ (x : Option Addr) (c : Nat) (es : List En), v = .slice x es.length c ∧ es.length ≤ c ∧ c ≤ m ∧ Rdz w x es.length 22 (es.map En.cells).flatten ∧ ∀ e, e ∈ es → e.Ok ∧ Rdz w e.wx e.way.length 16 (u8s e.way.flatten) ∧ Rdz w e.px e.path.length 16 (u8s e.path.flatten) ∧ e.way.length ≤ m ∧ e.path.length ≤ m := by
  obtain ⟨x, c, es, h1, h2, h3, h4, h5, h6, h7⟩ := rows_open 6 (ks := enKs) En.cells (fun e => e.Ok ∧ Rdz w e.wx e.way.length 16 (u8s e.way.flatten) ∧ Rdz w e.px e.path.length 16 (u8s e.path.flatten) ∧ e.way.length ≤ m ∧ e.path.length ≤ m) (by kernel_rfl) (by kernel_rfl) (by decide) (fun cs h => by
    obtain ⟨a, b, rfl, h1, h2⟩ := All2.split (ks := [.int .i64, .int .u32, .int .u32, .int .i64] ++ List.replicate 16 (.int .u8)) (ks' := [.slc 57, .slc 57]) h
    obtain ⟨a1, a2, rfl, h3, h4⟩ := h1.split
    obtain ⟨k1, c1, rfl, ⟨dest, rfl, _⟩, h5⟩ := h3.cons
    obtain ⟨k2, c2, rfl, ⟨ep, rfl, wep⟩, h6⟩ := h5.cons
    obtain ⟨k3, c3, rfl, ⟨sq, rfl, wsq⟩, h7⟩ := h6.cons
    obtain ⟨k4, c4, rfl, ⟨me, rfl, _⟩, h8⟩ := h7.cons
    obtain rfl := h8.nil
    obtain ⟨leaf, hleaf, rfl⟩ := h4.bytes
    obtain ⟨k5, c5, rfl, hw, h9⟩ := h2.cons
    obtain ⟨k6, c6, rfl, hp, h10⟩ := h9.cons
    obtain rfl := h10.nil
    obtain ⟨wx, wc, way, rfl, w1, _, w3, _, w6, w7⟩ := sums_open 2 (k := 16) (by kernel_rfl) (by kernel_rfl) (by decide) hw
    obtain ⟨px, pc, path, rfl, p1, _, p3, _, p6, p7⟩ := sums_open 2 (k := 16) (by kernel_rfl) (by kernel_rfl) (by decide) hp
    have wep := wf_u32 wep
    have wsq := wf_u32 wsq
    refine ⟨⟨dest, ep.toNat, sq.toNat, me, leaf, wx, wc, way, px, pc, path⟩, ?_, ⟨by dsimp only; omega, by dsimp only; omega, hleaf, w7, p7⟩, w6, p6, by dsimp only; omega, by dsimp only; omega⟩
    have e1 : ((ep.toNat : Nat) : Int) = ep := by omega
    have e2 : ((sq.toNat : Nat) : Int) = sq := by omega
    simp [En.cells, e1, e2]) h
  exact ⟨x, c, es, h1, h2, h4, h6, h7⟩
set_option maxRecDepth 100000 in
theorem FrameUpdates_lifted (os : Os) (started : os.Started) (H : Type) (enc : TypeId × Value → H) (F : Stop.Interp) :
    ReturnsInHanded {} Try.checked os 7 .any ((Rows.OpenSpec.upto Rows.frameUpdatesSpec).pre6 enc Try.prog Try.f7 Rows.frameUpdatesUptoRow.domain false) (((Rows.OpenSpec.upto Rows.frameUpdatesSpec).at F).post enc Try.prog Try.f7 false true false false) := by
  refine returnsInHanded_of_cond (C := Try.checked) (s := (Rows.OpenSpec.upto Rows.frameUpdatesSpec)) (k := Rows.uptoSmall) rfl Try.own started (by kernel_rfl) Try.func7
    (OpenSpec.witness (enc := enc) (C := Try.checked) (s := (Rows.OpenSpec.upto Rows.frameUpdatesSpec)) (k := Rows.uptoSmall) rfl false ⟨#[], #[.agg #[.bool false, .slice none 0 0], .slice none 0 0], []⟩ 8 (by kernel_rfl) (by kernel_rfl) (by kernel_rfl)
      (x := ([.agg [.lit (.bool false), .nil], .nil], [], [])) (by kernel_rfl) rfl (by kernel_rfl)) ?_
  intro W base args ds gs before hval0 hW _ hk _
  obtain ⟨m, hm, hA⟩ : ∃ m, m ≤ 1048576 ∧ Args enc Try.prog W m base Try.f7.params.toList args.toList := by
    obtain ⟨p, q, hA0, hV0, _, _, _⟩ := hW
    have hg : gs = [] := by cases gs with | nil => rfl | cons g gs => exact hV0.elim
    subst hg
    rw [List.append_nil] at hk
    exact ⟨_, of_decide_eq_true hk, args_of (Nat.le_refl _) (fun j t v ht hv => hval0 j t v (by simpa using ht) (by simpa using hv)) hA0⟩
  rw [Try.params7] at hA
  obtain ⟨v_u, r_u, e_u, y_u, hA⟩ := hA.cons
  obtain ⟨v_b, r_b, e_b, y_b, hA⟩ := hA.cons
  have hA := hA.nil
  obtain rfl : args = #[v_u, v_b] := by cases args; simp_all
  clear hA e_u e_b
  obtain ⟨cs, rfl, hru⟩ := y_u.flat 3 (ks := [.bool, .slc 117]) (by kernel_rfl) (by kernel_rfl)
  obtain ⟨c_hru_0, l_hru_0, q_hru, ⟨full, rfl⟩, hru_0⟩ := hru.cons
  obtain ⟨v_ens, l_hru_1, rfl, h_ens, hru_1⟩ := hru_0.cons
  have z_hru := hru_1.nil
  subst z_hru
  obtain rfl : cs = #[.bool full, v_ens] := by cases cs; simp_all
  obtain ⟨x, c, es, rfl, hlc, hcm, hr, hq⟩ := ens_open h_ens
  obtain ⟨y, d, bs, rfl, hyd, _, _, hy, hry⟩ := bytes_open (by kernel_rfl) (by kernel_rfl) (y_b.slc Try.underlying24)
  have hT : Tk [] W W [] (Ob.rd y bs.length 1 (u8s bs) :: Ob.rd x es.length 22 (es.map En.cells).flatten :: (es.map En.wob ++ es.map En.pob)) := Tk.start W fun o ho => by
    rcases List.mem_cons.1 ho with rfl | ho
    · obtain ⟨f, h, _⟩ := of_rd hry; exact ⟨f, h⟩
    rcases List.mem_cons.1 ho with rfl | ho
    · obtain ⟨f, h, _⟩ := of_rd hr; exact ⟨f, h⟩
    · rcases List.mem_append.1 ho with ho | ho
      · obtain ⟨e, he, rfl⟩ := List.mem_map.1 ho
        obtain ⟨f, h, _⟩ := of_rd (hq e he).2.1; exact ⟨f, h⟩
      · obtain ⟨e, he, rfl⟩ := List.mem_map.1 ho
        obtain ⟨f, h, _⟩ := of_rd (hq e he).2.2.1; exact ⟨f, h⟩
  have hwalk : Calls Try.prog 7 _ W fun e W' => e = .returned (.bool true) ∧ Fr [] W W' := law12_Updates full x c es (by omega) y d bs hy (by omega) W (fun e he => ⟨(hq e he).1, List.mem_cons_of_mem _ (List.mem_cons_of_mem _ (List.mem_append_left _ (List.mem_map.2 ⟨e, he, rfl⟩))), List.mem_cons_of_mem _ (List.mem_cons_of_mem _ (List.mem_append_right _ (List.mem_map.2 ⟨e, he, rfl⟩)))⟩) (List.mem_cons_of_mem _ (List.mem_cons_self ..)) (List.mem_cons_self ..) hT
  refine hwalk.mono fun e W' ⟨he, hf⟩ => ⟨_, he, law_post (s := Rows.frameUpdatesSpec) Try.laidOut rfl (fun ds hl => ?_) rfl Try.underlying4 (by kernel_rfl) hW (hf.below (Nat.le_refl _) (by simp))⟩
  match ds, hl with
  | [d0, d1], _ => rfl

theorem FrameUpdates_holds : Rows.FrameUpdatesUptoSaid :=
  OpenClaim.holds_of_cond 7 Try.f7 rfl rfl rfl rfl rfl rfl rfl ⟨rfl, rfl, rfl, rfl, rfl⟩ rfl rfl rfl rfl rfl (by kernel_rfl) Try.func7 (by kernel_rfl)
    (of_decide_eq_true (by kernel_rfl)) (by unfold Func.isWrapper; first | (rw [if_pos (by decide +kernel)]; kernel_rfl) | (rw [if_neg (by decide +kernel)]; exact ⟨rfl, rfl⟩))
    (fun os started H enc _ F => FrameUpdates_lifted os started H enc F)

end Go.Proofs.YthjdhmnmlblpfaaR
