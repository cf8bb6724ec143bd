/-
  A body's pieces, in whatever order, some twice, are put together to it, once (PieceJoins), whatever the body and the pieces before it are.
-/
import Derived.Test.YtlmabhaenogbcaaOpn13
import Derived.Test.YtlmabhaenogbcaaLJn13d
namespace Go.Proofs.Ytlmabhaenogbcaa
open Go.ChangeShapes Go.WideShapes Go.ChangeAt Go.RowKit Go.Fp
theorem rd_start {w : World} {x : Option Addr} {n sz : Nat} {xs : List Value} (h : Rdz w x n sz xs) : ∃ f, (Ob.rd x n sz xs).P f w := by
  obtain ⟨f, h, _⟩ := of_rd h; exact ⟨f, h⟩
set_option maxRecDepth 100000 in
theorem PieceJoins_lifted (os : Os) (started : os.Started) (H : Type) (enc : TypeId × Value → H) :
    ReturnsInHanded {} Try.checked os 5 .any (Rows.pieceJoinsSpec.pre6 enc Try.prog Try.f5 Rows.pieceJoinsRow.domain false) (Rows.pieceJoinsSpec.post enc Try.prog Try.f5 false true false false) := by
  refine returnsInHanded_of_change (C := Try.checked) Try.own started (by kernel_rfl) Try.func5
    (ChangeSpec.witness6 (enc := enc) (C := Try.checked) false ⟨#[], #[.int .u32 0, .slice none 0 0, .int .i64 0, .slice none 0 0, .slice none 0 0, .slice none 0 0], []⟩ 8 (by kernel_rfl) (by kernel_rfl) (by kernel_rfl) (by kernel_rfl)) ?_
  intro W base args ds gs before hval0 hW _ _
  obtain ⟨m, hm, hA⟩ : ∃ m, 0 ≤ m ∧ Args enc Try.prog W m base Try.f5.params.toList args.toList := by
    obtain ⟨p, q, hA0, hV0, _, _, _⟩ := hW
    exact ⟨_, Nat.zero_le _, args_of (Nat.le_refl _) (fun j t v ht hv => hval0 j t v (by simpa using ht) (by simpa using hv)) hA0⟩
  rw [Try.params5] at hA
  obtain ⟨v_i, r_i, e_i, y_i, hA⟩ := hA.cons
  obtain ⟨v_b, r_b, e_b, y_b, hA⟩ := hA.cons
  obtain ⟨v_z, r_z, e_z, y_z, hA⟩ := hA.cons
  obtain ⟨v_t, r_t, e_t, y_t, hA⟩ := hA.cons
  obtain ⟨v_g, r_g, e_g, y_g, hA⟩ := hA.cons
  obtain ⟨v_l, r_l, e_l, y_l, hA⟩ := hA.cons
  have hA := hA.nil
  obtain rfl : args = #[v_i, v_b, v_z, v_t, v_g, v_l] := by cases args; simp_all
  clear hA e_i e_b e_z e_t e_g e_l
  obtain ⟨id, rfl, w_id⟩ := y_i.int Try.underlying22
  obtain ⟨xb, cb, bs, rfl, hbc, _, _, hxb, hrb⟩ := bytes_open (by kernel_rfl) (by kernel_rfl) (y_b.slc Try.underlying23)
  obtain ⟨size, rfl, _⟩ := y_z.int Try.underlying3
  obtain ⟨xt, ct, ts, rfl, htl, hrt⟩ := ints_open (by kernel_rfl) (by kernel_rfl) (y_t.slc Try.underlying50)
  obtain ⟨xg, cg, gs, rfl, hgl, hrg⟩ := ints_open (by kernel_rfl) (by kernel_rfl) (y_g.slc Try.underlying50)
  obtain ⟨x, c, ls, rfl, hl, hr, hq⟩ := prs_open (y_l.slc Try.underlying29)
  have hid := wf_u32 w_id
  obtain ⟨n, rfl⟩ : ∃ n : Nat, id = n := ⟨id.toNat, by omega⟩
  have hT : Tk [] W W [] (Ob.rd xb bs.length 1 (u8s bs) :: Ob.rd xt ts.length 1 (ts.map (Value.int .i64)) :: Ob.rd xg gs.length 1 (gs.map (Value.int .i64)) :: Ob.rd x ls.length 4 (ls.map Pr.cells).flatten :: ls.map fun r => Ob.rd r.x r.p.part.length 1 (u8s r.p.part)) := Tk.start W fun o ho => by
    simp only [List.mem_cons] at ho
    rcases ho with rfl | rfl | rfl | rfl | ho
    · exact rd_start hrb
    · exact rd_start hrt
    · exact rd_start hrg
    · exact rd_start hr
    · obtain ⟨r, hr, rfl⟩ := List.mem_map.1 ho
      exact rd_start (hq r hr).2.2
  have hwalk : Calls Try.prog 5 _ W fun e W' => e = .returned (.bool true) ∧ Fr [] W W' := law13_Joins n xb cb bs hxb hbc size xt ct ts htl xg cg gs x c ls hl (fun r hr => (hq r hr).1) W hT
  refine hwalk.mono fun e W' ⟨he, hf⟩ => ⟨_, he, law_post (s := Rows.pieceJoinsSpec) Try.laidOut rfl (fun ds hl => ?_) rfl Try.underlying4 (by kernel_rfl) hW (hf.below (Nat.le_refl _) (by simp))⟩
  match ds, hl with
  | [d0, d1, d2, d3, d4, d5], _ => rfl

theorem PieceJoins_holds : Rows.PieceJoinsSaid :=
  OpenClaim.holds_of_wide 5 Try.f5 rfl rfl rfl rfl rfl rfl rfl ⟨rfl, rfl, rfl, rfl, rfl⟩ rfl rfl rfl rfl rfl (by kernel_rfl) Try.func5 (by kernel_rfl)
    (of_decide_eq_true (by kernel_rfl)) (by unfold Func.isWrapper; first | (rw [if_pos (by decide +kernel)]; kernel_rfl) | (rw [if_neg (by decide +kernel)]; exact ⟨rfl, rfl⟩))
    (fun os started H enc _ => PieceJoins_lifted os started H enc)

end Go.Proofs.Ytlmabhaenogbcaa
