/-
  Piece by piece what a joiner answers, and what it waits for, are the document's (PiecePlays), whatever the pieces are.
-/
import Derived.Test.YtlmabhaenogbcaaOpn
import Derived.Test.YtlmabhaenogbcaaLPly13
namespace Go.Proofs.Ytlmabhaenogbcaa
open Go.ChangeShapes Go.WideShapes Go.ChangeAt Go.RowKit Go.Fp
def prKs : List Ck := [.int .u32, .int .i64, .int .i64, .slc 5]
theorem prs_open {H : Type} {enc : TypeId × Value → H} {w : World} {m : Nat} {v : Value} (h : CellIs enc Try.prog w m (.slc 34) v) :
    ∃ (x : Option Addr) (c : Nat) (ls : List Pr), v = .slice x ls.length c ∧ ls.length ≤ maxLen ∧ Rdz w x ls.length 4 (ls.map Pr.cells).flatten ∧ ∀ r, r ∈ ls → (r.x = none → r.p.part.length = 0 ∧ r.c = 0) ∧ r.p.part.length ≤ m ∧ Rdz w r.x r.p.part.length 1 (u8s r.p.part) := by
  obtain ⟨x, c, ls, h1, h2, h3, h4, h5, h6, h7⟩ := rows_open 4 (ks := prKs) Pr.cells (fun r => (r.x = none → r.p.part.length = 0 ∧ r.c = 0) ∧ r.p.part.length ≤ m ∧ Rdz w r.x r.p.part.length 1 (u8s r.p.part)) (by kernel_rfl) (by kernel_rfl) (by decide) (fun cs h => by
    obtain ⟨k1, c1, rfl, ⟨id, rfl, w1⟩, h1⟩ := h.cons
    obtain ⟨k2, c2, rfl, ⟨pl, rfl, _⟩, h2⟩ := h1.cons
    obtain ⟨k3, c3, rfl, ⟨many, rfl, _⟩, h3⟩ := h2.cons
    obtain ⟨k4, c4, rfl, hb, h4⟩ := h3.cons
    obtain rfl := h4.nil
    obtain ⟨xb, cb, bs, rfl, b1, b2, b3, b4, b5⟩ := bytes_open (by kernel_rfl) (by kernel_rfl) hb
    have hid := wf_u32 w1
    obtain ⟨n, rfl⟩ : ∃ n : Nat, id = n := ⟨id.toNat, by omega⟩
    exact ⟨⟨⟨n, pl, many, bs⟩, xb, cb⟩, rfl, b4, by dsimp only; omega, b5⟩) h
  exact ⟨x, c, ls, h1, Nat.le_trans h2 h3, h6, h7⟩
theorem prs_start {w : World} {x : Option Addr} {ls : List Pr} (h1 : Rdz w x ls.length 4 (ls.map Pr.cells).flatten) (h2 : ∀ r, r ∈ ls → Rdz w r.x r.p.part.length 1 (u8s r.p.part)) : ∀ o, o ∈ Ob.rd x ls.length 4 (ls.map Pr.cells).flatten :: ls.map prd → ∃ f, o.P f w := fun o ho => by
  rcases List.mem_cons.1 ho with rfl | ho
  · obtain ⟨f, h, _⟩ := of_rd h1; exact ⟨f, h⟩
  · obtain ⟨r, hr, rfl⟩ := List.mem_map.1 ho
    obtain ⟨f, h, _⟩ := of_rd (h2 r hr); exact ⟨f, h⟩
set_option maxRecDepth 100000 in
theorem PiecePlays_lifted (os : Os) (started : os.Started) (H : Type) (enc : TypeId × Value → H) :
    ReturnsInHanded {} Try.checked os 4 .any (Rows.piecePlaysSpec.pre6 enc Try.prog Try.f4 Rows.piecePlaysRow.domain false) (Rows.piecePlaysSpec.post enc Try.prog Try.f4 false true false false) := by
  refine returnsInHanded_of_change (C := Try.checked) Try.own started (by kernel_rfl) Try.func4
    (ChangeSpec.witness6 (enc := enc) (C := Try.checked) false ⟨#[], #[.slice none 0 0], []⟩ 8 (by kernel_rfl) (by kernel_rfl) (by kernel_rfl) (by kernel_rfl)) ?_
  intro W base args ds gs before hval0 hW _ _
  obtain ⟨m, hm, hA⟩ : ∃ m, 0 ≤ m ∧ Args enc Try.prog W m base Try.f4.params.toList args.toList := by
    obtain ⟨p, q, hA0, hV0, _, _, _⟩ := hW
    exact ⟨_, Nat.zero_le _, args_of (Nat.le_refl _) (fun j t v ht hv => hval0 j t v (by simpa using ht) (by simpa using hv)) hA0⟩
  rw [Try.params4] at hA
  obtain ⟨v_l, r_l, e_l, y_l, hA⟩ := hA.cons
  have hA := hA.nil
  obtain rfl : args = #[v_l] := by cases args; simp_all
  clear hA e_l
  obtain ⟨x, c, ls, rfl, hl, hr, hq⟩ := prs_open (y_l.slc Try.underlying29)
  have hT : Tk [] W W [] (Ob.rd x ls.length 4 (ls.map Pr.cells).flatten :: ls.map prd) := Tk.start W (prs_start hr (fun r hr => (hq r hr).2.2))
  have hwalk : Calls Try.prog 4 _ W fun e W' => e = .returned (.bool true) ∧ Fr [] W W' := law13_Plays x c ls hl (fun r hr => (hq r hr).1) W hT
  refine hwalk.mono fun e W' ⟨he, hf⟩ => ⟨_, he, law_post (s := Rows.piecePlaysSpec) Try.laidOut rfl (fun ds hl => ?_) rfl Try.underlying4 (by kernel_rfl) hW (hf.below (Nat.le_refl _) (by simp))⟩
  match ds, hl with
  | [d0], _ => rfl

theorem PiecePlays_holds : Rows.PiecePlaysSaid :=
  OpenClaim.holds_of_wide 4 Try.f4 rfl rfl rfl rfl rfl rfl rfl ⟨rfl, rfl, rfl, rfl, rfl⟩ rfl rfl rfl rfl rfl (by kernel_rfl) Try.func4 (by kernel_rfl)
    (of_decide_eq_true (by kernel_rfl)) (by unfold Func.isWrapper; first | (rw [if_pos (by decide +kernel)]; kernel_rfl) | (rw [if_neg (by decide +kernel)]; exact ⟨rfl, rfl⟩))
    (fun os started H enc _ => PiecePlays_lifted os started H enc)

end Go.Proofs.Ytlmabhaenogbcaa
