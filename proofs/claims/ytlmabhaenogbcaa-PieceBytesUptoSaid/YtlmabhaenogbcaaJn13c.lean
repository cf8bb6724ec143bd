/- THE WALK of a joiner: Take of a piece that isn't too old. -/
import Derived.Test.YtlmabhaenogbcaaJn13d
import Derived.Test.YtlmabhaenogbcaaJn13f
namespace Go.Proofs.Ytlmabhaenogbcaa
open Go.RowKit Go.Fp
attribute [local irreducible] Go.Calls
set_option maxRecDepth 100000
set_option maxHeartbeats 8000000
section
variable (q : Nat) (s : JS) (p : Pc) (x : Option Addr) (c : Nat) (f : List Nat) (w : World) {m : List Ob} (hT : Tk f w w [J q s] (Ob.rd x p.part.length 1 (u8s p.part) :: m)) (hx : x = none → p.part.length = 0 ∧ c = 0)
include hT hx
theorem pce_TakeC (hr : rightP p) (ho : ¬ oldJ s p) : Calls Try.prog 15 #[.pointer (some ⟨q, 0, none⟩), .agg (Pr.cells ⟨p, x, c⟩).toArray] w (TakePost q x p f w m (goJ (headJ s p) p)) := by
  have cR := fun ww => right_1 (x := x) (c := c) (bdec_true' hr) ww
  obtain ⟨r1, r2, r3, r4, r5⟩ := hr
  have hid : (headJ s p).id = p.id ∧ (headJ s p).any = true ∧ (headJ s p).over = false := by
    unfold headJ
    unfold oldJ at ho
    split
    · exact ⟨rfl, rfl, rfl⟩
    · rename_i h
      have h1 : s.any = true := by cases h2 : s.any; exact absurd (.inl h2) h; rfl
      have h2 : ¬ s.id < p.id := fun h2 => h (.inr h2)
      have h3 : p.id = s.id := by
        rcases Nat.lt_trichotomy p.id s.id with h4 | h4 | h4
        · exact absurd ⟨h1, .inl h4⟩ ho
        · exact h4
        · exact absurd h4 h2
      refine ⟨h3.symm, h1, ?_⟩
      cases h4 : s.over
      · rfl
      · exact absurd ⟨h1, .inr ⟨h3, h4⟩⟩ ho
  have hB := fun k hk vs hvs f1 ww (h) => pce_begin q p.id k hk vs hvs p.at_ x p.part.length c f1 ww (m := Ob.rd x p.part.length 1 (u8s p.part) :: m) h
  obtain ⟨k, hk⟩ : ∃ k : Nat, p.many = k := ⟨p.many.toNat, by omega⟩
  obtain ⟨a, ha⟩ : ∃ a : Nat, p.at_ = a := ⟨p.at_.toNat, by omega⟩
  obtain ⟨id, at_, many, part⟩ := p
  dsimp only at hT hk ha r1 r2 r3 r4 r5 hid hx hB
  subst hk ha
  rw [show Pr.cells ⟨⟨id, (a : Int), (k : Int), part⟩, x, c⟩ = [.int .u32 id, .int .i64 a, .int .i64 k, .slice x part.length c] from rfl] at *
  refine enter [(0, _), (1, _)] Try.func15 rfl Try.ntmps15 (Nat.le_of_ble_eq_true rfl) rfl ?_; intro a0 hN
  repeat' (first
    | (refine isT ?_; (first | (refine T_assign hN rfl (by first | exact .inr trivial | exact .inl rfl) ?_) | (refine T_fieldAddr hN rfl (by first | exact .inr trivial | exact .inl rfl) ?_) | (refine T_move hN rfl (by first | exact .inr trivial | exact .inl rfl) ?_) | (refine T_nilCheck hN rfl (by first | exact .inr trivial | exact .inl rfl) ?_) | (refine T_not hN rfl (by first | exact .inr trivial | exact .inl rfl) ?_) | (refine T_nil ?_) | (refine is_load ?_; (first | (refine T_loadn (t := 36) (us := [_, _, _, _]) hN rfl (hT.has 0 rfl) rfl rfl (by first | exact .inl rfl | exact .inr ⟨by decide, trivial⟩) ?_))) | (refine is_binOp ?_; (first | (refine T_eqlnil hN rfl rfl (by first | exact .inr trivial | exact .inl rfl) ?_))) | (refine is_call ?_; (first | (refine is_call ?_; refine T_call (f := 23) hN rfl (by decide) (cR _) ?_; rintro e ww ⟨rfl, hf⟩; replace hT := hT.same hf; clear hf; refine ⟨_, rfl, (by first | exact trivial | ((repeat' (first | exact hT.has 0 rfl | exact hT.has 1 rfl | exact hT.has 2 rfl | exact hT.has 3 rfl | exact hT.has 4 rfl | exact hT.has 5 rfl | exact hT.ord 0 rfl | exact hT.ord 1 rfl | exact hT.ord 2 rfl | exact hT.ord 3 rfl | exact hT.ord 4 rfl | exact hT.ord 5 rfl | exact hT.mrd (by assumption) | refine And.intro ?_ ?_)); done)), ?_⟩))) | (refine is_box ?_; (first | (refine T_box hN hT rfl (by decide) ?_; clear hT; intro g ww hT; refine ⟨(by first | exact trivial), ?_⟩)))))
    | (refine isC ?_; (first | (refine C_cutB (id := 0) (X := List Pt) 185 (fun _ => [(0, .pointer (some ⟨q, 0, none⟩)), (3, .pointer (some ⟨g, 0, none⟩))]) (fun P w1 => P.map Pt.kv = (headJ s ⟨id, a, k, part⟩).parts ∧ Tk f w w1 [JOn q id (headJ s ⟨id, a, k, part⟩).many P, Ob.blk g 36 [.int .u32 id, .int .i64 a, .int .i64 k, .slice x part.length c]] (Ob.rd x part.length 1 (u8s part) :: m)) ?_ ?_) | (refine C_seq ?_) | (refine C_rgnk (id := 0) hN [(0, _), (1, _)] ⟨rfl, rfl, trivial⟩ ?_; clear hN; intro a0 hN) | (refine C_rgnk (id := 1) hN [(0, _), (1, _), (3, _), (4, _), (5, _), (6, _)] ⟨rfl, rfl, rfl, rfl, rfl, rfl, trivial⟩ ?_; clear hN; intro a0 hN) | (refine C_rgnk (id := 3) hN [(0, _), (1, _), (3, _), (4, _), (5, _), (6, _), (9, _)] ⟨rfl, rfl, rfl, rfl, rfl, rfl, rfl, trivial⟩ ?_; clear hN; intro a0 hN) | (refine C_false hN rfl ?_) | (refine C_block ?_) | (refine C_drawk (id := 5) hN [(0, _), (1, _), (3, _), (4, _), (5, _), (6, _), (9, _), (12, _)] ⟨rfl, rfl, rfl, rfl, rfl, rfl, rfl, rfl, trivial⟩ [0, 0, 0, 1, 0, 0, 1, 0, 0, 0, 1, 0, 0, 0, 1, 0, 0, 0, 1] Any Try.mixed (by kernel_rfl) trivial ?_; replace hT := hT.drew; clear hN; intro a0 hN)))
    | (refine isE ?_; (first | (refine E_thn ?_))))
  · by_cases h1 : s.any = false
    · have hn : ¬ (s.any = true ∧ s.over = false) := fun h => by rw [h1] at h; cases h.1
      obtain ⟨a', b', c', x1, n1, c1, x2, n2, c2, hT2⟩ := JOff.open (J.openOff hT.swap hn)
      clear hT
      have hT := hT2
      clear hT2
      rw [h1] at hT
      have he : headJ s ⟨id, a, k, part⟩ = ⟨true, false, id, k, []⟩ := by simp [headJ, h1]
      repeat' (first
        | (refine isT ?_; (first | (refine isGuard ?_; (first | (refine T_no hN rfl rfl rfl rfl ?_) | (refine T_nou hN rfl rfl rfl ?_))) | (refine T_assign hN rfl (by first | exact .inr trivial | exact .inl rfl) ?_) | (refine T_fieldAddr hN rfl (by first | exact .inr trivial | exact .inl rfl) ?_) | (refine T_move hN rfl (by first | exact .inr trivial | exact .inl rfl) ?_) | (refine T_nilCheck hN rfl (by first | exact .inr trivial | exact .inl rfl) ?_) | (refine T_not hN rfl (by first | exact .inr trivial | exact .inl rfl) ?_) | (refine T_nil ?_) | (refine T_nild ?_) | (refine is_load ?_; (first | (refine T_load hN rfl (hT.has 0 rfl) rfl (by first | exact .inl rfl | exact .inr ⟨by decide, trivial⟩) ?_) | (refine T_loadn (t := 36) (us := [_, _, _, _]) hN rfl (hT.has 1 rfl) rfl rfl (by first | exact .inl rfl | exact .inr ⟨by decide, trivial⟩) ?_))) | (refine is_pick ?_; (first | (refine T_pick1 hN rfl rfl (by first | exact .inr trivial | exact .inl rfl) ?_) | (refine T_pick0 hN rfl rfl (by first | exact .inr trivial | exact .inl rfl) ?_))) | (refine is_call ?_; (first | (refine is_call ?_; obtain ⟨f1, hP, hK⟩ := hT.call1m 0 rfl; refine T_call (f := 24) hN rfl (by decide) (hB k ⟨by omega, by omega⟩ _ rfl f1 _ hP) ?_; rintro e ww ⟨rfl, h1⟩; clear hT hP; replace hT := hK _ _ _ _ h1; clear hK h1; refine ⟨_, rfl, (by first | exact trivial | ((repeat' (first | exact hT.has 0 rfl | exact hT.has 1 rfl | exact hT.has 2 rfl | exact hT.has 3 rfl | exact hT.has 4 rfl | exact hT.has 5 rfl | exact hT.ord 0 rfl | exact hT.ord 1 rfl | exact hT.ord 2 rfl | exact hT.ord 3 rfl | exact hT.ord 4 rfl | exact hT.ord 5 rfl | exact hT.mrd (by assumption) | refine And.intro ?_ ?_)); done)), ?_⟩)))))
        | (refine isC ?_; (first | (refine C_seq ?_) | (refine C_rgnk (id := 8) hN [(0, _), (1, _), (3, _), (4, _), (5, _), (6, _), (9, _), (12, _), (16, _), (45, _)] ⟨rfl, rfl, rfl, rfl, rfl, rfl, rfl, rfl, rfl, rfl, trivial⟩ ?_; clear hN; intro a0 hN) | (refine C_true hN rfl ?_) | (refine C_false hN rfl ?_) | (refine C_drawk (id := 7) hN [(0, _), (1, _), (3, _), (4, _), (5, _), (6, _), (9, _), (12, _), (16, _)] ⟨rfl, rfl, rfl, rfl, rfl, rfl, rfl, rfl, rfl, trivial⟩ [0, 0, 0, 1, 0, 0, 0, 1, 0, 0, 0, 1] Any Try.mixed (by kernel_rfl) trivial ?_; replace hT := hT.drew; clear hN; intro a0 hN)))
        | (refine isE ?_; (first | (refine E_thn ?_) | (refine E_blk ?_))))
      all_goals exact E_mk hN [] ⟨rfl, rfl, trivial⟩ ⟨by rw [he]; rfl, by rw [he]; exact hT⟩
    have h1' : s.any = true := by simpa using h1
    have hge : ¬ id < s.id := fun h => ho ⟨h1', .inl h⟩
    by_cases h2 : s.over = true
    · have hlt : s.id < id := by
        rcases Nat.lt_trichotomy id s.id with h4 | h4 | h4
        · exact absurd h4 hge
        · exact absurd ⟨h1', .inr ⟨h4, h2⟩⟩ ho
        · exact h4
      have hn : ¬ (s.any = true ∧ s.over = false) := fun h => by rw [h2] at h; cases h.2
      obtain ⟨a', b', c', x1, n1, c1, x2, n2, c2, hT2⟩ := JOff.open (J.openOff hT.swap hn)
      clear hT
      have hT := hT2
      clear hT2
      rw [h1', h2] at hT
      have he : headJ s ⟨id, a, k, part⟩ = ⟨true, false, id, k, []⟩ := by simp [headJ, hlt]
      repeat' (first
        | (refine isT ?_; (first | (refine isGuard ?_; (first | (refine T_yes hN rfl rfl rfl ?_) | (refine T_no hN rfl rfl rfl rfl ?_) | (refine T_guardD hN rfl rfl rfl (fun hb => ?_) (fun hb => ?_) <;> ((first | (exfalso; omega) | (exfalso; exact hb rfl) | (exfalso; exact hb (fun h => h rfl)) | ((with_reducible refine absurd ?_ hb); (repeat' (first | exact trivial | refine And.intro rfl ?_)); done) | (replace hb := Classical.not_not.1 hb) | skip))))) | (refine T_assign hN rfl (by first | exact .inr trivial | exact .inl rfl) ?_) | (refine T_fieldAddr hN rfl (by first | exact .inr trivial | exact .inl rfl) ?_) | (refine T_move hN rfl (by first | exact .inr trivial | exact .inl rfl) ?_) | (refine T_nilCheck hN rfl (by first | exact .inr trivial | exact .inl rfl) ?_) | (refine T_not hN rfl (by first | exact .inr trivial | exact .inl rfl) ?_) | (refine T_nil ?_) | (refine T_nild ?_) | (refine is_load ?_; (first | (refine T_load hN rfl (hT.has 0 rfl) rfl (by first | exact .inl rfl | exact .inr ⟨by decide, trivial⟩) ?_) | (refine T_load hN rfl (hT.has 1 rfl) rfl (by first | exact .inl rfl | exact .inr ⟨by decide, trivial⟩) ?_) | (refine T_loadn (t := 36) (us := [_, _, _, _]) hN rfl (hT.has 1 rfl) rfl rfl (by first | exact .inl rfl | exact .inr ⟨by decide, trivial⟩) ?_))) | (refine is_binOp ?_; (first | (refine T_eql hN rfl rfl (by first | exact .inr trivial | exact .inl rfl) ?_) | (refine T_gtr hN rfl rfl (by first | exact .inr trivial | exact .inl rfl) ?_) | (refine T_lss hN rfl rfl (by first | exact .inr trivial | exact .inl rfl) ?_))) | (refine is_pick ?_; (first | (refine T_pick1 hN rfl rfl (by first | exact .inr trivial | exact .inl rfl) ?_) | (refine T_pick0 hN rfl rfl (by first | exact .inr trivial | exact .inl rfl) ?_))) | (refine is_call ?_; (first | (refine is_call ?_; obtain ⟨f1, hP, hK⟩ := hT.call1m 0 rfl; refine T_call (f := 24) hN rfl (by decide) (hB k ⟨by omega, by omega⟩ _ rfl f1 _ hP) ?_; rintro e ww ⟨rfl, h1⟩; clear hT hP; replace hT := hK _ _ _ _ h1; clear hK h1; refine ⟨_, rfl, (by first | exact trivial | ((repeat' (first | exact hT.has 0 rfl | exact hT.has 1 rfl | exact hT.has 2 rfl | exact hT.has 3 rfl | exact hT.has 4 rfl | exact hT.has 5 rfl | exact hT.ord 0 rfl | exact hT.ord 1 rfl | exact hT.ord 2 rfl | exact hT.ord 3 rfl | exact hT.ord 4 rfl | exact hT.ord 5 rfl | exact hT.mrd (by assumption) | refine And.intro ?_ ?_)); done)), ?_⟩)))))
        | (refine isC ?_; (first | (refine C_seq ?_) | (refine C_rgnk (id := 8) hN [(0, _), (1, _), (3, _), (4, _), (5, _), (6, _), (9, _), (12, _), (16, _), (45, _)] ⟨rfl, rfl, rfl, rfl, rfl, rfl, rfl, rfl, rfl, rfl, trivial⟩ ?_; clear hN; intro a0 hN) | (refine C_false hN rfl ?_) | (refine C_if hN rfl (fun hb => ?_) (fun hb => ?_) <;> ((first | (exfalso; omega) | (exfalso; exact hb rfl) | (exfalso; exact hb (fun h => h rfl)) | ((with_reducible refine absurd ?_ hb); (repeat' (first | exact trivial | refine And.intro rfl ?_)); done) | (replace hb := Classical.not_not.1 hb) | skip))) | (refine C_drawk (id := 7) hN [(0, _), (1, _), (3, _), (4, _), (5, _), (6, _), (9, _), (12, _), (16, _)] ⟨rfl, rfl, rfl, rfl, rfl, rfl, rfl, rfl, rfl, trivial⟩ [0, 0, 0, 1, 0, 0, 0, 1, 0, 0, 0, 1] Any Try.mixed (by kernel_rfl) trivial ?_; replace hT := hT.drew; clear hN; intro a0 hN)))
        | (refine isE ?_; (first | (refine E_thn ?_) | (refine E_blk ?_))))
      all_goals exact E_mk hN [] ⟨rfl, rfl, trivial⟩ ⟨by rw [he]; rfl, by rw [he]; exact hT⟩
    have h2' : s.over = false := by simpa using h2
    obtain ⟨P, hP, hT1⟩ := J.openOn hT.swap ⟨h1', h2'⟩
    obtain ⟨xp, cp, xg, cg, hok, hT2⟩ := JOn.open hT1
    by_cases hlt : s.id < id
    · clear hT hT1
      have hT := hT2
      clear hT2
      have he : headJ s ⟨id, a, k, part⟩ = ⟨true, false, id, k, []⟩ := by simp [headJ, hlt]
      repeat' (first
        | (refine isT ?_; (first | (refine isGuard ?_; (first | (refine T_yes hN rfl rfl rfl ?_) | (refine T_no hN rfl rfl rfl rfl ?_) | (refine T_guardD hN rfl rfl rfl (fun hb => ?_) (fun hb => ?_) <;> ((first | (exfalso; omega) | (exfalso; exact hb rfl) | (exfalso; exact hb (fun h => h rfl)) | ((with_reducible refine absurd ?_ hb); (repeat' (first | exact trivial | refine And.intro rfl ?_)); done) | (replace hb := Classical.not_not.1 hb) | skip))))) | (refine T_assign hN rfl (by first | exact .inr trivial | exact .inl rfl) ?_) | (refine T_fieldAddr hN rfl (by first | exact .inr trivial | exact .inl rfl) ?_) | (refine T_move hN rfl (by first | exact .inr trivial | exact .inl rfl) ?_) | (refine T_nilCheck hN rfl (by first | exact .inr trivial | exact .inl rfl) ?_) | (refine T_not hN rfl (by first | exact .inr trivial | exact .inl rfl) ?_) | (refine T_nil ?_) | (refine T_nild ?_) | (refine is_load ?_; (first | (refine T_load hN rfl (hT.has 0 rfl) rfl (by first | exact .inl rfl | exact .inr ⟨by decide, trivial⟩) ?_) | (refine T_load hN rfl (hT.has 4 rfl) rfl (by first | exact .inl rfl | exact .inr ⟨by decide, trivial⟩) ?_) | (refine T_loadn (t := 36) (us := [_, _, _, _]) hN rfl (hT.has 4 rfl) rfl rfl (by first | exact .inl rfl | exact .inr ⟨by decide, trivial⟩) ?_))) | (refine is_binOp ?_; (first | (refine T_eql hN rfl rfl (by first | exact .inr trivial | exact .inl rfl) ?_) | (refine T_gtr hN rfl rfl (by first | exact .inr trivial | exact .inl rfl) ?_) | (refine T_lss hN rfl rfl (by first | exact .inr trivial | exact .inl rfl) ?_))) | (refine is_pick ?_; (first | (refine T_pick1 hN rfl rfl (by first | exact .inr trivial | exact .inl rfl) ?_) | (refine T_pick0 hN rfl rfl (by first | exact .inr trivial | exact .inl rfl) ?_))) | (refine is_call ?_; (first | (refine is_call ?_; obtain ⟨f1, hP, hK⟩ := hT.call1m 0 rfl; refine T_call (f := 24) hN rfl (by decide) (hB k ⟨by omega, by omega⟩ _ rfl f1 _ hP) ?_; rintro e ww ⟨rfl, h1⟩; clear hT hP; replace hT := hK _ _ _ _ h1; clear hK h1; refine ⟨_, rfl, (by first | exact trivial | ((repeat' (first | exact hT.has 0 rfl | exact hT.has 1 rfl | exact hT.has 2 rfl | exact hT.has 3 rfl | exact hT.has 4 rfl | exact hT.has 5 rfl | exact hT.ord 0 rfl | exact hT.ord 1 rfl | exact hT.ord 2 rfl | exact hT.ord 3 rfl | exact hT.ord 4 rfl | exact hT.ord 5 rfl | exact hT.mrd (by assumption) | refine And.intro ?_ ?_)); done)), ?_⟩)))))
        | (refine isC ?_; (first | (refine C_seq ?_) | (refine C_rgnk (id := 8) hN [(0, _), (1, _), (3, _), (4, _), (5, _), (6, _), (9, _), (12, _), (16, _), (45, _)] ⟨rfl, rfl, rfl, rfl, rfl, rfl, rfl, rfl, rfl, rfl, trivial⟩ ?_; clear hN; intro a0 hN) | (refine C_false hN rfl ?_) | (refine C_if hN rfl (fun hb => ?_) (fun hb => ?_) <;> ((first | (exfalso; omega) | (exfalso; exact hb rfl) | (exfalso; exact hb (fun h => h rfl)) | ((with_reducible refine absurd ?_ hb); (repeat' (first | exact trivial | refine And.intro rfl ?_)); done) | (replace hb := Classical.not_not.1 hb) | skip))) | (refine C_drawk (id := 7) hN [(0, _), (1, _), (3, _), (4, _), (5, _), (6, _), (9, _), (12, _), (16, _)] ⟨rfl, rfl, rfl, rfl, rfl, rfl, rfl, rfl, rfl, trivial⟩ [0, 0, 0, 1, 0, 0, 0, 1, 0, 0, 0, 1] Any Try.mixed (by kernel_rfl) trivial ?_; replace hT := hT.drew; clear hN; intro a0 hN)))
        | (refine isE ?_; (first | (refine E_thn ?_) | (refine E_blk ?_))))
      all_goals exact E_mk hN [] ⟨rfl, rfl, trivial⟩ ⟨by rw [he]; rfl, by rw [he]; exact hT.sel [0, 3] rfl⟩
    · have hie : s.id = id := by omega
      clear hT hT1
      have hT := hT2
      clear hT2
      have he : headJ s ⟨id, a, k, part⟩ = s := by simp [headJ, hlt, h1']
      repeat' (first
        | (refine isT ?_; (first | (refine isGuard ?_; (first | (refine T_yes hN rfl rfl rfl ?_) | (refine T_guardD hN rfl rfl rfl (fun hb => ?_) (fun hb => ?_) <;> ((first | (exfalso; omega) | (exfalso; exact hb rfl) | (exfalso; exact hb (fun h => h rfl)) | ((with_reducible refine absurd ?_ hb); (repeat' (first | exact trivial | refine And.intro rfl ?_)); done) | (replace hb := Classical.not_not.1 hb) | skip))))) | (refine T_assign hN rfl (by first | exact .inr trivial | exact .inl rfl) ?_) | (refine T_fieldAddr hN rfl (by first | exact .inr trivial | exact .inl rfl) ?_) | (refine T_move hN rfl (by first | exact .inr trivial | exact .inl rfl) ?_) | (refine T_nilCheck hN rfl (by first | exact .inr trivial | exact .inl rfl) ?_) | (refine T_not hN rfl (by first | exact .inr trivial | exact .inl rfl) ?_) | (refine T_nild ?_) | (refine is_load ?_; (first | (refine T_load hN rfl (hT.has 0 rfl) rfl (by first | exact .inl rfl | exact .inr ⟨by decide, trivial⟩) ?_) | (refine T_load hN rfl (hT.has 4 rfl) rfl (by first | exact .inl rfl | exact .inr ⟨by decide, trivial⟩) ?_))) | (refine is_binOp ?_; (first | (refine T_eql hN rfl rfl (by first | exact .inr trivial | exact .inl rfl) ?_) | (refine T_gtr hN rfl rfl (by first | exact .inr trivial | exact .inl rfl) ?_) | (refine T_lss hN rfl rfl (by first | exact .inr trivial | exact .inl rfl) ?_))) | (refine is_pick ?_; (first | (refine T_pick1 hN rfl rfl (by first | exact .inr trivial | exact .inl rfl) ?_) | (refine T_pick0 hN rfl rfl (by first | exact .inr trivial | exact .inl rfl) ?_)))))
        | (refine isC ?_; (first | (refine C_seq ?_) | (refine C_false hN rfl ?_) | (refine C_if hN rfl (fun hb => ?_) (fun hb => ?_) <;> ((first | (exfalso; omega) | (exfalso; exact hb rfl) | (exfalso; exact hb (fun h => h rfl)) | ((with_reducible refine absurd ?_ hb); (repeat' (first | exact trivial | refine And.intro rfl ?_)); done) | (replace hb := Classical.not_not.1 hb) | skip))) | (refine C_skip ?_) | (refine C_drawk (id := 7) hN [(0, _), (1, _), (3, _), (4, _), (5, _), (6, _), (9, _), (12, _), (16, _)] ⟨rfl, rfl, rfl, rfl, rfl, rfl, rfl, rfl, rfl, trivial⟩ [0, 0, 0, 1, 0, 0, 0, 1, 0, 0, 0, 1] Any Try.mixed (by kernel_rfl) trivial ?_; replace hT := hT.drew; clear hN; intro a0 hN)))
        | (refine isE ?_; (first | (refine E_thn ?_) | (refine E_blk ?_))))
      all_goals
        have h9 := JOn.shut hT rfl rfl hok
        rw [hie] at h9
        exact E_mk hN P ⟨rfl, rfl, trivial⟩ ⟨by rw [he]; exact hP, by rw [he]; exact h9⟩
  · rintro P a0 ww hN ⟨hP, hT⟩
    generalize hs1 : headJ s ⟨id, a, k, part⟩ = s1 at *
    clear hs1 hB cR ho
    obtain ⟨any1, over1, id1, K, parts⟩ := s1
    dsimp only at hid hP hT
    obtain ⟨rfl, rfl, rfl⟩ := hid
    subst hP
    have hmid : Mid q g id1 k a P K x part c f w ww m := by
      have hok : PtOk P K := by obtain ⟨_, _, _, _, h, _⟩ := JOn.open hT; exact h
      by_cases hk : (k : Int) = (K : Int)
      · have hkK : k = K := by omega
        subst hkK
        have hak : a < k := by omega
        cases hg : gotB P a with
        | true =>
          obtain ⟨r, hr1, hr2, hr3⟩ := gotB_find hg
          by_cases hbs : r.bs = part
          · exact mid_same q g id1 k a P x part c f w ww hak hg (fun r' _ _ h => by rw [hr3] at h; cases h; exact hbs) hT
          · exact mid_diff q g id1 k a P x part c f w ww hak hg (fun r' _ _ h => by rw [hr3] at h; cases h; exact hbs) hT
        | false =>
          by_cases hbig : 16384 < sumL (P.map Pt.kv) + part.length
          · exact mid_big q g id1 k a P x part c f w ww hak hg hbig (by omega) hT
          · by_cases hfull : P.length + 1 < k
            · exact mid_add q g id1 k a P x part c f w ww hak hg hbig (by omega) hx hfull hT
            · exact mid_full q g id1 k a P x part c f w ww hak hg hbig (by omega) hx hfull hT
      · exact mid_bad q g id1 k a P x part c f w ww K hk hT
    exact hmid a0 hN
theorem pce_Take : Calls Try.prog 15 #[.pointer (some ⟨q, 0, none⟩), .agg (Pr.cells ⟨p, x, c⟩).toArray] w (TakePost q x p f w m (takeJ s p)) := by
  unfold takeJ
  by_cases hr : rightP p
  · rw [if_neg (fun h => h hr)]
    by_cases ho : oldJ s p
    · rw [if_pos ho]; exact pce_TakeB q s p x c f w hT hr ho
    · rw [if_neg ho]; exact pce_TakeC q s p x c f w hT hx hr ho
  · rw [if_pos hr]; exact pce_TakeA q s p x c f w hT hr
end
end Go.Proofs.Ytlmabhaenogbcaa
