/- THE WALKS of a joiner: New, begin, Waits, Take. -/
import Derived.Test.YtlmabhaenogbcaaJnP13
import Derived.Test.YtlmabhaenogbcaaSxTwo
namespace Go.Proofs.Ytlmabhaenogbcaa
open Go.RowKit Go.Fp
attribute [local irreducible] Go.Calls
set_option maxRecDepth 100000
set_option maxHeartbeats 8000000
/-- A joiner with a body that is under way. -/
def JOn (g id many : Nat) (P : List Pt) : Ob :=
  Ob.ex fun xp : Option Addr × Nat => Ob.ex fun xg : Option Addr × Nat => Ob.so (PtOk P many) (Ob.sep
    (Ob.blk g 66 [.int .u32 id, .int .i64 many, .int .i64 P.length, .int .i64 (sumL (P.map Pt.kv)), .slice xp.1 many xp.2, .slice xg.1 many xg.2, .bool true, .bool false])
    (Ob.sep (Ob.own 23 1 (.slice xp.1 many xp.2) many (rowP P many)) (Ob.sep (Ob.own 4 1 (.slice xg.1 many xg.2) many (rowG P many)) (Ob.all (P.map Pt.ob)))))
/-- Another one. -/
def JOff (g id : Nat) (any over : Bool) : Ob := Ob.ex fun y : (Int × Int × Int) × (Option Addr × Nat × Nat) × (Option Addr × Nat × Nat) =>
  Ob.blk g 66 [.int .u32 id, .int .i64 y.1.1, .int .i64 y.1.2.1, .int .i64 y.1.2.2, .slice y.2.1.1 y.2.1.2.1 y.2.1.2.2, .slice y.2.2.1 y.2.2.2.1 y.2.2.2.2, .bool any, .bool over]
def J (g : Nat) (s : JS) : Ob := if s.any = true ∧ s.over = false then Ob.ex fun P : List Pt => Ob.so (P.map Pt.kv = s.parts) (JOn g s.id s.many P) else JOff g s.id s.any s.over
section
variable {S : List Nat} {w0 w : World} {l m : List Ob} {g : Nat}
theorem JOn.open {id many : Nat} {P : List Pt} (h : Tk S w0 w (JOn g id many P :: l) m) : ∃ xp cp xg cg, PtOk P many ∧ Tk S w0 w
    (Ob.blk g 66 [.int .u32 id, .int .i64 many, .int .i64 P.length, .int .i64 (sumL (P.map Pt.kv)), .slice xp many cp, .slice xg many cg, .bool true, .bool false] ::
     Ob.own 23 1 (.slice xp many cp) many (rowP P many) :: Ob.own 4 1 (.slice xg many cg) many (rowG P many) :: Ob.all (P.map Pt.ob) :: l) m := by
  obtain ⟨xp, h⟩ := h.exE
  obtain ⟨xg, h⟩ := h.exE
  obtain ⟨h1, h⟩ := h.soE
  exact ⟨xp.1, xp.2, xg.1, xg.2, h1, h.sepE.ent (Ob.Ent.sep (Ob.Ent.refl _) (Ob.Ent.trans (Ob.Ent.assoc _ _ _) (Ob.Ent.sep (Ob.Ent.refl _) (Ob.Ent.assoc _ _ _))))⟩
theorem JOn.shut {id many n t : Nat} {P : List Pt} {xp xg : Option Addr} {cp cg : Nat} (h : Tk S w0 w
    (Ob.blk g 66 [.int .u32 id, .int .i64 many, .int .i64 n, .int .i64 t, .slice xp many cp, .slice xg many cg, .bool true, .bool false] ::
     Ob.own 23 1 (.slice xp many cp) many (rowP P many) :: Ob.own 4 1 (.slice xg many cg) many (rowG P many) :: Ob.all (P.map Pt.ob) :: l) m) (hn : n = P.length) (ht : t = sumL (P.map Pt.kv)) (hP : PtOk P many) : Tk S w0 w (JOn g id many P :: l) m := by
  subst hn ht
  exact Tk.exI (xp, cp) (Tk.exI (xg, cg) (Tk.soI hP (h.ent (Ob.Ent.trans (Ob.Ent.sep (Ob.Ent.refl _) (Ob.Ent.trans (Ob.Ent.sep (Ob.Ent.refl _) (Ob.Ent.assoc' _ _ _)) (Ob.Ent.assoc' _ _ _))) (Ob.Ent.assoc' _ _ _)))))
theorem JOff.open {id : Nat} {any over : Bool} (h : Tk S w0 w (JOff g id any over :: l) m) : ∃ (a b c : Int) (x1 : Option Addr) (n1 c1 : Nat) (x2 : Option Addr) (n2 c2 : Nat),
    Tk S w0 w (Ob.blk g 66 [.int .u32 id, .int .i64 a, .int .i64 b, .int .i64 c, .slice x1 n1 c1, .slice x2 n2 c2, .bool any, .bool over] :: l) m := by
  obtain ⟨⟨⟨a, b, c⟩, ⟨x1, n1, c1⟩, ⟨x2, n2, c2⟩⟩, h⟩ := h.exE
  exact ⟨a, b, c, x1, n1, c1, x2, n2, c2, h⟩
theorem JOff.shut {id n1 c1 n2 c2 : Nat} {any over : Bool} {a b c : Int} {x1 x2 : Option Addr} (h : Tk S w0 w (Ob.blk g 66 [.int .u32 id, .int .i64 a, .int .i64 b, .int .i64 c, .slice x1 n1 c1, .slice x2 n2 c2, .bool any, .bool over] :: l) m) : Tk S w0 w (JOff g id any over :: l) m :=
  Tk.exI ((a, b, c), (x1, n1, c1), (x2, n2, c2)) h
theorem J.openOn {s : JS} (h : Tk S w0 w (J g s :: l) m) (hs : s.any = true ∧ s.over = false) : ∃ P : List Pt, P.map Pt.kv = s.parts ∧ Tk S w0 w (JOn g s.id s.many P :: l) m := by
  unfold J at h
  rw [if_pos hs] at h
  obtain ⟨P, h⟩ := h.exE
  obtain ⟨h1, h⟩ := h.soE
  exact ⟨P, h1, h⟩
theorem J.shutOn {s : JS} {P : List Pt} (h : Tk S w0 w (JOn g s.id s.many P :: l) m) (hs : s.any = true ∧ s.over = false) (hP : P.map Pt.kv = s.parts) : Tk S w0 w (J g s :: l) m := by
  unfold J
  rw [if_pos hs]
  exact Tk.exI P (Tk.soI hP h)
theorem J.openOff {s : JS} (h : Tk S w0 w (J g s :: l) m) (hs : ¬ (s.any = true ∧ s.over = false)) : Tk S w0 w (JOff g s.id s.any s.over :: l) m := by
  unfold J at h
  rwa [if_neg hs] at h
theorem J.shutOff {s : JS} (h : Tk S w0 w (JOff g s.id s.any s.over :: l) m) (hs : ¬ (s.any = true ∧ s.over = false)) : Tk S w0 w (J g s :: l) m := by
  unfold J
  rwa [if_neg hs]
end
theorem pce_New (w : World) : Calls Try.prog 13 #[] w fun e w' => ∃ q, e = .returned (.pointer (some ⟨q, 0, none⟩)) ∧ Tk [] w w' [J q JS.new] [] := by
  have hT := Tk.start0 w
  refine enter [] Try.func13 rfl Try.ntmps13 (Nat.le_of_ble_eq_true rfl) rfl ?_; intro a0 hN
  repeat' (first
    | (refine isT ?_; (first | (refine T_assign hN rfl (by first | exact .inr trivial | exact .inl rfl) ?_) | (refine T_nil ?_) | (refine is_box ?_; (first | (refine T_box hN hT rfl (by decide) ?_; clear hT; intro g ww hT; refine ⟨(by first | exact trivial), ?_⟩))) | (refine is_build ?_; (first | (refine T_build (t := 66) (us := [_, _, _, _, _, _, _, _]) hN rfl rfl (by first | exact .inr trivial | exact .inl rfl) ?_)))))
    | (refine isC ?_; (first | (refine C_seq ?_) | (refine C_rgnk (id := 0) hN [] trivial ?_; clear hN; intro a0 hN) | (refine C_rgnk (id := 1) hN [(0, _)] ⟨rfl, trivial⟩ ?_; clear hN; intro a0 hN) | (refine C_ret ?_)))
    | (refine isE ?_; (first | (refine E_thn ?_) | (refine E_ret hN Try.results13 (.tmp rfl .nil) ?_))))
  all_goals exact ⟨g, rfl, J.shutOff (s := JS.new) (JOff.shut hT) (by decide)⟩
theorem pce_begin (q : Nat) (id k : Nat) (hk : 1 ≤ k ∧ k ≤ 32) (vs : List Value) (hvs : vs.length = 8) (a : Int) (x : Option Addr) (n c : Nat) (f : List Nat) (w : World) {m : List Ob} (hT : Tk f w w [Ob.blk q 66 vs] m) :
    Calls Try.prog 24 #[.pointer (some ⟨q, 0, none⟩), .agg #[.int .u32 id, .int .i64 a, .int .i64 k, .slice x n c]] w fun e w' => e = .returned (.tuple #[]) ∧ Tk f w w' [JOn q id k []] m := by
  refine enter [(0, _), (1, _)] Try.func24 rfl Try.ntmps24 (Nat.le_of_ble_eq_true rfl) rfl ?_; intro a0 hN
  repeat' (first
    | (refine isT ?_; (first | (refine T_make hN hT rfl rfl (by unfold maxLen; omega) (by omega) (by decide) ?_; clear hT; intro g ww hT; first | refine ⟨hT.has 1 rfl, ?_⟩ | refine ⟨hT.has 2 rfl, ?_⟩) | (refine T_fieldAddr hN rfl (by first | exact .inr trivial | exact .inl rfl | (refine .inr ?_; (repeat' (first | exact hT.has 0 rfl | exact hT.has 1 rfl | exact hT.has 2 rfl | exact hT.has 3 rfl | exact hT.ord 0 rfl | exact hT.ord 1 rfl | exact hT.ord 2 rfl | exact hT.ord 3 rfl | refine And.intro ?_ ?_)); done)) ?_) | (refine T_move hN rfl (by first | exact .inr trivial | exact .inl rfl | (refine .inr ?_; (repeat' (first | exact hT.has 0 rfl | exact hT.has 1 rfl | exact hT.has 2 rfl | exact hT.has 3 rfl | exact hT.ord 0 rfl | exact hT.ord 1 rfl | exact hT.ord 2 rfl | exact hT.ord 3 rfl | refine And.intro ?_ ?_)); done)) ?_) | (refine T_nilCheck hN rfl (by first | exact .inr trivial | exact .inl rfl | (refine .inr ?_; (repeat' (first | exact hT.has 0 rfl | exact hT.has 1 rfl | exact hT.has 2 rfl | exact hT.has 3 rfl | exact hT.ord 0 rfl | exact hT.ord 1 rfl | exact hT.ord 2 rfl | exact hT.ord 3 rfl | refine And.intro ?_ ?_)); done)) ?_) | (refine T_nil ?_) | (refine T_nild ?_) | (refine is_load ?_; (first | (refine T_loadH hN rfl (fun _ h => h) rfl rfl ?_))) | (refine is_store ?_; (first | (refine T_storeAll hN hT 3 (us := [_, _, _, _, _, _, _, _]) rfl rfl rfl rfl hvs rfl (by decide) ?_; clear hT; intro ww hT; refine ⟨hT.has 2 rfl, ?_⟩))) | (refine is_box ?_; (first | (refine T_box hN hT rfl (by decide) ?_; clear hT; intro g ww hT; refine ⟨(by first | exact trivial | ((repeat' (first | exact hT.has 0 rfl | exact hT.has 1 rfl | exact hT.has 2 rfl | exact hT.has 3 rfl | exact hT.ord 0 rfl | exact hT.ord 1 rfl | exact hT.ord 2 rfl | exact hT.ord 3 rfl | refine And.intro ?_ ?_)); done)), ?_⟩))) | (refine is_build ?_; (first | (refine T_build (t := 66) (us := [_, _, _, _, _, _, _, _]) hN rfl rfl (by first | exact .inr trivial | exact .inl rfl | (refine .inr ?_; (repeat' (first | exact hT.has 0 rfl | exact hT.has 1 rfl | exact hT.has 2 rfl | exact hT.has 3 rfl | exact hT.ord 0 rfl | exact hT.ord 1 rfl | exact hT.ord 2 rfl | exact hT.ord 3 rfl | refine And.intro ?_ ?_)); done)) ?_)))))
    | (refine isC ?_; (first | (refine C_seq ?_) | (refine C_rgnk (id := 0) hN [(0, _), (1, _)] ⟨rfl, rfl, trivial⟩ ?_; clear hN; intro a0 hN) | (refine C_twok (id := 1) hN [(0, _), (1, _), (3, _)] ⟨rfl, rfl, rfl, trivial⟩ [0, 0, 0, 0, 0, 0, 0, 2, 0, 0, 2, 0, 0, 2] [0, 1, 2, 3, 4, 5, 6, 8, 9, 7, 10, 11, 12, 13] [0, 1, 2, 3, 4, 5, 6, 8, 9, 10, 7, 11, 12, 13] (fun w1 => Has w1 _ _ (List.toArray _)) Try.mixed (by kernel_rfl) (hT.drew.has 0 rfl) ?_ ?_ <;> (replace hT := hT.drew; clear hN; intro a0 hN; simp only [List.filterMap_cons, List.filterMap_nil, List.map_cons, List.map_nil, List.getElem?_cons_succ, List.getElem?_cons_zero, List.getD_cons_succ, List.getD_cons_zero]))))
    | (refine isE ?_; (first | (refine E_thn ?_) | (refine E_end hN Try.results24 .nil ?_))))
  · have h2 := (hT.sel [3, 1, 0] rfl)
    have h3 := ((h2.nilAll).rot)
    exact ⟨rfl, JOn.shut (P := []) (by rw [rowP_nil, rowG_nil, ← made1, ← made1]; exact h3) rfl rfl ⟨List.nodup_nil, (fun q hq => by cases hq), by simp; omega, hk, by simp [sumL], (fun q hq => by cases hq)⟩⟩
  · have h2 := (hT.sel [3, 0, 0] rfl)
    have h3 := ((h2.nilAll).rot)
    exact ⟨rfl, JOn.shut (P := []) (by rw [rowP_nil, rowG_nil, ← made1, ← made1]; exact h3) rfl rfl ⟨List.nodup_nil, (fun q hq => by cases hq), by simp; omega, hk, by simp [sumL], (fun q hq => by cases hq)⟩⟩
theorem pce_Waits (q : Nat) (s : JS) (f : List Nat) (w : World) {m : List Ob} (hT : Tk f w w [J q s] m) :
    Calls Try.prog 17 #[.pointer (some ⟨q, 0, none⟩)] w fun e w' => e = .returned (.tuple #[.int .i64 (if s.any = true ∧ s.over = false then (s.parts.length : Int) else 0), .int .i64 (if s.any = true ∧ s.over = false then (s.many : Int) else 0)]) ∧ Tk f w w' [J q s] m := by
  by_cases hs : s.any = true ∧ s.over = false
  · obtain ⟨P, hP, hT1⟩ := J.openOn hT hs
    obtain ⟨xp, cp, xg, cg, hok, hT2⟩ := JOn.open hT1
    clear hT hT1
    have hT := hT2
    clear hT2
    simp only [if_pos hs]
    have hl : (P.length : Int) = (s.parts.length : Int) := by rw [← hP, List.length_map]
    refine enter [(0, _)] Try.func17 rfl Try.ntmps17 (Nat.le_of_ble_eq_true rfl) rfl ?_; intro a0 hN
    repeat' (first
      | (refine isT ?_; (first | (refine isGuard ?_; (first | (refine T_yes hN rfl rfl rfl ?_))) | (refine T_assign hN rfl (by first | exact .inr trivial | exact .inl rfl) ?_) | (refine T_fieldAddr hN rfl (by first | exact .inr trivial | exact .inl rfl) ?_) | (refine T_move hN rfl (by first | exact .inr trivial | exact .inl rfl) ?_) | (refine T_nilCheck hN rfl (by first | exact .inr trivial | exact .inl rfl) ?_) | (refine T_not hN rfl (by first | exact .inr trivial | exact .inl rfl) ?_) | (refine T_nil ?_) | (refine T_nild ?_) | (refine is_load ?_; (first | (refine T_load hN rfl (hT.has 0 rfl) rfl (by first | exact .inl rfl | exact .inr ⟨by decide, trivial⟩) ?_))) | (refine is_binOp ?_; (first | (refine T_eqlnil hN rfl rfl (by first | exact .inr trivial | exact .inl rfl) ?_))) | (refine is_pick ?_; (first | (refine T_pick0 hN rfl rfl (by first | exact .inr trivial | exact .inl rfl) ?_)))))
      | (refine isC ?_; (first | (refine C_seq ?_) | (refine C_rgnk (id := 0) hN [(0, _)] ⟨rfl, trivial⟩ ?_; clear hN; intro a0 hN) | (refine C_rgnk (id := 1) hN [(0, _), (2, _), (3, _)] ⟨rfl, rfl, rfl, trivial⟩ ?_; clear hN; intro a0 hN) | (refine C_false hN rfl ?_) | (refine C_skip ?_) | (refine C_ret ?_) | (refine C_drawk (id := 3) hN [(0, _), (2, _), (3, _), (18, _)] ⟨rfl, rfl, rfl, rfl, trivial⟩ [0, 0, 0, 1, 0, 0, 0, 1, 0] Any Try.mixed (by kernel_rfl) trivial ?_; replace hT := hT.drew; clear hN; intro a0 hN)))
      | (refine isE ?_; (first | (refine E_thn ?_) | (refine E_ret hN Try.results17 (.tmp rfl (.tmp rfl .nil)) ?_))))
    all_goals exact ⟨by rw [← hl]; rfl, J.shutOn (JOn.shut hT rfl rfl hok) hs hP⟩
  · have hT1 := J.openOff hT hs
    obtain ⟨a, b, c, x1, n1, c1, x2, n2, c2, hT2⟩ := JOff.open hT1
    clear hT hT1
    have hT := hT2
    clear hT2
    simp only [if_neg hs]
    have key : s.any = false ∨ (s.any = true ∧ s.over = true) := by
      cases h1 : s.any <;> cases h2 : s.over <;> simp_all
    rcases key with h1 | ⟨h1, h2⟩
    · have hT' := hT
      rw [h1] at hT'
      clear hT
      have hT := hT'
      clear hT'
      refine enter [(0, _)] Try.func17 rfl Try.ntmps17 (Nat.le_of_ble_eq_true rfl) rfl ?_; intro a0 hN
      repeat' (first
        | (refine isT ?_; (first | (refine isGuard ?_; (first | (refine T_yes hN rfl rfl rfl ?_) | (refine T_no hN rfl rfl rfl rfl ?_))) | (refine T_assign hN rfl (by first | exact .inr trivial | exact .inl rfl) ?_) | (refine T_fieldAddr hN rfl (by first | exact .inr trivial | exact .inl rfl) ?_) | (refine T_move hN rfl (by first | exact .inr trivial | exact .inl rfl) ?_) | (refine T_nilCheck hN rfl (by first | exact .inr trivial | exact .inl rfl) ?_) | (refine T_not hN rfl (by first | exact .inr trivial | exact .inl rfl) ?_) | (refine T_nil ?_) | (refine is_load ?_; (first | (refine T_load hN rfl (hT.has 0 rfl) rfl (by first | exact .inl rfl | exact .inr ⟨by decide, trivial⟩) ?_))) | (refine is_binOp ?_; (first | (refine T_eqlnil hN rfl rfl (by first | exact .inr trivial | exact .inl rfl) ?_))) | (refine is_pick ?_; (first | (refine T_pick1 hN rfl rfl (by first | exact .inr trivial | exact .inl rfl) ?_) | (refine T_pick0 hN rfl rfl (by first | exact .inr trivial | exact .inl rfl) ?_)))))
        | (refine isC ?_; (first | (refine C_seq ?_) | (refine C_rgnk (id := 0) hN [(0, _)] ⟨rfl, trivial⟩ ?_; clear hN; intro a0 hN) | (refine C_rgnk (id := 1) hN [(0, _), (2, _), (3, _)] ⟨rfl, rfl, rfl, trivial⟩ ?_; clear hN; intro a0 hN) | (refine C_rgnk (id := 2) hN [(0, _), (2, _), (3, _), (18, _)] ⟨rfl, rfl, rfl, rfl, trivial⟩ ?_; clear hN; intro a0 hN) | (refine C_true hN rfl ?_) | (refine C_ret ?_)))
        | (refine isE ?_; (first | (refine E_thn ?_) | (refine E_thn_ret ?_) | (refine E_ret hN Try.results17 (.tmp rfl (.tmp rfl .nil)) ?_))))
      all_goals exact ⟨rfl, J.shutOff (by rw [h1]; exact JOff.shut hT) hs⟩
    · have hT' := hT
      rw [h1, h2] at hT'
      clear hT
      have hT := hT'
      clear hT'
      refine enter [(0, _)] Try.func17 rfl Try.ntmps17 (Nat.le_of_ble_eq_true rfl) rfl ?_; intro a0 hN
      repeat' (first
        | (refine isT ?_; (first | (refine isGuard ?_; (first | (refine T_yes hN rfl rfl rfl ?_))) | (refine T_assign hN rfl (by first | exact .inr trivial | exact .inl rfl) ?_) | (refine T_fieldAddr hN rfl (by first | exact .inr trivial | exact .inl rfl) ?_) | (refine T_move hN rfl (by first | exact .inr trivial | exact .inl rfl) ?_) | (refine T_nilCheck hN rfl (by first | exact .inr trivial | exact .inl rfl) ?_) | (refine T_not hN rfl (by first | exact .inr trivial | exact .inl rfl) ?_) | (refine T_nil ?_) | (refine is_load ?_; (first | (refine T_load hN rfl (hT.has 0 rfl) rfl (by first | exact .inl rfl | exact .inr ⟨by decide, trivial⟩) ?_))) | (refine is_binOp ?_; (first | (refine T_eqlnil hN rfl rfl (by first | exact .inr trivial | exact .inl rfl) ?_))) | (refine is_pick ?_; (first | (refine T_pick0 hN rfl rfl (by first | exact .inr trivial | exact .inl rfl) ?_)))))
        | (refine isC ?_; (first | (refine C_seq ?_) | (refine C_rgnk (id := 0) hN [(0, _)] ⟨rfl, trivial⟩ ?_; clear hN; intro a0 hN) | (refine C_rgnk (id := 1) hN [(0, _), (2, _), (3, _)] ⟨rfl, rfl, rfl, trivial⟩ ?_; clear hN; intro a0 hN) | (refine C_rgnk (id := 2) hN [(0, _), (2, _), (3, _), (18, _)] ⟨rfl, rfl, rfl, rfl, trivial⟩ ?_; clear hN; intro a0 hN) | (refine C_true hN rfl ?_) | (refine C_ret ?_)))
        | (refine isE ?_; (first | (refine E_thn ?_) | (refine E_thn_ret ?_) | (refine E_ret hN Try.results17 (.tmp rfl (.tmp rfl .nil)) ?_))))
      all_goals exact ⟨rfl, J.shutOff (by rw [h1, h2]; exact JOff.shut hT) hs⟩
end Go.Proofs.Ytlmabhaenogbcaa
