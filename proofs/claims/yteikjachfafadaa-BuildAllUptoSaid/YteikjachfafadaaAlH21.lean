/- WHAT THE WALK OF BuildAll WANTS. -/
import Derived.Test.YteikjachfafadaaUpP21
import Derived.Test.YteikjachfafadaaGU21
import Derived.Test.YteikjachfafadaaBk21
import Derived.Test.YteikjachfafadaaSm21
import Derived.Test.YteikjachfafadaaLUp21
namespace Go.Proofs.Yteikjachfafadaa
open Go.RowKit Go.Fp
set_option maxHeartbeats 8000000
theorem ens_meqT {T : Nat} {S : List Nat} {w0 w : World} {l M0 os : List Ob} {x1 : Option Addr} {c1 : Nat} {fs : List En} (h : Tk S w0 w l (Ob.own T 22 (.slice x1 fs.length c1) fs.length (fs.map En.cells).flatten :: (os ++ M0)))
    (hfo : ∀ f, f ∈ fs → f.Ok ∧ (∃ o, o ∈ os ∧ Ob.Ent o f.wob) ∧ (∃ o, o ∈ os ∧ Ob.Ent o f.pob)) : Tk S w0 w l (Ob.rd x1 fs.length 22 (fs.map En.cells).flatten :: (fs.map En.wob ++ (fs.map En.pob ++ M0))) := by
  refine h.meq fun o ho => ?_
  rcases List.mem_cons.1 ho with rfl | ho
  · exact ⟨_, List.mem_cons_self .., Ent.own_rd _ _ _ _ _ _⟩
  · rcases List.mem_append.1 ho with ho | ho
    · obtain ⟨f, hf, rfl⟩ := List.mem_map.1 ho
      obtain ⟨_, ⟨o1, g1, g2⟩, _⟩ := hfo f hf
      exact ⟨o1, List.mem_cons_of_mem _ (List.mem_append_left _ g1), g2⟩
    · rcases List.mem_append.1 ho with ho | ho
      · obtain ⟨f, hf, rfl⟩ := List.mem_map.1 ho
        obtain ⟨_, _, ⟨o1, g1, g2⟩⟩ := hfo f hf
        exact ⟨o1, List.mem_cons_of_mem _ (List.mem_append_left _ g1), g2⟩
      · exact ⟨o, List.mem_cons_of_mem _ (List.mem_append_right _ ho), Ob.Ent.refl _⟩
theorem Tk.mergeAll {S : List Nat} {w0 w : World} {l m a b : List Ob} (h : Tk S w0 w (Ob.all a :: Ob.all b :: l) m) : Tk S w0 w (Ob.all (a ++ b) :: l) m :=
  h.ent (Ob.Ent.trans (Ob.Ent.assoc' _ _ _) (Ob.Ent.sep (Ob.Ent.app2 a b) (Ob.Ent.refl _)))
theorem ens_all1 {es : List En} : Value.all1 (es.map En.cells).flatten := fun u hu => by
  obtain ⟨l, hl, hu⟩ := List.mem_flatten.1 hu
  obtain ⟨e, _, rfl⟩ := List.mem_map.1 hl
  simp only [En.cells, List.mem_cons, List.mem_append, List.not_mem_nil, or_false] at hu
  rcases hu with rfl | rfl | rfl | rfl | hu | rfl | rfl
  · rfl
  · rfl
  · rfl
  · rfl
  · exact u8s_all1 _ u hu
  · rfl
  · rfl
theorem frm_Get_put (full : Bool) (c : List En) (hk : ∀ e, e ∈ c → e.Ok) (h0 : (putU full c).2 = 0) (y : Option Addr) (d : Nat) (hy : y = none → (putU full c).1.length = 0 ∧ d = 0) (w : World) {m : List Ob} (hT : Tk [] w w [] (Ob.rd y (putU full c).1.length 1 (u8s (putU full c).1) :: m)) :
    Calls Try.prog 16 #[.slice y (putU full c).1.length d] w fun e w' => ∃ (x' : Option Addr) (c' : Nat) (fs : List En) (os : List Ob), e = .returned (.tuple #[.agg #[.bool full, .slice x' fs.length c'], .int .i64 0]) ∧ fs.map En.nm = c.map En.nm ∧ (∀ f, f ∈ fs → f.Ok ∧ (∃ o, o ∈ os ∧ Ob.Ent o f.wob) ∧ (∃ o, o ∈ os ∧ Ob.Ent o f.pob)) ∧
      Tk [] w w' [Ob.own 87 22 (.slice x' fs.length c') fs.length (fs.map En.cells).flatten, Ob.all os] (Ob.rd y (putU full c).1.length 1 (u8s (putU full c).1) :: m) := by
  obtain ⟨g1, g2, g3⟩ := get_put (full := full) hk h0
  have hl := putU_len full hk
  have h := frm_GetUpdate y d (putU full c).1 hy (by omega) w hT
  unfold GetPost at h
  rw [g1, g2, g3] at h
  have e : bdec ((((if full then 1 else 0 : Nat)) : Int) = 1) = full := by cases full <;> simp [bdec_eq]
  simp only [if_true, e] at h
  exact h
theorem ensGood_short : ∀ {l : List En} {p : Option En}, ensGood p l → ∀ e, e ∈ l → e.way.length ≤ 3 ∧ e.path.length ≤ 6
  | [], _, _, _, h => by cases h
  | a :: l, p, hg, e, h => by
    rcases List.mem_cons.1 h with rfl | h
    · exact ⟨hg.1.2.2.2.2.1, hg.1.2.2.2.2.2⟩
    · exact ensGood_short hg.2 e h
theorem short_nm {l fs : List En} (h : fs.map En.nm = l.map En.nm) (hl : ∀ e, e ∈ l → e.way.length ≤ 3 ∧ e.path.length ≤ 6) : ∀ e, e ∈ fs → e.way.length ≤ 3 ∧ e.path.length ≤ 6 := fun e he => by
  have hn : En.nm e ∈ l.map En.nm := h ▸ List.mem_map.2 ⟨e, he, rfl⟩
  obtain ⟨a, ha, e1⟩ := List.mem_map.1 hn
  have h1 := hl a ha
  have e2 : a.way = e.way := by have := congrArg (fun q : En => q.way) e1; exact this
  have e3 : a.path = e.path := by have := congrArg (fun q : En => q.path) e1; exact this
  rw [← e2, ← e3]; exact h1
theorem by_cell2 {w : World} {B off n : Nat} {l : List By} (h : Rdz w (some ⟨B, off, none⟩) n 1 (l.map By.cell)) {j : Nat} {y : Option Addr} {d : Nat} {s : List UInt8} (hj : l[j]? = some ⟨y, d, s⟩) : w.cell? ⟨B, off + j * 1, none⟩ = some (.slice y s.length d) := by_cell h hj
end Go.Proofs.Yteikjachfafadaa
/- THE WALK: entries that may be told are told, once, in order. -/
namespace Go.Proofs.Yteikjachfafadaa
open Go.RowKit Go.Fp
attribute [local irreducible] Go.Calls
set_option maxRecDepth 100000
set_option maxHeartbeats 8000000
theorem law21_All (x : Option Addr) (c : Nat) (es : List En) (hx : es.length ≤ c) (hcm : c ≤ 1048576) (hlt : ∀ e, e ∈ es → e.way.length ≤ 1048576 ∧ e.path.length ≤ 1048576) (full : Bool) (most : Int) (w : World) (M0 : List Ob) (hm : EnR M0 es) (hxm : Ob.rd x es.length 22 (es.map En.cells).flatten ∈ M0) (hT : Tk [] w w [] M0) :
    Calls Try.prog 5 #[.slice x es.length c, .bool full, .int .i64 most] w fun e w' => e = .returned (.bool true) ∧ Fr [] w w' := by
  have hxe : ∀ e, e ∈ es → e.Ok := fun e he => (hm e he).1
  have cE := fun (m1 : List Ob) (hs : ∀ o, o ∈ M0 → o ∈ m1) ww h => law21_entries x c es (by omega) (fun e he => by have := hlt e he; omega) ww (m := m1) (fun e he => ⟨(hm e he).1, hs _ (hm e he).2.1, hs _ (hm e he).2.2⟩) (hs _ hxm) h
  unfold EnsPost at cE
  refine enter [(0, _), (1, _), (2, _)] Try.func5 rfl Try.ntmps5 (Nat.le_of_ble_eq_true rfl) rfl ?_; intro a0 hN
  repeat' (first
    | (refine isT ?_; (first | (refine isGuard ?_; (first | (refine T_yes hN rfl rfl rfl ?_) | (refine T_no hN rfl rfl rfl rfl ?_) | (refine T_guardD hN rfl rfl rfl (fun hb => ?_) (fun hb => ?_) <;> ((first | (exfalso; omega) | (exfalso; exact hb rfl) | (exfalso; exact hb (fun h => h rfl)) | ((with_reducible refine absurd ?_ hb); (repeat' (first | exact trivial | refine And.intro rfl ?_)); done) | (replace hb := Classical.not_not.1 hb) | skip))))) | (refine T_assign hN rfl (by first | exact .inr trivial | exact .inl rfl) ?_) | (refine T_extract hN rfl rfl (by first | exact .inr trivial | exact .inl rfl) ?_) | (refine T_move hN rfl (by first | exact .inr trivial | exact .inl rfl) ?_) | (refine T_nil ?_) | (refine is_binOp ?_; (first | (refine T_eql hN rfl rfl (by first | exact .inr trivial | exact .inl rfl) ?_) | (refine T_gtr hN rfl rfl (by first | exact .inr trivial | exact .inl rfl) ?_) | (refine T_neq hN rfl rfl (by first | exact .inr trivial | exact .inl rfl) ?_))) | (refine is_pick ?_; (first | (refine T_pick1 hN rfl rfl (by first | exact .inr trivial | exact .inl rfl) ?_) | (refine T_pick0 hN rfl rfl (by first | exact .inr trivial | exact .inl rfl) ?_))) | (refine is_call ?_; (first | ((refine is_call ?_; obtain ⟨hP, hK⟩ := hT.call0m; refine T_call (f := 13) hN rfl (by decide) (cE M0 (fun o ho => ho) _ hP) ?_; rintro e ww ⟨x1, c1, fs, os, rfl, hnm, hfo, h1⟩; clear hT hP; replace hT := hK _ _ _ h1; clear hK h1; refine ⟨_, rfl, (by first | exact trivial | ((repeat' (first | exact hT.has 0 rfl | exact hT.has 1 rfl | exact hT.has 2 rfl | exact hT.has 3 rfl | exact hT.has 4 rfl | exact hT.has 5 rfl | exact hT.ord 0 rfl | exact hT.ord 1 rfl | exact hT.ord 2 rfl | exact hT.ord 3 rfl | exact hT.ord 4 rfl | exact hT.ord 5 rfl | exact hT.mrd (by assumption) | refine And.intro ?_ ?_)); done)), ?_⟩); have hfc := own_le (hT.owns 0 rfl); have hfl : fs.length = es.length := (by have := congrArg List.length hnm; simpa using this); have hpn : putU false fs = putU false es := (by rw [← putU_nm, hnm, putU_nm]); replace hT := ens_meq ((hT.swap.freezeAll).freeze) hfo) | ((refine is_call ?_; obtain ⟨hP, hK⟩ := hT.call0m; refine T_call (f := 15) hN rfl (by decide) (frm_PutUpdate x1 c1 fs _ (fun f hf => ⟨(hfo f hf).1, List.mem_append_left _ (List.mem_map.2 ⟨f, hf, rfl⟩), List.mem_append_right _ (List.mem_append_left _ (List.mem_map.2 ⟨f, hf, rfl⟩))⟩) hP false) ?_; rintro e ww ⟨x2, c2, rfl, h1⟩; clear hT hP; replace hT := hK _ _ _ h1; clear hK h1; refine ⟨_, rfl, (by first | exact trivial | ((repeat' (first | exact hT.has 0 rfl | exact hT.has 1 rfl | exact hT.has 2 rfl | exact hT.has 3 rfl | exact hT.has 4 rfl | exact hT.has 5 rfl | exact hT.ord 0 rfl | exact hT.ord 1 rfl | exact hT.ord 2 rfl | exact hT.ord 3 rfl | exact hT.ord 4 rfl | exact hT.ord 5 rfl | exact hT.mrd (by assumption) | refine And.intro ?_ ?_)); done)), ?_⟩)) | ((refine is_call ?_; obtain ⟨hP, hK⟩ := hT.call0m; refine T_call (f := 13) hN rfl (by decide) (cE _ (fun o ho => List.mem_cons_of_mem _ (List.mem_append_right _ (List.mem_append_right _ ho))) _ hP) ?_; rintro e ww ⟨x3, c3, gs, os3, rfl, hnm3, hgo, h1⟩; clear hT hP; replace hT := hK _ _ _ h1; clear hK h1; refine ⟨_, rfl, (by first | exact trivial | ((repeat' (first | exact hT.has 0 rfl | exact hT.has 1 rfl | exact hT.has 2 rfl | exact hT.has 3 rfl | exact hT.has 4 rfl | exact hT.has 5 rfl | exact hT.ord 0 rfl | exact hT.ord 1 rfl | exact hT.ord 2 rfl | exact hT.ord 3 rfl | exact hT.ord 4 rfl | exact hT.ord 5 rfl | exact hT.mrd (by assumption) | refine And.intro ?_ ?_)); done)), ?_⟩); have hgc := own_le (hT.owns 0 rfl); have hgl : gs.length = es.length := (by have := congrArg List.length hnm3; simpa using this); have hup := upd_nm full most hnm3; replace hT := ens_meq ((hT.swap.freezeAll).freeze) hgo) | ((refine is_call ?_; obtain ⟨hP, hK⟩ := hT.call0m; refine T_call (f := 12) hN rfl (by decide) (bld_Updates x3 c3 gs _ (fun f hf => ⟨(hgo f hf).1, List.mem_cons_of_mem _ (List.mem_append_left _ (List.mem_map.2 ⟨f, hf, rfl⟩)), List.mem_cons_of_mem _ (List.mem_append_right _ (List.mem_append_left _ (List.mem_map.2 ⟨f, hf, rfl⟩)))⟩) (List.mem_cons_self ..) (by omega) hgc hP full most) ?_; rintro e ww ⟨x4, c4, bys, rfl, hbs, h1⟩; clear hT hP; replace hT := hK _ _ _ h1; clear hK h1; refine ⟨_, rfl, (by first | exact trivial | ((repeat' (first | exact hT.has 0 rfl | exact hT.has 1 rfl | exact hT.has 2 rfl | exact hT.has 3 rfl | exact hT.has 4 rfl | exact hT.has 5 rfl | exact hT.ord 0 rfl | exact hT.ord 1 rfl | exact hT.ord 2 rfl | exact hT.ord 3 rfl | exact hT.ord 4 rfl | exact hT.ord 5 rfl | exact hT.mrd (by assumption) | refine And.intro ?_ ?_)); done)), ?_⟩)) | (refine is_call ?_; refine T_call (f := 6) hN rfl (by decide) (law21_awake _) ?_; rintro e ww ⟨rfl, hf⟩; replace hT := hT.same hf; clear hf; refine ⟨_, rfl, (by first | exact trivial | ((repeat' (first | exact hT.has 0 rfl | exact hT.has 1 rfl | exact hT.has 2 rfl | exact hT.has 3 rfl | exact hT.has 4 rfl | exact hT.has 5 rfl | exact hT.ord 0 rfl | exact hT.ord 1 rfl | exact hT.ord 2 rfl | exact hT.ord 3 rfl | exact hT.ord 4 rfl | exact hT.ord 5 rfl | exact hT.mrd (by assumption) | refine And.intro ?_ ?_)); done)), ?_⟩) | (refine T_len hN rfl (by first | exact .inr trivial | exact .inl rfl) ?_))) | (refine is_build ?_; (first | (refine T_build (t := 59) (us := [_, _]) hN rfl rfl (by first | exact .inr trivial | exact .inl rfl) ?_)))))
    | (refine isC ?_; (first | (refine C_seq ?_) | (refine C_rgnk (id := 0) hN [(0, _), (1, _), (2, _)] ⟨rfl, rfl, rfl, trivial⟩ ?_; clear hN; intro a0 hN) | (refine C_rgnk (id := 1) hN [(0, _), (1, _), (2, _), (6, _)] ⟨rfl, rfl, rfl, rfl, trivial⟩ ?_; clear hN; intro a0 hN) | (refine C_rgnk (id := 2) hN [(0, _), (1, _), (2, _), (6, _), (7, _), (8, _)] ⟨rfl, rfl, rfl, rfl, rfl, rfl, trivial⟩ ?_; clear hN; intro a0 hN) | (refine C_rgnk (id := 3) hN [(0, _), (1, _), (2, _), (6, _), (7, _), (8, _), (32, _)] ⟨rfl, rfl, rfl, rfl, rfl, rfl, rfl, trivial⟩ ?_; clear hN; intro a0 hN) | (refine C_rgnk (id := 4) hN [(0, _), (1, _), (2, _), (6, _), (7, _), (8, _), (32, _)] ⟨rfl, rfl, rfl, rfl, rfl, rfl, rfl, trivial⟩ ?_; clear hN; intro a0 hN) | (refine C_rgnk (id := 5) hN [(0, _), (1, _), (2, _), (6, _), (7, _), (8, _), (9, _), (32, _)] ⟨rfl, rfl, rfl, rfl, rfl, rfl, rfl, rfl, trivial⟩ ?_; clear hN; intro a0 hN) | (refine C_true hN rfl ?_) | (refine C_if hN rfl (fun hb => ?_) (fun hb => ?_) <;> ((first | (exfalso; omega) | (exfalso; exact hb rfl) | (exfalso; exact hb (fun h => h rfl)) | ((with_reducible refine absurd ?_ hb); (repeat' (first | exact trivial | refine And.intro rfl ?_)); done) | (replace hb := Classical.not_not.1 hb) | skip))) | (refine C_skip ?_) | (refine C_ret ?_) | (refine C_block ?_)))
    | (refine isE ?_; (first | (refine E_thn ?_) | (refine E_thn_ret ?_) | (refine E_ret hN Try.results5 (.tmp rfl .nil) ?_))))
  all_goals first
    | exact ⟨rfl, hT.fr⟩
    | skip
  all_goals
    have h8 : ¬ 8 < es.length := by omega
    have hp0 : (putU false es).2 = 0 := by rw [← hpn]; omega
    have hg : ensGood none es := by
      apply Classical.byContradiction; intro hg
      unfold putU at hp0; rw [if_neg h8, if_neg hg] at hp0; cases hp0
    obtain ⟨cs, hc1, hc2, hc3⟩ := upd_parts full most h8 hg hxe
    rw [hup, hc1] at hbs
    have hbl : bys.length = cs.length := by have := congrArg List.length hbs; simpa using this
    have hT2 := (hT.swap.freezeAll).sel [0] rfl
    clear hT
    have hB : ∀ b, b ∈ bys → By.ob b ∈ bys.map By.ob ++ (Ob.rd x3 gs.length 22 (gs.map En.cells).flatten :: (gs.map En.wob ++ (gs.map En.pob ++ (Ob.rd x1 fs.length 22 (fs.map En.cells).flatten :: (fs.map En.wob ++ (fs.map En.pob ++ M0)))))) := fun b hb => List.mem_append_left _ (List.mem_map.2 ⟨b, hb, rfl⟩)
    have hM0 : ∀ o, o ∈ M0 → o ∈ bys.map By.ob ++ (Ob.rd x3 gs.length 22 (gs.map En.cells).flatten :: (gs.map En.wob ++ (gs.map En.pob ++ (Ob.rd x1 fs.length 22 (fs.map En.cells).flatten :: (fs.map En.wob ++ (fs.map En.pob ++ M0)))))) := fun o ho => by simp [ho]
    generalize bys.map By.ob ++ (Ob.rd x3 gs.length 22 (gs.map En.cells).flatten :: (gs.map En.wob ++ (gs.map En.pob ++ (Ob.rd x1 fs.length 22 (fs.map En.cells).flatten :: (fs.map En.wob ++ (fs.map En.pob ++ M0)))))) = M at *
    refine C_loop hN (X := Nat × List En × List Ob × Option Addr × Nat) (fun y => [(0, .slice x es.length c), (1, .bool full), (2, .int .i64 most), (9, .slice y.2.2.2.1 y.2.1.length y.2.2.2.2), (38, .slice x4 bys.length c4), (39, .int .i64 bys.length), (40, .int .i64 y.1)])
      (fun y w1 => y.1 ≤ cs.length ∧ y.2.1.map En.nm = ((cs.take y.1).flatten).map En.nm ∧ (∀ f, f ∈ y.2.1 → f.Ok ∧ (∃ o, o ∈ y.2.2.1 ∧ Ob.Ent o f.wob) ∧ (∃ o, o ∈ y.2.2.1 ∧ Ob.Ent o f.pob)) ∧ Tk [] w w1 [Ob.own 48 22 (.slice y.2.2.2.1 y.2.1.length y.2.2.2.2) y.2.1.length (y.2.1.map En.cells).flatten, Ob.all y.2.2.1, Ob.own 23 1 (.slice x4 bys.length c4) bys.length (bys.map By.cell)] M) (fun y => cs.length - y.1) (0, [], [], none, 0) ⟨rfl, rfl, rfl, rfl, rfl, rfl, rfl, trivial⟩ ⟨Nat.zero_le _, rfl, (fun f hf => by cases hf), hT2.nilAll.addnil 48 22⟩ ?_
    clear hN hT2
    rintro ⟨i, got, os, x9, c9⟩ a0 ww hN ⟨hi, hgn, hgo2, hT⟩
    dsimp only at hi hgn hgo2 hT ⊢
    have hgl2 : got.length ≤ 8 := by
      have e1 := congrArg List.length hgn
      have e2 := congrArg List.length (List.take_append_drop i cs)
      have e3 := congrArg (fun l => l.flatten.length) (List.take_append_drop i cs)
      simp only [List.flatten_append, List.length_append, List.length_map, hc2] at e1 e3
      omega
    by_cases hi0 : i = cs.length
    · subst hi0
      have hgn2 : got.map En.nm = es.map En.nm := by rw [hgn, List.take_length, hc2]
      have hge : got.length = es.length := by have := congrArg List.length hgn2; simpa using this
      have hgs := short_nm hgn2 (ensGood_short hg)
      replace hT := ens_meqT ((hT.swap.freezeAll).freeze) hgo2
      repeat' (first
        | (refine isT ?_; (first | (refine isGuard ?_; (first | (refine T_yes hN rfl rfl rfl ?_))) | (refine T_assign hN rfl (by first | exact .inr trivial | exact .inl rfl) ?_) | (refine T_move hN rfl (by first | exact .inr trivial | exact .inl rfl) ?_) | (refine T_nil ?_) | (refine is_binOp ?_; (first | (refine T_lss hN rfl rfl (by first | exact .inr trivial | exact .inl rfl) ?_))) | (refine is_pick ?_; (first | (refine T_pick1 hN rfl rfl (by first | exact .inr trivial | exact .inl rfl) ?_))) | (refine is_call ?_; (first | (refine is_call ?_; refine T_call (f := 6) hN rfl (by decide) (law21_awake _) ?_; rintro e ww ⟨rfl, hf⟩; replace hT := hT.same hf; clear hf; refine ⟨_, rfl, (by first | exact trivial | ((repeat' (first | exact hT.has 0 rfl | exact hT.has 1 rfl | exact hT.has 2 rfl | exact hT.has 3 rfl | exact hT.has 4 rfl | exact hT.has 5 rfl | exact hT.ord 0 rfl | exact hT.ord 1 rfl | exact hT.ord 2 rfl | exact hT.ord 3 rfl | exact hT.ord 4 rfl | exact hT.ord 5 rfl | exact hT.mrd (by assumption) | refine And.intro ?_ ?_)); done)), ?_⟩) | ((refine is_call ?_; obtain ⟨hP, hK⟩ := hT.call0m; refine T_call (f := 18) hN rfl (by decide) (ref_SameUpdate x9 x c9 c got es hgn2 (by omega) (fun e he => by have := hgs e he; omega) _ (fun f hf => ⟨(hgo2 f hf).1, List.mem_cons_of_mem _ (List.mem_append_left _ (List.mem_map.2 ⟨f, hf, rfl⟩)), List.mem_cons_of_mem _ (List.mem_append_right _ (List.mem_append_left _ (List.mem_map.2 ⟨f, hf, rfl⟩)))⟩) (fun e he => ⟨(hm e he).1, List.mem_cons_of_mem _ (List.mem_append_right _ (List.mem_append_right _ (hM0 _ (hm e he).2.1))), List.mem_cons_of_mem _ (List.mem_append_right _ (List.mem_append_right _ (hM0 _ (hm e he).2.2)))⟩) (List.mem_cons_self ..) (List.mem_cons_of_mem _ (List.mem_append_right _ (List.mem_append_right _ (hM0 _ hxm)))) hP) ?_; rintro e ww ⟨rfl, h1⟩; clear hT hP; replace hT := hK _ _ _ h1; clear hK h1; refine ⟨_, rfl, (by first | exact trivial | ((repeat' (first | exact hT.has 0 rfl | exact hT.has 1 rfl | exact hT.has 2 rfl | exact hT.has 3 rfl | exact hT.has 4 rfl | exact hT.has 5 rfl | exact hT.ord 0 rfl | exact hT.ord 1 rfl | exact hT.ord 2 rfl | exact hT.ord 3 rfl | exact hT.ord 4 rfl | exact hT.ord 5 rfl | exact hT.mrd (by assumption) | refine And.intro ?_ ?_)); done)), ?_⟩)))) | (refine is_build ?_; (first | (refine T_build (t := 63) (us := [_, _]) hN rfl rfl (by first | exact .inr trivial | exact .inl rfl) ?_)))))
        | (refine isC ?_; (first | (refine C_seq ?_) | (refine C_rgn ?_) | (refine C_if hN rfl (fun hb => ?_) (fun hb => ?_) <;> ((first | (exfalso; omega) | (exfalso; exact hb rfl) | (exfalso; exact hb (fun h => h rfl)) | ((with_reducible refine absurd ?_ hb); (repeat' (first | exact trivial | refine And.intro rfl ?_)); done) | (replace hb := Classical.not_not.1 hb) | skip))) | (refine C_ret ?_) | (refine C_exit ?_)))
        | (refine isE ?_; (first | (refine E_thn ?_) | (refine E_thn_exit ?_) | (refine E_blk_hit ?_) | (refine E_lp_exit ?_) | (refine E_ret hN Try.results5 (.tmp rfl .nil) ?_))))
      all_goals first
        | exact ⟨rfl, hT.fr⟩
        | fail "Z"
    · obtain ⟨b, hby⟩ : ∃ b, bys[i]? = some b := ⟨_, List.getElem?_eq_getElem (by omega)⟩
      obtain ⟨ch, hch⟩ : ∃ ch, cs[i]? = some ch := ⟨_, List.getElem?_eq_getElem (by omega)⟩
      have hbe : b.bs = (putU full ch).1 := by
        have e1 : (bys.map By.bs)[i]? = some b.bs := by rw [List.getElem?_map, hby]; rfl
        rw [hbs, List.getElem?_map, hch] at e1
        exact (Option.some.inj e1).symm
      obtain ⟨hq1, hq2, hq3, hq4⟩ := hc3 ch (List.mem_of_getElem? hch)
      have hbm := hB b (List.mem_of_getElem? hby)
      have hbn : b.x = none → b.bs.length = 0 ∧ b.c = 0 := by
        obtain ⟨k, hk⟩ := List.getElem?_of_mem hbm
        obtain ⟨f, _, h⟩ := hT.ro k hk
        exact own_nil h
      obtain ⟨y1, d1, s1⟩ := b
      dsimp only at hbe hbn
      subst hbe
      have cG := fun ww h => frm_Get_put full ch (fun e he => hxe e (hq4 e he)) hq3 y1 d1 hbn ww (m := []) h
      have hbmx := own_max (hT.owns 2 rfl)
      obtain ⟨B, rfl⟩ := hT.own_addr 2 rfl (by omega)
      have hqn : ((cs.take (i + 1)).flatten).map En.nm = ((cs.take i).flatten).map En.nm ++ ch.map En.nm := by
        rw [List.take_add_one, hch, Option.toList_some, List.flatten_append, List.map_append]; simp
      have hch8 : ch.length ≤ 8 := by
        have e3 := congrArg (fun l => l.flatten.length) (List.take_append_drop (i + 1) cs)
        have e4 := congrArg List.length hqn
        simp only [List.flatten_append, List.length_append, List.length_map, hc2] at e3 e4
        omega
      have hchg : ensGood none ch := by
        apply Classical.byContradiction; intro hgc
        unfold putU at hq3; rw [if_neg (by omega), if_neg hgc] at hq3; cases hq3
      repeat' (first
        | (refine isT ?_; (first | (refine isGuard ?_; (first | (refine T_yes hN rfl rfl rfl ?_) | (refine T_no hN rfl rfl rfl rfl ?_) | (refine T_nou hN rfl rfl rfl ?_) | (refine T_guardD hN rfl rfl rfl (fun hb => ?_) (fun hb => ?_) <;> ((first | (exfalso; omega) | (exfalso; exact hb rfl) | (exfalso; exact hb (fun h => h rfl)) | ((with_reducible refine absurd ?_ hb); (repeat' (first | exact trivial | refine And.intro rfl ?_)); done) | (replace hb := Classical.not_not.1 hb) | skip))) | (refine T_guardB hN rfl rfl rfl (fun hb => ?_) (fun hb => ?_) <;> (first | (exfalso; exact Bool.noConfusion (hb.symm.trans (by assumption))) | skip)))) | (refine T_assign hN rfl (by first | exact .inr trivial | exact .inl rfl) ?_) | (refine T_extract hN rfl rfl (by first | exact .inr trivial | exact .inl rfl) ?_) | (refine T_fieldAddr hN rfl (by first | exact .inr trivial | exact .inl rfl) ?_) | (refine T_move hN rfl (by first | exact .inr trivial | exact .inl rfl) ?_) | (refine T_nil ?_) | (refine is_load ?_; (first | (refine T_loadc (d := 43) hN rfl (by_cell2 (hT.ord 2 rfl) hby) (by first | exact .inl rfl | exact .inr ⟨by decide, trivial⟩) ?_) | (refine T_load hN rfl (hT.has 0 rfl) rfl (by first | exact .inl rfl | exact .inr ⟨by decide, trivial⟩) ?_))) | (refine is_binOp ?_; (first | (refine T_addi64 hN rfl rfl (by omega) (by first | exact .inr trivial | exact .inl rfl) ?_) | (refine T_eql hN rfl rfl (by first | exact .inr trivial | exact .inl rfl) ?_) | (refine T_gtr hN rfl rfl (by first | exact .inr trivial | exact .inl rfl) ?_) | (refine T_lss hN rfl rfl (by first | exact .inr trivial | exact .inl rfl) ?_) | (refine T_neqb hN rfl rfl (by first | exact .inr trivial | exact .inl rfl) ?_) | (refine T_neq hN rfl rfl (by first | exact .inr trivial | exact .inl rfl) ?_))) | (refine is_pick ?_; (first | (refine T_pick1 hN rfl rfl (by first | exact .inr trivial | exact .inl rfl) ?_) | (refine T_pick0 hN rfl rfl (by first | exact .inr trivial | exact .inl rfl) ?_))) | (refine is_call ?_; (first | ((refine is_call ?_; obtain ⟨hP, hK⟩ := hT.call0 [Ob.rd y1 (putU full ch).1.length 1 (u8s (putU full ch).1)] (fun o' ho => by rw [List.mem_singleton] at ho; subst ho; exact ⟨_, List.mem_append_right _ hbm, Ent.own_rd _ _ _ _ _ _⟩); refine T_call (f := 16) hN rfl (by decide) (cG _ hP) ?_; rintro e ww ⟨x5, c5, hs, os5, rfl, hk5, hko5, h1⟩; clear hT hP; replace hT := hK _ _ _ h1; clear hK h1; refine ⟨_, rfl, (by first | exact trivial | ((repeat' (first | exact hT.has 0 rfl | exact hT.has 1 rfl | exact hT.has 2 rfl | exact hT.has 3 rfl | exact hT.has 4 rfl | exact hT.has 5 rfl | exact hT.ord 0 rfl | exact hT.ord 1 rfl | exact hT.ord 2 rfl | exact hT.ord 3 rfl | exact hT.ord 4 rfl | exact hT.ord 5 rfl | exact hT.mrd (by assumption) | refine And.intro ?_ ?_)); done)), ?_⟩); have hsl : hs.length = ch.length := (by have := congrArg List.length hk5; simpa using this); replace hT := ens_meqT ((hT.swap.freezeAll).freeze) hko5) | ((refine is_call ?_; obtain ⟨hP, hK⟩ := hT.call0m; refine T_call (f := 17) hN rfl (by decide) (law21_back x5 c5 hs (by omega) (fun f hf => by have := short_nm hk5 (ensGood_short hchg) f hf; omega) _ (fun f hf => ⟨(hko5 f hf).1, List.mem_cons_of_mem _ (List.mem_append_left _ (List.mem_map.2 ⟨f, hf, rfl⟩)), List.mem_cons_of_mem _ (List.mem_append_right _ (List.mem_append_left _ (List.mem_map.2 ⟨f, hf, rfl⟩)))⟩) (List.mem_cons_self ..) hP) ?_; rintro e ww ⟨x7, c7, ks, os7, rfl, hk7, hko7, h1⟩; clear hT hP; replace hT := hK _ _ _ h1; clear hK h1; refine ⟨_, rfl, (by first | exact trivial | ((repeat' (first | exact hT.has 0 rfl | exact hT.has 1 rfl | exact hT.has 2 rfl | exact hT.has 3 rfl | exact hT.has 4 rfl | exact hT.has 5 rfl | exact hT.ord 0 rfl | exact hT.ord 1 rfl | exact hT.ord 2 rfl | exact hT.ord 3 rfl | exact hT.ord 4 rfl | exact hT.ord 5 rfl | exact hT.mrd (by assumption) | refine And.intro ?_ ?_)); done)), ?_⟩); have hkl : ks.length = hs.length := (by have := congrArg List.length hk7; simpa using this)) | (refine T_append hN hT 3 (by rfl) (by rfl) rfl rfl rfl (own_nil (hT.owns 0 rfl)) (hT.ord 0 rfl) ens_all1 (by unfold maxLen; omega) (by omega) (by decide) ?_; clear hT; intro x8 c8 ww hT; refine ⟨trivial, ?_⟩) | (refine T_len hN rfl (by first | exact .inr trivial | exact .inl rfl) ?_))) | (refine is_store ?_; (first | (refine T_storen hN hT 0 rfl rfl rfl rfl rfl rfl (by decide) ?_; clear hT; intro ww hT; refine ⟨(by first | exact trivial), ?_⟩))) | (refine is_alloc ?_; (first | (refine T_alloc hN hT (by decide) ?_; clear hT; intro g ww hT; refine ⟨(by first | exact trivial), ?_⟩))) | (refine is_field ?_; (first | (refine T_field1 hN rfl rfl (by first | exact .inr trivial | exact .inl rfl) ?_))) | (refine is_indexAddr ?_; (first | (refine T_indexAddr hN rfl rfl (by omega) (by first | exact .inr trivial | exact .inl rfl) ?_)))))
        | (refine isC ?_; (first | (refine C_seq ?_) | (refine C_rgn ?_) | (refine C_true hN rfl ?_) | (refine C_false hN rfl ?_) | (refine C_if hN rfl (fun hb => ?_) (fun hb => ?_) <;> ((first | (exfalso; omega) | (exfalso; exact hb rfl) | (exfalso; exact hb (fun h => h rfl)) | ((with_reducible refine absurd ?_ hb); (repeat' (first | exact trivial | refine And.intro rfl ?_)); done) | (replace hb := Classical.not_not.1 hb) | skip))) | (refine C_skip ?_) | (refine C_ret ?_) | (refine C_block ?_)))
        | (refine isE ?_; (first | (refine E_thn ?_) | (refine E_thn_ret ?_) | (refine E_blk ?_) | (refine E_blk_ret ?_) | (refine E_lp_ret ?_) | (refine E_ret hN Try.results5 (.tmp rfl .nil) ?_))))
      all_goals first
        | (exfalso; cases full <;> cases hb <;> fail)
        | (exfalso; omega)
        | skip
      all_goals
        replace hT := Tk.mergeAll ((hT.meq (fun o ho => ⟨o, List.mem_cons_of_mem _ (List.mem_append_right _ (List.mem_append_right _ ho)), Ob.Ent.refl _⟩)).sel [4, 1, 2, 2] rfl)
        refine E_mk hN (i + 1, got ++ ks, os ++ os7, x8, c8) ⟨rfl, rfl, rfl, evV rfl (by rw [List.length_append]), rfl, rfl, evI rfl (by omega), trivial⟩ ⟨⟨by omega, by rw [List.map_append, hgn, hk7, hk5, hqn], ?_, ?_⟩, by omega⟩
        · intro f hf
          rcases List.mem_append.1 hf with hf | hf
          · obtain ⟨g1, ⟨o1, g2, g3⟩, ⟨o2, g4, g5⟩⟩ := hgo2 f hf
            exact ⟨g1, ⟨o1, List.mem_append_left _ g2, g3⟩, ⟨o2, List.mem_append_left _ g4, g5⟩⟩
          · obtain ⟨g1, ⟨o1, g2, g3⟩, ⟨o2, g4, g5⟩⟩ := hko7 f hf
            exact ⟨g1, ⟨o1, List.mem_append_right _ g2, g3⟩, ⟨o2, List.mem_append_right _ g4, g5⟩⟩
        · simpa using hT.swap
end Go.Proofs.Yteikjachfafadaa
