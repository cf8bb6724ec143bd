/- THE WALK: the updates of any entries are the document's. -/
import Derived.Test.YteikjachfafadaaUpR21
import Derived.Test.YteikjachfafadaaEn21
import Derived.Test.YteikjachfafadaaBd21b
namespace Go.Proofs.Yteikjachfafadaa
open Go.RowKit Go.Fp
attribute [local irreducible] Go.Calls
set_option maxRecDepth 100000
set_option maxHeartbeats 8000000
theorem good_nm (p : Option En) (e : En) : En.good (p.map En.nm) e.nm ↔ En.good p e := by
  unfold En.good
  have : (∀ q, p.map En.nm = some q → q.dest < e.nm.dest) ↔ (∀ q, p = some q → q.dest < e.dest) := by
    cases p with
    | none => simp
    | some a => simp [En.nm]
  rw [this]
  rfl
theorem ensGood_nm : ∀ (es : List En) (p : Option En), ensGood (p.map En.nm) (es.map En.nm) ↔ ensGood p es
  | [], _ => Iff.rfl
  | e :: es, p => by
    simp only [List.map_cons, ensGood]
    rw [good_nm]
    have := ensGood_nm es (some e)
    rw [Option.map_some] at this
    rw [this]
theorem putU_nm (full : Bool) (es : List En) : putU full (es.map En.nm) = putU full es := by
  unfold putU
  have h1 : ensGood none (es.map En.nm) ↔ ensGood none es := ensGood_nm es none
  have h2 : (es.map En.nm).flatMap En.enc = es.flatMap En.enc := by rw [List.flatMap_map]; rfl
  rw [List.length_map, h2]
  by_cases h8 : 8 < es.length
  · rw [if_pos h8, if_pos h8]
  · rw [if_neg h8, if_neg h8]
    by_cases hg : ensGood none es
    · rw [if_pos hg, if_pos (h1.2 hg)]
    · rw [if_neg hg, if_neg (fun h => hg (h1.1 h))]
theorem growU_nm (full : Bool) (most : Int) (l : List En) : ∀ k n, growU full most (l.map En.nm) k n = growU full most l k n
  | 0, _ => rfl
  | k + 1, n => by
    unfold growU
    rw [growU_nm full most l k (n + 1), List.length_map, ← List.map_take, putU_nm]
theorem updU_nm (full : Bool) (most : Int) : ∀ k l, updU full most k (l.map En.nm) = updU full most k l
  | 0, _ => rfl
  | k + 1, l => by
    unfold updU oneU grow
    rw [List.length_map, growU_nm, ← List.map_take, ← List.map_drop, putU_nm, updU_nm full most k]
theorem upd_nm (full : Bool) (most : Int) {l l' : List En} (h : l.map En.nm = l'.map En.nm) : upd full most l = upd full most l' := by
  have e1 : upd full most (l.map En.nm) = upd full most l := by unfold upd; rw [updU_nm, List.length_map]
  have e2 : upd full most (l'.map En.nm) = upd full most l' := by unfold upd; rw [updU_nm, List.length_map]
  rw [← e1, ← e2, h]
theorem by_cell {w : World} {B off n : Nat} {l : List By} (h : Rdz w (some ⟨B, off, none⟩) n 1 (l.map By.cell)) {j : Nat} {b : By} (hj : l[j]? = some b) : w.cell? ⟨B, off + j * 1, none⟩ = some (.slice b.x b.bs.length b.c) :=
  h.cell rfl (by rw [Nat.mul_one, List.getElem?_map, hj]; rfl)
theorem own_max {w : World} {e : TypeId} {sz n : Nat} {v : Value} {xs : List Value} (h : w.ownsRow 0 e sz v n xs) : n ≤ 9223372036854775807 := by
  rcases h.2 with ⟨_, h2⟩ | ⟨g, cap, cur, _, _, _, h3, h4, _⟩
  · omega
  · unfold maxLen at h4; omega
theorem ens_meq {S : List Nat} {w0 w : World} {l M0 os : List Ob} {x1 : Option Addr} {c1 : Nat} {fs : List En} (h : Tk S w0 w l (Ob.own 87 22 (.slice x1 fs.length c1) fs.length (fs.map En.cells).flatten :: (os ++ M0)))
    (hfo : ∀ f, f ∈ fs → f.Ok ∧ (∃ o, o ∈ os ∧ Ob.Ent o f.wob) ∧ (∃ o, o ∈ os ∧ Ob.Ent o f.pob)) : Tk S w0 w l (Ob.rd x1 fs.length 22 (fs.map En.cells).flatten :: (fs.map En.wob ++ (fs.map En.pob ++ M0))) := by
  refine h.meq fun o ho => ?_
  rcases List.mem_cons.1 ho with rfl | ho
  · exact ⟨_, List.mem_cons_self .., Ent.own_rd _ _ _ _ _ _⟩
  · rcases List.mem_append.1 ho with ho | ho
    · obtain ⟨f, hf, rfl⟩ := List.mem_map.1 ho
      obtain ⟨_, ⟨o1, g1, g2⟩, _⟩ := hfo f hf
      exact ⟨o1, List.mem_cons_of_mem _ (List.mem_append_left _ g1), g2⟩
    · rcases List.mem_append.1 ho with ho | ho
      · obtain ⟨f, hf, rfl⟩ := List.mem_map.1 ho
        obtain ⟨_, _, ⟨o1, g1, g2⟩⟩ := hfo f hf
        exact ⟨o1, List.mem_cons_of_mem _ (List.mem_append_left _ g1), g2⟩
      · exact ⟨o, List.mem_cons_of_mem _ (List.mem_append_right _ ho), Ob.Ent.refl _⟩
theorem law21_Updates (x : Option Addr) (c : Nat) (es : List En) (hx : es.length ≤ c) (hcm : c ≤ maxLen) (full : Bool) (most : Int) (w : World) (M0 : List Ob) (hm : EnR M0 es) (hxm : Ob.rd x es.length 22 (es.map En.cells).flatten ∈ M0) (hT : Tk [] w w [] M0) :
    Calls Try.prog 4 #[.slice x es.length c, .bool full, .int .i64 most] w fun e w' => e = .returned (.bool true) ∧ Fr [] w w' := by
  have hxe : ∀ e, e ∈ es → e.Ok := fun e he => (hm e he).1
  by_cases h12 : es.length ≤ 12
  · refine enter [(0, _), (1, _), (2, _)] Try.func4 rfl Try.ntmps4 (Nat.le_of_ble_eq_true rfl) rfl ?_; intro a0 hN
    repeat' (first
      | (refine isT ?_; (first | (refine T_assign hN rfl (by first | exact .inr trivial | exact .inl rfl) ?_) | (refine T_move hN rfl (by first | exact .inr trivial | exact .inl rfl) ?_) | (refine T_nil ?_) | (refine is_binOp ?_; (first | (refine T_gtr hN rfl rfl (by first | exact .inr trivial | exact .inl rfl) ?_))) | (refine is_call ?_; (first | (refine T_len hN rfl (by first | exact .inr trivial | exact .inl rfl) ?_)))))
      | (refine isC ?_; (first | (refine C_seq ?_) | (refine C_rgnk (id := 0) hN [(0, _), (1, _), (2, _)] ⟨rfl, rfl, rfl, trivial⟩ ?_; clear hN; intro a0 hN) | (refine C_rgnk (id := 1) hN [(0, _), (1, _), (2, _), (6, _)] ⟨rfl, rfl, rfl, rfl, trivial⟩ ?_; clear hN; intro a0 hN) | (refine C_rgnk (id := 3) hN [(0, _), (1, _), (2, _), (6, _), (14, _)] ⟨rfl, rfl, rfl, rfl, rfl, trivial⟩ ?_; clear hN; intro a0 hN) | (refine C_if hN rfl (fun hb => ?_) (fun hb => ?_) <;> ((first | (exfalso; omega) | (exfalso; exact hb rfl) | (exfalso; exact hb (fun h => h rfl)) | ((with_reducible refine absurd ?_ hb); (repeat' (first | exact trivial | refine And.intro rfl ?_)); done) | (replace hb := Classical.not_not.1 hb) | skip))) | (refine C_skip ?_) | (refine C_block ?_)))
      | (refine isE ?_; (first | (refine E_thn ?_))))
    refine C_loop hN (X := Nat) (fun j => [(0, .slice x es.length c), (1, .bool full), (2, .int .i64 most), (16, .slice x es.length c), (17, .int .i64 es.length), (18, .int .i64 j)])
      (fun j w1 => j ≤ es.length ∧ (∀ e, e ∈ es.take j → e.way.length ≤ 20 ∧ e.path.length ≤ 20) ∧ Tk [] w w1 [] M0) (fun j => es.length - j) 0 ⟨rfl, rfl, rfl, rfl, rfl, rfl, trivial⟩ ⟨Nat.zero_le _, (fun e he => by cases he), hT⟩ ?_
    clear hN hT
    rintro j a0 ww hN ⟨hj, hli, hT⟩
    by_cases hj0 : j = es.length
    · subst hj0
      rw [List.take_length] at hli
      have cE := fun ww h => law21_entries x c es (by omega) (fun e he => by have := hli e he; omega) ww (m := M0) hm hxm h
      have cR := fun ww m1 h1 h2 h3 => ref_Updates x c es ww (m := m1) h1 h2 (by omega) hx h3 full most
      unfold UpPost at cR
      unfold EnsPost at cE
      repeat' (first
        | (refine isT ?_; (first | (refine T_assign hN rfl (by first | exact .inr trivial | exact .inl rfl) ?_) | (refine T_move hN rfl (by first | exact .inr trivial | exact .inl rfl) ?_) | (refine T_nil ?_) | (refine is_binOp ?_; (first | (refine T_lss hN rfl rfl (by first | exact .inr trivial | exact .inl rfl) ?_) | (refine T_neq hN rfl rfl (by first | exact .inr trivial | exact .inl rfl) ?_))) | (refine is_call ?_; (first | ((refine is_call ?_; obtain ⟨hP, hK⟩ := hT.call0m; refine T_call (f := 13) hN rfl (by decide) (cE _ hP) ?_; rintro e ww ⟨x1, c1, fs, os, rfl, hnm, hfo, h1⟩; clear hT hP; replace hT := hK _ _ _ h1; clear hK h1; refine ⟨_, rfl, (by first | exact trivial | ((repeat' (first | exact hT.has 0 rfl | exact hT.has 1 rfl | exact hT.has 2 rfl | exact hT.has 3 rfl | exact hT.has 4 rfl | exact hT.has 5 rfl | exact hT.ord 0 rfl | exact hT.ord 1 rfl | exact hT.ord 2 rfl | exact hT.ord 3 rfl | exact hT.ord 4 rfl | exact hT.ord 5 rfl | exact hT.mrd (by assumption) | refine And.intro ?_ ?_)); done)), ?_⟩); have hfc := own_le (hT.owns 0 rfl); have hfl : fs.length = es.length := (by have := congrArg List.length hnm; simpa using this); have hup := upd_nm full most hnm; replace hT := ens_meq ((hT.swap.freezeAll).freeze) hfo) | (refine is_call ?_; obtain ⟨hP, hK⟩ := hT.call0m; refine T_call (f := 12) hN rfl (by decide) (bld_Updates x1 c1 fs _ (fun f hf => ⟨(hfo f hf).1, List.mem_cons_of_mem _ (List.mem_append_left _ (List.mem_map.2 ⟨f, hf, rfl⟩)), List.mem_cons_of_mem _ (List.mem_append_right _ (List.mem_append_left _ (List.mem_map.2 ⟨f, hf, rfl⟩)))⟩) (List.mem_cons_self ..) (by omega) hfc hP full most) ?_; rintro e ww ⟨x2, c2, b1, rfl, hb1, h1⟩; clear hT hP; replace hT := hK _ _ _ h1; clear hK h1; refine ⟨_, rfl, (by first | exact trivial | ((repeat' (first | exact hT.has 0 rfl | exact hT.has 1 rfl | exact hT.has 2 rfl | exact hT.has 3 rfl | exact hT.has 4 rfl | exact hT.has 5 rfl | exact hT.ord 0 rfl | exact hT.ord 1 rfl | exact hT.ord 2 rfl | exact hT.ord 3 rfl | exact hT.ord 4 rfl | exact hT.ord 5 rfl | exact hT.mrd (by assumption) | refine And.intro ?_ ?_)); done)), ?_⟩) | ((refine is_call ?_; obtain ⟨hP, hK⟩ := hT.call0m; refine T_call (f := 14) hN rfl (by decide) (cR _ _ (fun e he => ⟨(hm e he).1, List.mem_cons_of_mem _ (List.mem_append_right _ (List.mem_append_right _ (hm e he).2.1)), List.mem_cons_of_mem _ (List.mem_append_right _ (List.mem_append_right _ (hm e he).2.2))⟩) (List.mem_cons_of_mem _ (List.mem_append_right _ (List.mem_append_right _ hxm))) hP) ?_; rintro e ww ⟨x3, c3, b2, rfl, hb2, h1⟩; clear hT hP; replace hT := hK _ _ _ h1; clear hK h1; refine ⟨_, rfl, (by first | exact trivial | ((repeat' (first | exact hT.has 0 rfl | exact hT.has 1 rfl | exact hT.has 2 rfl | exact hT.has 3 rfl | exact hT.has 4 rfl | exact hT.has 5 rfl | exact hT.ord 0 rfl | exact hT.ord 1 rfl | exact hT.ord 2 rfl | exact hT.ord 3 rfl | exact hT.ord 4 rfl | exact hT.ord 5 rfl | exact hT.mrd (by assumption) | refine And.intro ?_ ?_)); done)), ?_⟩); have hbl : b1.length = b2.length := (by have e1 := congrArg List.length hb1; have e2 := congrArg List.length hb2; rw [hup] at e1; simp only [List.length_map] at e1 e2; omega)) | (refine T_len hN rfl (by first | exact .inr trivial | exact .inl rfl) ?_)))))
        | (refine isC ?_; (first | (refine C_seq ?_) | (refine C_rgn ?_) | (refine C_if hN rfl (fun hb => ?_) (fun hb => ?_) <;> ((first | (exfalso; omega) | (exfalso; exact hb rfl) | (exfalso; exact hb (fun h => h rfl)) | ((with_reducible refine absurd ?_ hb); (repeat' (first | exact trivial | refine And.intro rfl ?_)); done) | (replace hb := Classical.not_not.1 hb) | skip))) | (refine C_skip ?_) | (refine C_block ?_) | (refine C_exit ?_)))
        | (refine isE ?_; (first | (refine E_thn ?_) | (refine E_thn_exit ?_) | (refine E_blk_hit ?_) | (refine E_lp_exit ?_))))
      all_goals
        have hT2 := ((hT.sel [3, 1, 0, 0] rfl).freezeAll).freezeAll
        clear hT
        rw [← hbl] at hT2
        have hbs : b1.map By.bs = b2.map By.bs := by rw [hb1, hb2, hup]
        have hbn := own_max (hT2.owns 1 rfl)
        have hin1 : ∀ b, b ∈ b1 → By.ob b ∈ b2.map By.ob ++ (b1.map By.ob ++ (Ob.rd x1 fs.length 22 (fs.map En.cells).flatten :: (fs.map En.wob ++ (fs.map En.pob ++ M0)))) := fun b hb => List.mem_append_right _ (List.mem_append_left _ (List.mem_map.2 ⟨b, hb, rfl⟩))
        have hin2 : ∀ b, b ∈ b2 → By.ob b ∈ b2.map By.ob ++ (b1.map By.ob ++ (Ob.rd x1 fs.length 22 (fs.map En.cells).flatten :: (fs.map En.wob ++ (fs.map En.pob ++ M0)))) := fun b hb => List.mem_append_left _ (List.mem_map.2 ⟨b, hb, rfl⟩)
        generalize b2.map By.ob ++ (b1.map By.ob ++ (Ob.rd x1 fs.length 22 (fs.map En.cells).flatten :: (fs.map En.wob ++ (fs.map En.pob ++ M0)))) = M at *
        refine C_loop hN (X := Nat) (fun j => [(9, .slice x2 b1.length c2), (10, .slice x3 b1.length c3), (43, .int .i64 b1.length), (44, .int .i64 j)])
          (fun j w1 => j ≤ b1.length ∧ Tk [] w w1 [Ob.own 23 1 (.slice x3 b1.length c3) b1.length (b2.map By.cell), Ob.own 23 1 (.slice x2 b1.length c2) b1.length (b1.map By.cell)] M) (fun j => b1.length - j) 0 ⟨rfl, by rw [hbl]; rfl, rfl, rfl, trivial⟩ ⟨Nat.zero_le _, hT2⟩ ?_
        clear hN hT2
        rintro j a0 ww hN ⟨hj, hT⟩
        by_cases hj0 : j = b1.length
        · subst hj0
          repeat' (first
            | (refine isT ?_; (first | (refine T_assign hN rfl (by first | exact .inr trivial | exact .inl rfl) ?_) | (refine T_nil ?_) | (refine is_binOp ?_; (first | (refine T_lss hN rfl rfl (by first | exact .inr trivial | exact .inl rfl) ?_))) | (refine is_call ?_; (first | (refine is_call ?_; refine T_call (f := 6) hN rfl (by decide) (law21_awake _) ?_; rintro e ww ⟨rfl, hf⟩; replace hT := hT.same hf; clear hf; refine ⟨_, rfl, (by first | exact trivial | ((repeat' (first | exact hT.has 0 rfl | exact hT.has 1 rfl | exact hT.has 2 rfl | exact hT.has 3 rfl | exact hT.has 4 rfl | exact hT.has 5 rfl | exact hT.ord 0 rfl | exact hT.ord 1 rfl | exact hT.ord 2 rfl | exact hT.ord 3 rfl | exact hT.ord 4 rfl | exact hT.ord 5 rfl | exact hT.mrd (by assumption) | refine And.intro ?_ ?_)); done)), ?_⟩)))))
            | (refine isC ?_; (first | (refine C_seq ?_) | (refine C_rgn ?_) | (refine C_if hN rfl (fun hb => ?_) (fun hb => ?_) <;> ((first | (exfalso; omega) | (exfalso; exact hb rfl) | (exfalso; exact hb (fun h => h rfl)) | ((with_reducible refine absurd ?_ hb); (repeat' (first | exact trivial | refine And.intro rfl ?_)); done) | (replace hb := Classical.not_not.1 hb) | skip))) | (refine C_ret ?_) | (refine C_exit ?_)))
            | (refine isE ?_; (first | (refine E_thn ?_) | (refine E_thn_exit ?_) | (refine E_blk_hit ?_) | (refine E_lp_exit ?_) | (refine E_ret hN Try.results4 (.tmp rfl .nil) ?_))))
          all_goals exact ⟨rfl, hT.fr⟩
        · obtain ⟨B, rfl⟩ := hT.own_addr 1 rfl (by omega)
          obtain ⟨B2, rfl⟩ := hT.own_addr 0 rfl (by omega)
          obtain ⟨r1, hr1⟩ : ∃ r, b1[j]? = some r := ⟨_, List.getElem?_eq_getElem (by omega)⟩
          obtain ⟨r2, hr2⟩ : ∃ r, b2[j]? = some r := ⟨_, List.getElem?_eq_getElem (by omega)⟩
          have hke : r1.bs = r2.bs := by
            have e1 : (b1.map By.bs)[j]? = some r1.bs := by rw [List.getElem?_map, hr1]; rfl
            have e2 : (b2.map By.bs)[j]? = some r2.bs := by rw [List.getElem?_map, hr2]; rfl
            rw [hbs, e2] at e1
            exact (Option.some.inj e1).symm
          have ho1 := hin1 r1 (List.mem_of_getElem? hr1)
          have ho2 := hin2 r2 (List.mem_of_getElem? hr2)
          obtain ⟨y1, d1, s1⟩ := r1
          obtain ⟨y2, d2, s2⟩ := r2
          dsimp only at hke
          subst hke
          repeat' (first
            | (refine isT ?_; (first | (refine T_assign hN rfl (by first | exact .inr trivial | exact .inl rfl) ?_) | (refine T_move hN rfl (by first | exact .inr trivial | exact .inl rfl) ?_) | (refine T_nil ?_) | (refine T_nild ?_) | (refine is_load ?_; (first | (refine T_loadc (d := 50) hN rfl (by_cell (hT.ord 1 rfl) hr1) (by first | exact .inl rfl | exact .inr ⟨by decide, trivial⟩) ?_) | (refine T_loadc (d := 55) hN rfl (by_cell (hT.ord 0 rfl) hr2) (by first | exact .inl rfl | exact .inr ⟨by decide, trivial⟩) ?_))) | (refine is_binOp ?_; (first | (refine T_neqbs hN rfl rfl (by first | exact .inr trivial | exact .inl rfl) ?_) | (refine T_addi64 hN rfl rfl (by omega) (by first | exact .inr trivial | exact .inl rfl) ?_) | (refine T_lss hN rfl rfl (by first | exact .inr trivial | exact .inl rfl) ?_))) | (refine is_convert ?_; (first | (refine T_b2s (d := 51) hN rfl (hT.mown ho1) (by first | exact .inl rfl | exact .inr ⟨by decide, trivial⟩) ?_) | (refine T_b2s (d := 56) hN rfl (hT.mown ho2) (by first | exact .inl rfl | exact .inr ⟨by decide, trivial⟩) ?_))) | (refine is_indexAddr ?_; (first | (refine T_indexAddr hN rfl rfl (by omega) (by first | exact .inr trivial | exact .inl rfl) ?_)))))
            | (refine isC ?_; (first | (refine C_seq ?_) | (refine C_rgn ?_) | (refine C_if hN rfl (fun hb => ?_) (fun hb => ?_) <;> ((first | (exfalso; omega) | (exfalso; exact hb rfl) | (exfalso; exact hb (fun h => h rfl)) | ((with_reducible refine absurd ?_ hb); (repeat' (first | exact trivial | refine And.intro rfl ?_)); done) | (replace hb := Classical.not_not.1 hb) | skip))) | (refine C_skip ?_) | (refine C_block ?_) | (refine C_draw (id := 15) [0, 0, 0, 1, 1, 0, 0, 0, 1, 1] Any Try.mixed (by kernel_rfl) trivial ?_; replace hT := hT.drew)))
            | (refine isE ?_; (first | (refine E_thn ?_) | (refine E_blk ?_))))
          all_goals exact E_mk hN (j + 1) ⟨rfl, rfl, rfl, evI rfl (by omega), trivial⟩ ⟨⟨by omega, hT⟩, by omega⟩
    · obtain ⟨e, he⟩ : ∃ e, es[j]? = some e := ⟨_, List.getElem?_eq_getElem (by omega)⟩
      have hOk := hxe e (List.mem_of_getElem? he)
      obtain ⟨Bk, off, rfl⟩ := (hT.mrd hxm).addr (by omega)
      have hc : ∀ {w : World}, Rdz w (some ⟨Bk, off, none⟩) es.length 22 (es.map En.cells).flatten → ∀ (i : Nat) (v : Value), e.cells[i]? = some v → w.cell? ⟨Bk, off + j * 22 + i, none⟩ = some v := fun h => h.row (ens_len hxe) (by rw [List.getElem?_map, he]; rfl)
      have hnext : (e.way.length ≤ 20 ∧ e.path.length ≤ 20) → ∀ e, e ∈ es.take (j + 1) → e.way.length ≤ 20 ∧ e.path.length ≤ 20 := fun h e1 he1 => by
        rw [List.take_add_one, he, Option.toList_some, List.mem_append, List.mem_singleton] at he1
        rcases he1 with he1 | rfl
        · exact hli e1 he1
        · exact h
      obtain ⟨dest, ep, sq, me, leaf, wx, wc, way, px, pc, path⟩ := e
      obtain ⟨o1, o2, o3, o4, o5⟩ := hOk
      dsimp only at o1 o2 o3 o4 o5 hnext
      obtain ⟨b0, b1, b2, b3, b4, b5, b6, b7, b8, b9, b10, b11, b12, b13, b14, b15, rfl⟩ := sixteen o3
      have cL := fun ww => law09_Light b0 b1 b2 b3 b4 b5 b6 b7 b8 b9 b10 b11 b12 b13 b14 b15 wx way.length wc px path.length pc ww
      repeat' (first
        | (refine isT ?_; (first | (refine T_assign hN rfl (by first | exact .inr trivial | exact .inl rfl) ?_) | (refine T_fieldAddr hN rfl (by first | exact .inr trivial | exact .inl rfl) ?_) | (refine T_move hN rfl (by first | exact .inr trivial | exact .inl rfl) ?_) | (refine T_notd hN rfl (by first | exact .inr trivial | exact .inl rfl) ?_) | (refine T_nil ?_) | (refine is_load ?_; (first | (refine T_loadnc (d := 21) hN rfl (us := [.int .i64 dest, .int .u32 ep, .int .u32 sq, .int .i64 me, u8 b0, u8 b1, u8 b2, u8 b3, u8 b4, u8 b5, u8 b6, u8 b7, u8 b8, u8 b9, u8 b10, u8 b11, u8 b12, u8 b13, u8 b14, u8 b15, .slice wx way.length wc, .slice px path.length pc]) rfl (hc (hT.mrd hxm)) (by first | exact .inl rfl | exact .inr ⟨by decide, trivial⟩) ?_) | (refine T_loadn (t := 46) (us := [_, _, _, _, _, _, _, _, _, _, _, _, _, _, _, _, _, _]) hN rfl (hT.has 0 rfl) rfl rfl (by first | exact .inl rfl | exact .inr ⟨by decide, trivial⟩) ?_))) | (refine is_binOp ?_; (first | (refine T_addi64 hN rfl rfl (by omega) (by first | exact .inr trivial | exact .inl rfl) ?_) | (refine T_lss hN rfl rfl (by first | exact .inr trivial | exact .inl rfl) ?_))) | (refine is_call ?_; (first | (refine is_call ?_; refine T_call (f := 11) hN rfl (by decide) (cL _) ?_; rintro e ww ⟨rfl, hf⟩; replace hT := hT.same hf; clear hf; refine ⟨_, rfl, (by first | exact trivial | ((repeat' (first | exact hT.has 0 rfl | exact hT.has 1 rfl | exact hT.has 2 rfl | exact hT.has 3 rfl | exact hT.has 4 rfl | exact hT.has 5 rfl | exact hT.ord 0 rfl | exact hT.ord 1 rfl | exact hT.ord 2 rfl | exact hT.ord 3 rfl | exact hT.ord 4 rfl | exact hT.ord 5 rfl | exact hT.mrd (by assumption) | refine And.intro ?_ ?_)); done)), ?_⟩) | (refine is_call ?_; refine T_call (f := 6) hN rfl (by decide) (law21_awake _) ?_; rintro e ww ⟨rfl, hf⟩; replace hT := hT.same hf; clear hf; refine ⟨_, rfl, (by first | exact trivial | ((repeat' (first | exact hT.has 0 rfl | exact hT.has 1 rfl | exact hT.has 2 rfl | exact hT.has 3 rfl | exact hT.has 4 rfl | exact hT.has 5 rfl | exact hT.ord 0 rfl | exact hT.ord 1 rfl | exact hT.ord 2 rfl | exact hT.ord 3 rfl | exact hT.ord 4 rfl | exact hT.ord 5 rfl | exact hT.mrd (by assumption) | refine And.intro ?_ ?_)); done)), ?_⟩))) | (refine is_store ?_; (first | (refine T_storen hN hT 0 rfl rfl rfl rfl rfl rfl (by decide) ?_; clear hT; intro ww hT; refine ⟨(by first | exact trivial), ?_⟩))) | (refine is_alloc ?_; (first | (refine T_alloc hN hT (by decide) ?_; clear hT; intro g ww hT; refine ⟨(by first | exact trivial), ?_⟩))) | (refine is_indexAddr ?_; (first | (refine T_indexAddr hN rfl rfl (by omega) (by first | exact .inr trivial | exact .inl rfl) ?_)))))
        | (refine isC ?_; (first | (refine C_seq ?_) | (refine C_rgn ?_) | (refine C_if hN rfl (fun hb => ?_) (fun hb => ?_) <;> ((first | (exfalso; omega) | (exfalso; exact hb rfl) | (exfalso; exact hb (fun h => h rfl)) | ((with_reducible refine absurd ?_ hb); (repeat' (first | exact trivial | refine And.intro rfl ?_)); done) | (replace hb := Classical.not_not.1 hb) | skip))) | (refine C_skip ?_) | (refine C_ret ?_) | (refine C_block ?_)))
        | (refine isE ?_; (first | (refine E_thn ?_) | (refine E_thn_ret ?_) | (refine E_blk ?_) | (refine E_blk_ret ?_) | (refine E_lp_ret ?_) | (refine E_ret hN Try.results4 (.tmp rfl .nil) ?_))))
      all_goals first
        | exact E_mk hN (j + 1) ⟨rfl, rfl, rfl, rfl, rfl, evI rfl (by omega), trivial⟩ ⟨⟨by omega, hnext (by assumption), hT.drop⟩, by omega⟩
        | exact ⟨rfl, hT.fr⟩
        | fail "N"
  · refine enter [(0, _), (1, _), (2, _)] Try.func4 rfl Try.ntmps4 (Nat.le_of_ble_eq_true rfl) rfl ?_; intro a0 hN
    repeat' (first
      | (refine isT ?_; (first | (refine T_assign hN rfl (by first | exact .inr trivial | exact .inl rfl) ?_) | (refine T_move hN rfl (by first | exact .inr trivial | exact .inl rfl) ?_) | (refine T_nil ?_) | (refine is_binOp ?_; (first | (refine T_gtr hN rfl rfl (by first | exact .inr trivial | exact .inl rfl) ?_))) | (refine is_call ?_; (first | (refine is_call ?_; refine T_call (f := 6) hN rfl (by decide) (law21_awake _) ?_; rintro e ww ⟨rfl, hf⟩; replace hT := hT.same hf; clear hf; refine ⟨_, rfl, (by first | exact trivial | ((repeat' (first | exact hT.has 0 rfl | exact hT.has 1 rfl | exact hT.has 2 rfl | exact hT.has 3 rfl | exact hT.has 4 rfl | exact hT.has 5 rfl | exact hT.ord 0 rfl | exact hT.ord 1 rfl | exact hT.ord 2 rfl | exact hT.ord 3 rfl | exact hT.ord 4 rfl | exact hT.ord 5 rfl | exact hT.mrd (by assumption) | refine And.intro ?_ ?_)); done)), ?_⟩) | (refine T_len hN rfl (by first | exact .inr trivial | exact .inl rfl) ?_)))))
      | (refine isC ?_; (first | (refine C_seq ?_) | (refine C_rgnk (id := 0) hN [(0, _), (1, _), (2, _)] ⟨rfl, rfl, rfl, trivial⟩ ?_; clear hN; intro a0 hN) | (refine C_rgnk (id := 1) hN [(0, _), (1, _), (2, _), (6, _)] ⟨rfl, rfl, rfl, rfl, trivial⟩ ?_; clear hN; intro a0 hN) | (refine C_rgnk (id := 2) hN [(0, _), (1, _), (2, _), (6, _), (14, _)] ⟨rfl, rfl, rfl, rfl, rfl, trivial⟩ ?_; clear hN; intro a0 hN) | (refine C_if hN rfl (fun hb => ?_) (fun hb => ?_) <;> ((first | (exfalso; omega) | (exfalso; exact hb rfl) | (exfalso; exact hb (fun h => h rfl)) | ((with_reducible refine absurd ?_ hb); (repeat' (first | exact trivial | refine And.intro rfl ?_)); done) | (replace hb := Classical.not_not.1 hb) | skip))) | (refine C_ret ?_)))
      | (refine isE ?_; (first | (refine E_thn ?_) | (refine E_thn_ret ?_) | (refine E_ret hN Try.results4 (.tmp rfl .nil) ?_))))
    all_goals exact ⟨by first | rfl | (simp only [bdec_eq]; simp; rfl), hT.fr⟩
end Go.Proofs.Yteikjachfafadaa
