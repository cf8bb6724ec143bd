/- THE WALKS: equal updates are the same, full or not; updates that are not too great. -/
import Derived.Test.YthjdhmnmlblpfaaRSm21
import Derived.Test.YthjdhmnmlblpfaaRFUp12
namespace Go.Proofs.YthjdhmnmlblpfaaR
open Go.RowKit Go.Fp
attribute [local irreducible] Go.Calls
set_option maxRecDepth 100000
set_option maxHeartbeats 8000000
theorem ref_SameUpdateT (x y : Option Addr) (c d : Nat) (es fs : List En) (hnm : es.map En.nm = fs.map En.nm) (hn : es.length ≤ 1000) (hlt : ∀ e, e ∈ es → e.way.length ≤ 1000 ∧ e.path.length ≤ 1000) (w : World) {m : List Ob} (hm1 : ∀ e, e ∈ es → e.Ok ∧ e.wob ∈ m ∧ e.pob ∈ m) (hm2 : ∀ e, e ∈ fs → e.Ok ∧ e.wob ∈ m ∧ e.pob ∈ m)
    (hx : Ob.rd x es.length 22 (es.map En.cells).flatten ∈ m) (hy : Ob.rd y fs.length 22 (fs.map En.cells).flatten ∈ m) (hT : Tk [] w w [] m) :
    Calls Try.prog 31 #[.agg #[.bool true, .slice x es.length c], .agg #[.bool true, .slice y fs.length d]] w fun en w' => en = .returned (.bool true) ∧ Tk [] w w' [] m := by
  have hl : es.length = fs.length := by have := congrArg List.length hnm; simpa using this
  rw [← hl] at hy ⊢
  have hxe1 : ∀ e, e ∈ es → e.Ok := fun e he => (hm1 e he).1
  have hxe2 : ∀ e, e ∈ fs → e.Ok := fun e he => (hm2 e he).1
  refine enter [(0, _), (1, _)] Try.func31 rfl Try.ntmps31 (Nat.le_of_ble_eq_true rfl) rfl ?_; intro a0 hN
  repeat' (first
    | (refine isT ?_; (first | (refine isGuard ?_; (first | (refine T_yes hN rfl rfl rfl ?_))) | (refine T_assign hN rfl (by first | exact .inr trivial | exact .inl rfl) ?_) | (refine T_fieldAddr hN rfl (by first | exact .inr trivial | exact .inl rfl) ?_) | (refine T_move hN rfl (by first | exact .inr trivial | exact .inl rfl) ?_) | (refine T_nil ?_) | (refine is_load ?_; (first | (refine T_load hN rfl (hT.has 0 rfl) rfl (by first | exact .inl rfl | exact .inr ⟨by decide, trivial⟩) ?_) | (refine T_load hN rfl (hT.has 1 rfl) rfl (by first | exact .inl rfl | exact .inr ⟨by decide, trivial⟩) ?_))) | (refine is_binOp ?_; (first | (refine T_neqb hN rfl rfl (by first | exact .inr trivial | exact .inl rfl) ?_) | (refine T_neq hN rfl rfl (by first | exact .inr trivial | exact .inl rfl) ?_))) | (refine is_pick ?_; (first | (refine T_pick0 hN rfl rfl (by first | exact .inr trivial | exact .inl rfl) ?_))) | (refine is_call ?_; (first | (refine T_len hN rfl (by first | exact .inr trivial | exact .inl rfl) ?_))) | (refine is_box ?_; (first | (refine T_box (d := 2) hN hT rfl (by decide) ?_; clear hT; intro g2 ww hT; refine ⟨trivial, ?_⟩) | (refine T_box (d := 3) hN hT rfl (by decide) ?_; clear hT; intro g3 ww hT; refine ⟨trivial, ?_⟩)))))
    | (refine isC ?_; (first | (refine C_seq ?_) | (refine C_rgnk (id := 0) hN [(0, _), (1, _)] ⟨rfl, rfl, trivial⟩ ?_; clear hN; intro a0 hN) | (refine C_rgnk (id := 1) hN [(0, _), (1, _), (2, _), (3, _), (4, _)] ⟨rfl, rfl, rfl, rfl, rfl, trivial⟩ ?_; clear hN; intro a0 hN) | (refine C_rgnk (id := 3) hN [(0, _), (1, _), (2, _), (3, _), (4, _), (19, _)] ⟨rfl, rfl, rfl, rfl, rfl, rfl, trivial⟩ ?_; clear hN; intro a0 hN) | (refine C_if hN rfl (fun hb => ?_) (fun hb => ?_) <;> ((first | (exfalso; omega) | (exfalso; exact hb rfl) | (exfalso; exact hb (fun h => h rfl)) | ((with_reducible refine absurd ?_ hb); (repeat' (first | exact trivial | refine And.intro rfl ?_)); done) | (simp only [eqP] at hb <;> first | (exfalso; omega) | skip) | (replace hb := Classical.not_not.1 hb) | skip))) | (refine C_skip ?_) | (refine C_block ?_)))
    | (refine isE ?_; (first | (refine E_thn ?_))))
  all_goals
    refine C_loop hN (X := Nat) (fun j => [(2, .pointer (some ⟨g2, 0, none⟩)), (3, .pointer (some ⟨g3, 0, none⟩)), (5, .int .i64 j)])
      (fun j w1 => j ≤ es.length ∧ Tk [] w w1 [Ob.blk g3 65 [.bool true, .slice y es.length d], Ob.blk g2 65 [.bool true, .slice x es.length c]] m) (fun j => es.length - j) 0 ⟨rfl, rfl, rfl, trivial⟩ ⟨Nat.zero_le _, hT⟩ ?_
    clear hN hT
    rintro j a0 ww hN ⟨hj, hT⟩
    by_cases hj0 : j = es.length
    · subst hj0
      repeat' (first
        | (refine isT ?_; (first | (refine T_assign hN rfl (by first | exact .inr trivial | exact .inl rfl) ?_) | (refine T_fieldAddr hN rfl (by first | exact .inr trivial | exact .inl rfl) ?_) | (refine T_move hN rfl (by first | exact .inr trivial | exact .inl rfl) ?_) | (refine T_nil ?_) | (refine is_load ?_; (first | (refine T_load hN rfl (hT.has 1 rfl) rfl (by first | exact .inl rfl | exact .inr ⟨by decide, trivial⟩) ?_))) | (refine is_binOp ?_; (first | (refine T_lss hN rfl rfl (by first | exact .inr trivial | exact .inl rfl) ?_))) | (refine is_call ?_; (first | (refine T_len hN rfl (by first | exact .inr trivial | exact .inl rfl) ?_)))))
        | (refine isC ?_; (first | (refine C_seq ?_) | (refine C_rgn ?_) | (refine C_if hN rfl (fun hb => ?_) (fun hb => ?_) <;> ((first | (exfalso; omega) | (exfalso; exact hb rfl) | (exfalso; exact hb (fun h => h rfl)) | ((with_reducible refine absurd ?_ hb); (repeat' (first | exact trivial | refine And.intro rfl ?_)); done) | (simp only [eqP] at hb <;> first | (exfalso; omega) | skip) | (replace hb := Classical.not_not.1 hb) | skip))) | (refine C_ret ?_) | (refine C_exit ?_)))
        | (refine isE ?_; (first | (refine E_thn ?_) | (refine E_thn_exit ?_) | (refine E_blk_hit ?_) | (refine E_lp_exit ?_) | (refine E_ret hN Try.results31 (.tmp rfl .nil) ?_))))
      all_goals exact ⟨rfl, hT.nil⟩
    · obtain ⟨e, he⟩ : ∃ e, es[j]? = some e := ⟨_, List.getElem?_eq_getElem (by omega)⟩
      obtain ⟨f, hf⟩ : ∃ f, fs[j]? = some f := ⟨_, List.getElem?_eq_getElem (by omega)⟩
      have hef : e.nm = f.nm := by
        have e1 : (es.map En.nm)[j]? = some e.nm := by rw [List.getElem?_map, he]; rfl
        have e2 : (fs.map En.nm)[j]? = some f.nm := by rw [List.getElem?_map, hf]; rfl
        rw [hnm, e2] at e1
        exact (Option.some.inj e1).symm
      obtain ⟨hOk, hwm, hpm⟩ := hm1 e (List.mem_of_getElem? he)
      obtain ⟨hOk2, hwm2, hpm2⟩ := hm2 f (List.mem_of_getElem? hf)
      obtain ⟨hl1, hl2⟩ := hlt e (List.mem_of_getElem? he)
      obtain ⟨Bk, off, rfl⟩ := (hT.mrd hx).addr (by omega)
      obtain ⟨Bl, off2, rfl⟩ := (hT.mrd hy).addr (by omega)
      have hc : ∀ {w : World}, Rdz w (some ⟨Bk, off, none⟩) es.length 22 (es.map En.cells).flatten → ∀ (i : Nat) (v : Value), e.cells[i]? = some v → w.cell? ⟨Bk, off + j * 22 + i, none⟩ = some v := fun h => h.row (ens_len hxe1) (by rw [List.getElem?_map, he]; rfl)
      have hd : ∀ {w : World}, Rdz w (some ⟨Bl, off2, none⟩) es.length 22 (fs.map En.cells).flatten → ∀ (i : Nat) (v : Value), f.cells[i]? = some v → w.cell? ⟨Bl, off2 + j * 22 + i, none⟩ = some v := fun h => h.row (ens_len hxe2) (by rw [List.getElem?_map, hf]; rfl)
      obtain ⟨dest, ep, sq, me, leaf, wx, wc, way, px, pc, path⟩ := e
      obtain ⟨dest2, ep2, sq2, me2, leaf2, vx, vc, way2, ox, oc, path2⟩ := f
      unfold En.nm at hef
      simp only [En.mk.injEq] at hef
      obtain ⟨rfl, rfl, rfl, rfl, rfl, _, _, rfl, _, _, rfl⟩ := hef
      obtain ⟨o1, o2, o3, o4, o5⟩ := hOk
      dsimp only at o1 o2 o3 o4 o5 hl1 hl2
      obtain ⟨b0, b1, b2, b3, b4, b5, b6, b7, b8, b9, b10, b11, b12, b13, b14, b15, rfl⟩ := sixteen o3
      have cC := fun ww h => ref_SameCred b0 b1 b2 b3 b4 b5 b6 b7 b8 b9 b10 b11 b12 b13 b14 b15 wx vx wc vc way px ox pc oc path o4 o5 hl1 hl2 ww (m := m) hwm hwm2 hpm hpm2 h
      have hrow : ∀ {w : World} {B o : Nat} {cs : List Value}, (∀ (i : Nat) (v : Value), cs[i]? = some v → w.cell? ⟨B, o + i, none⟩ = some v) → ∀ (k n : Nat) (us : List Value), (cs.drop k).take n = us → ∀ (i : Nat) (v : Value), us[i]? = some v → w.cell? ⟨B, o + k + i, none⟩ = some v := fun h k n us hu i v hv => by
        subst hu
        rw [List.getElem?_take] at hv
        split at hv
        · rw [List.getElem?_drop] at hv
          rw [Nat.add_assoc]
          exact h _ _ hv
        · cases hv
      repeat' (first
        | (refine isT ?_; (first | (refine isGuard ?_; (first | (refine T_yes hN rfl rfl rfl ?_) | (refine T_guardD hN rfl rfl rfl (fun hb => ?_) (fun hb => ?_) <;> ((first | (exfalso; omega) | (exfalso; exact hb rfl) | (exfalso; exact hb (fun h => h rfl)) | ((with_reducible refine absurd ?_ hb); (repeat' (first | exact trivial | refine And.intro rfl ?_)); done) | (simp only [eqP] at hb <;> first | (exfalso; omega) | skip) | (replace hb := Classical.not_not.1 hb) | skip))))) | (refine T_assign hN rfl (by first | exact .inr trivial | exact .inl rfl) ?_) | (refine T_fieldAddr hN rfl (by first | exact .inr trivial | exact .inl rfl) ?_) | (refine T_move hN rfl (by first | exact .inr trivial | exact .inl rfl) ?_) | (refine T_not hN rfl (by first | exact .inr trivial | exact .inl rfl) ?_) | (refine T_nil ?_) | (refine T_nild ?_) | (refine is_load ?_; (first | (refine T_loadc (d := 32) hN rfl (hc (hT.mrd hx) 0 (.int .i64 dest) rfl) (by first | exact .inl rfl | exact .inr ⟨by decide, trivial⟩) ?_) | (refine T_loadc (d := 38) hN rfl (hd (hT.mrd hy) 0 (.int .i64 dest) rfl) (by first | exact .inl rfl | exact .inr ⟨by decide, trivial⟩) ?_) | (refine T_loadnc (d := 46) hN rfl (us := [.int .u32 ep, .int .u32 sq, .int .i64 me]) rfl (hrow (hc (hT.mrd hx)) 1 3 _ rfl) (by first | exact .inl rfl | exact .inr ⟨by decide, trivial⟩) ?_) | (refine T_loadnc (d := 52) hN rfl (us := [.int .u32 ep, .int .u32 sq, .int .i64 me]) rfl (hrow (hd (hT.mrd hy)) 1 3 _ rfl) (by first | exact .inl rfl | exact .inr ⟨by decide, trivial⟩) ?_) | (refine T_loadnc (d := 61) hN rfl (us := [u8 b0, u8 b1, u8 b2, u8 b3, u8 b4, u8 b5, u8 b6, u8 b7, u8 b8, u8 b9, u8 b10, u8 b11, u8 b12, u8 b13, u8 b14, u8 b15, .slice wx way.length wc, .slice px path.length pc]) rfl (hrow (hc (hT.mrd hx)) 4 18 _ rfl) (by first | exact .inl rfl | exact .inr ⟨by decide, trivial⟩) ?_) | (refine T_loadnc (d := 67) hN rfl (us := [u8 b0, u8 b1, u8 b2, u8 b3, u8 b4, u8 b5, u8 b6, u8 b7, u8 b8, u8 b9, u8 b10, u8 b11, u8 b12, u8 b13, u8 b14, u8 b15, .slice vx way.length vc, .slice ox path.length oc]) rfl (hrow (hd (hT.mrd hy)) 4 18 _ rfl) (by first | exact .inl rfl | exact .inr ⟨by decide, trivial⟩) ?_) | (refine T_load hN rfl (hT.has 0 rfl) rfl (by first | exact .inl rfl | exact .inr ⟨by decide, trivial⟩) ?_) | (refine T_load hN rfl (hT.has 1 rfl) rfl (by first | exact .inl rfl | exact .inr ⟨by decide, trivial⟩) ?_))) | (refine is_binOp ?_; (first | (refine T_addi64 hN rfl rfl (by omega) (by first | exact .inr trivial | exact .inl rfl) ?_) | (refine T_lss hN rfl rfl (by first | exact .inr trivial | exact .inl rfl) ?_) | (refine T_neq hN rfl rfl (by first | exact .inr trivial | exact .inl rfl) ?_) | (refine T_neqS hN rfl rfl rfl rfl (by first | exact .inr trivial | exact .inl rfl) ?_))) | (refine is_pick ?_; (first | (refine T_pick0 hN rfl rfl (by first | exact .inr trivial | exact .inl rfl) ?_))) | (refine is_call ?_; (first | (refine is_call ?_; obtain ⟨hP, hK⟩ := hT.call0m; refine T_call (f := 70) hN rfl (by decide) (cC _ hP) ?_; rintro e ww ⟨rfl, h1⟩; clear hT hP; replace hT := hK _ _ _ h1; clear hK h1; refine ⟨_, rfl, (by first | exact trivial | ((repeat' (first | exact hT.has 0 rfl | exact hT.has 1 rfl | exact hT.has 2 rfl | exact hT.has 3 rfl | exact hT.has 4 rfl | exact hT.has 5 rfl | exact hT.ord 0 rfl | exact hT.ord 1 rfl | exact hT.ord 2 rfl | exact hT.ord 3 rfl | exact hT.ord 4 rfl | exact hT.ord 5 rfl | exact hT.mrd (by assumption) | refine And.intro ?_ ?_)); done)), ?_⟩) | (refine T_len hN rfl (by first | exact .inr trivial | exact .inl rfl) ?_))) | (refine is_indexAddr ?_; (first | (refine T_indexAddr hN rfl rfl (by omega) (by first | exact .inr trivial | exact .inl rfl) ?_)))))
        | (refine isC ?_; (first | (refine C_seq ?_) | (refine C_rgn ?_) | (refine C_false hN rfl ?_) | (refine C_if hN rfl (fun hb => ?_) (fun hb => ?_) <;> ((first | (exfalso; omega) | (exfalso; exact hb rfl) | (exfalso; exact hb (fun h => h rfl)) | ((with_reducible refine absurd ?_ hb); (repeat' (first | exact trivial | refine And.intro rfl ?_)); done) | (simp only [eqP] at hb <;> first | (exfalso; omega) | skip) | (replace hb := Classical.not_not.1 hb) | skip))) | (refine C_skip ?_) | (refine C_block ?_) | (refine C_draw (id := 6) [0, 1, 0, 0, 0, 1, 0, 1, 0, 0, 0, 1, 0, 0, 0, 1, 0, 0, 0, 1, 0, 1, 0, 0, 0, 1, 0, 0, 0, 0, 1, 0, 0, 0, 1, 0, 1, 0, 0, 0, 1] Any Try.mixed (by kernel_rfl) trivial ?_; replace hT := hT.drew)))
        | (refine isE ?_; (first | (refine E_thn ?_) | (refine E_blk ?_))))
      all_goals first
        | exact E_mk hN (j + 1) ⟨rfl, rfl, evI rfl (by omega), trivial⟩ ⟨⟨by omega, hT⟩, by omega⟩
        | fail "Z"
theorem ref_SameUpdateF (full : Bool) (x y : Option Addr) (c d : Nat) (es fs : List En) (hnm : es.map En.nm = fs.map En.nm) (hn : es.length ≤ 1000) (hlt : ∀ e, e ∈ es → e.way.length ≤ 1000 ∧ e.path.length ≤ 1000) (w : World) {m : List Ob} (hm1 : ∀ e, e ∈ es → e.Ok ∧ e.wob ∈ m ∧ e.pob ∈ m) (hm2 : ∀ e, e ∈ fs → e.Ok ∧ e.wob ∈ m ∧ e.pob ∈ m)
    (hx : Ob.rd x es.length 22 (es.map En.cells).flatten ∈ m) (hy : Ob.rd y fs.length 22 (fs.map En.cells).flatten ∈ m) (hT : Tk [] w w [] m) :
    Calls Try.prog 31 #[.agg #[.bool full, .slice x es.length c], .agg #[.bool full, .slice y fs.length d]] w fun en w' => en = .returned (.bool true) ∧ Tk [] w w' [] m := by
  cases full
  · exact ref_SameUpdate x y c d es fs hnm hn hlt w hm1 hm2 hx hy hT
  · exact ref_SameUpdateT x y c d es fs hnm hn hlt w hm1 hm2 hx hy hT
def LightPost (w : World) (es : List En) (e : Ending) (w' : World) : Prop :=
  ∃ v : Bool, e = .returned (.bool v) ∧ (v = true → es.length ≤ 30 ∧ ∀ e, e ∈ es → e.way.length ≤ 20 ∧ e.path.length ≤ 20) ∧ Fr [] w w'
theorem law12_light (full : Bool) (x : Option Addr) (c : Nat) (es : List En) (hn : es.length ≤ 1048576) (w : World) {m : List Ob} (hm : ∀ e, e ∈ es → e.Ok) (hxm : Ob.rd x es.length 22 (es.map En.cells).flatten ∈ m) (hT : Tk [] w w [] m) :
    Calls Try.prog 25 #[.agg #[.bool full, .slice x es.length c]] w (LightPost w es) := by
  unfold LightPost
  refine enter [(0, _)] Try.func25 rfl Try.ntmps25 (Nat.le_of_ble_eq_true rfl) rfl ?_; intro a0 hN
  repeat' (first
    | (refine isT ?_; (first | (refine T_assign hN rfl (by first | exact .inr trivial | exact .inl rfl) ?_) | (refine T_fieldAddr hN rfl (by first | exact .inr trivial | exact .inl rfl) ?_) | (refine T_move hN rfl (by first | exact .inr trivial | exact .inl rfl) ?_) | (refine T_nil ?_) | (refine is_load ?_; (first | (refine T_load hN rfl (hT.has 0 rfl) rfl (by first | exact .inl rfl | exact .inr ⟨by decide, trivial⟩) ?_))) | (refine is_call ?_; (first | (refine T_len hN rfl (by first | exact .inr trivial | exact .inl rfl) ?_))) | (refine is_box ?_; (first | (refine T_box (d := 1) hN hT (vs := [.bool full, .slice x es.length c]) rfl (by decide) ?_; clear hT; intro g1 ww hT; refine ⟨trivial, ?_⟩)))))
    | (refine isC ?_; (first | (refine C_seq ?_) | (refine C_rgnk (id := 0) hN [(0, _)] ⟨rfl, trivial⟩ ?_; clear hN; intro a0 hN) | (refine C_rgnk (id := 1) hN [(0, _), (1, _), (2, _)] ⟨rfl, rfl, rfl, trivial⟩ ?_; clear hN; intro a0 hN) | (refine C_block ?_)))
    | (refine isE ?_; (first | (refine E_thn ?_))))
  all_goals
    refine C_loop hN (X := Nat) (fun j => [(1, .pointer (some ⟨g1, 0, none⟩)), (6, .slice x es.length c), (7, .int .i64 es.length), (8, .int .i64 j)])
      (fun j w1 => j ≤ es.length ∧ (∀ e, e ∈ es.take j → e.way.length ≤ 20 ∧ e.path.length ≤ 20) ∧ Tk [] w w1 [Ob.blk g1 65 [.bool full, .slice x es.length c]] m) (fun j => es.length - j) 0 ⟨rfl, rfl, rfl, rfl, trivial⟩ ⟨Nat.zero_le _, (fun e he => by simp at he), hT⟩ ?_
    clear hN hT
    rintro j a0 ww hN ⟨hj, hg, hT⟩
    by_cases hj0 : j = es.length
    · rw [hj0, List.take_length] at hg
      repeat' (first
        | (refine isT ?_; (first | (refine T_assign hN rfl (by first | exact .inr trivial | exact .inl rfl) ?_) | (refine T_fieldAddr hN rfl (by first | exact .inr trivial | exact .inl rfl) ?_) | (refine T_nil ?_) | (refine is_load ?_; (first | (refine T_load hN rfl (hT.has 0 rfl) rfl (by first | exact .inl rfl | exact .inr ⟨by decide, trivial⟩) ?_))) | (refine is_binOp ?_; (first | (refine T_leq hN rfl rfl (by first | exact .inr trivial | exact .inl rfl) ?_) | (refine T_lss hN rfl rfl (by first | exact .inr trivial | exact .inl rfl) ?_))) | (refine is_call ?_; (first | (refine T_len hN rfl (by first | exact .inr trivial | exact .inl rfl) ?_)))))
        | (refine isC ?_; (first | (refine C_seq ?_) | (refine C_rgn ?_) | (refine C_if hN rfl (fun hb => ?_) (fun hb => ?_) <;> ((first | (exfalso; omega) | (exfalso; exact hb rfl) | (exfalso; exact hb (fun h => h rfl)) | ((with_reducible refine absurd ?_ hb); (repeat' (first | exact trivial | refine And.intro rfl ?_)); done) | (replace hb := Classical.not_not.1 hb) | skip))) | (refine C_ret ?_) | (refine C_exit ?_)))
        | (refine isE ?_; (first | (refine E_thn ?_) | (refine E_thn_exit ?_) | (refine E_blk_hit ?_) | (refine E_lp_exit ?_) | (refine E_ret hN Try.results25 (.tmp rfl .nil) ?_))))
      all_goals exact ⟨_, rfl, fun hv => ⟨by simp only [bdec_eq] at hv; simp at hv; omega, hg⟩, hT.fr⟩
    · obtain ⟨e, he⟩ : ∃ e, es[j]? = some e := ⟨_, List.getElem?_eq_getElem (by omega)⟩
      have hOk := hm e (List.mem_of_getElem? he)
      have htk : es.take (j + 1) = es.take j ++ [e] := by rw [List.take_add_one, he]; rfl
      obtain ⟨Bk, off, rfl⟩ := (hT.mrd hxm).addr (by omega)
      have hc : ∀ {w : World}, Rdz w (some ⟨Bk, off, none⟩) es.length 22 (es.map En.cells).flatten → ∀ (i : Nat) (v : Value), e.cells[i]? = some v → w.cell? ⟨Bk, off + j * 22 + i, none⟩ = some v := fun h => h.row (ens_len hm) (by rw [List.getElem?_map, he]; rfl)
      obtain ⟨dest, ep, sq, me, leaf, wx, wc, way, px, pc, path⟩ := e
      obtain ⟨o1, o2, o3, o4, o5⟩ := hOk
      dsimp only at o1 o2 o3 o4 o5
      obtain ⟨b0, b1, b2, b3, b4, b5, b6, b7, b8, b9, b10, b11, b12, b13, b14, b15, rfl⟩ := sixteen o3
      repeat' (first
        | (refine isT ?_; (first | (refine isGuard ?_; (first | (refine T_yes hN rfl rfl rfl ?_) | (refine T_no hN rfl rfl rfl rfl ?_) | (refine T_guardD hN rfl rfl rfl (fun hb => ?_) (fun hb => ?_) <;> ((first | (exfalso; omega) | (exfalso; exact hb rfl) | (exfalso; exact hb (fun h => h rfl)) | ((with_reducible refine absurd ?_ hb); (repeat' (first | exact trivial | refine And.intro rfl ?_)); done) | (replace hb := Classical.not_not.1 hb) | skip))))) | (refine T_assign hN rfl (by first | exact .inr trivial | exact .inl rfl) ?_) | (refine T_fieldAddr hN rfl (by first | exact .inr trivial | exact .inl rfl) ?_) | (refine T_move hN rfl (by first | exact .inr trivial | exact .inl rfl) ?_) | (refine T_nil ?_) | (refine is_load ?_; (first | (refine T_loadnc (d := 11) hN rfl (us := [.int .i64 dest, .int .u32 ep, .int .u32 sq, .int .i64 me, u8 b0, u8 b1, u8 b2, u8 b3, u8 b4, u8 b5, u8 b6, u8 b7, u8 b8, u8 b9, u8 b10, u8 b11, u8 b12, u8 b13, u8 b14, u8 b15, .slice wx way.length wc, .slice px path.length pc]) rfl (hc (hT.mrd hxm)) (by first | exact .inl rfl | exact .inr ⟨by decide, trivial⟩) ?_) | (refine T_load hN rfl (hT.has 0 rfl) rfl (by first | exact .inl rfl | exact .inr ⟨by decide, trivial⟩) ?_))) | (refine is_binOp ?_; (first | (refine T_addi64 hN rfl rfl (by omega) (by first | exact .inr trivial | exact .inl rfl) ?_) | (refine T_gtr hN rfl rfl (by first | exact .inr trivial | exact .inl rfl) ?_) | (refine T_lss hN rfl rfl (by first | exact .inr trivial | exact .inl rfl) ?_))) | (refine is_pick ?_; (first | (refine T_pick1 hN rfl rfl (by first | exact .inr trivial | exact .inl rfl) ?_) | (refine T_pick0 hN rfl rfl (by first | exact .inr trivial | exact .inl rfl) ?_))) | (refine is_call ?_; (first | (refine T_len hN rfl (by first | exact .inr trivial | exact .inl rfl) ?_))) | (refine is_store ?_; (first | (refine T_storen hN hT 0 rfl rfl rfl rfl rfl rfl (by decide) ?_; clear hT; intro ww hT; refine ⟨(by first | exact trivial), ?_⟩))) | (refine is_alloc ?_; (first | (refine T_alloc hN hT (by decide) ?_; clear hT; intro g ww hT; refine ⟨(by first | exact trivial), ?_⟩))) | (refine is_indexAddr ?_; (first | (refine T_indexAddr hN rfl rfl (by omega) (by first | exact .inr trivial | exact .inl rfl) ?_)))))
        | (refine isC ?_; (first | (refine C_seq ?_) | (refine C_rgn ?_) | (refine C_true hN rfl ?_) | (refine C_if hN rfl (fun hb => ?_) (fun hb => ?_) <;> ((first | (exfalso; omega) | (exfalso; exact hb rfl) | (exfalso; exact hb (fun h => h rfl)) | ((with_reducible refine absurd ?_ hb); (repeat' (first | exact trivial | refine And.intro rfl ?_)); done) | (replace hb := Classical.not_not.1 hb) | skip))) | (refine C_skip ?_) | (refine C_ret ?_) | (refine C_block ?_)))
        | (refine isE ?_; (first | (refine E_thn ?_) | (refine E_thn_ret ?_) | (refine E_blk ?_) | (refine E_blk_ret ?_) | (refine E_lp_ret ?_) | (refine E_ret hN Try.results25 (.tmp rfl .nil) ?_))))
      all_goals first
        | exact ⟨false, rfl, (fun hv => by cases hv), hT.fr⟩
        | (refine E_mk hN (j + 1) ⟨rfl, rfl, rfl, evI rfl (by omega), trivial⟩ ⟨⟨by omega, ?_, hT.sel [1] rfl⟩, by omega⟩
           intro f hf
           rw [htk] at hf
           rcases List.mem_append.1 hf with hf | hf
           · exact hg f hf
           · rw [List.mem_singleton] at hf; subst hf; dsimp only; omega)
        | fail "L"
end Go.Proofs.YthjdhmnmlblpfaaR
