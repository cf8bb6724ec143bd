/- THE WALKS: short sums as the program's, as the document's. -/
import Derived.Test.YthjdhmnmlblpfaaRRefS03
import Derived.Test.YthjdhmnmlblpfaaROut03c
import Derived.Test.YthjdhmnmlblpfaaRFb
import Derived.Test.YthjdhmnmlblpfaaRPU21
namespace Go.Proofs.YthjdhmnmlblpfaaR
open Go.RowKit Go.Fp
attribute [local irreducible] Go.Calls
set_option maxRecDepth 100000
set_option maxHeartbeats 2000000
theorem law03_To (y : Option Addr) (n d : Nat) (ls : List (List UInt8)) (hls : ∀ l, l ∈ ls → l.length = 16) (hln : ls.length = n) (hn : n ≤ 2000000) (w : World) {m : List Ob} (hT : Tk [] w w [] (Ob.rd y n 16 (u8s ls.flatten) :: m)) :
    Calls Try.prog 87 #[.slice y n d] w fun e w' => ∃ x' c', e = .returned (.slice x' n c') ∧ Tk [] w w' [Ob.own 87 16 (.slice x' n c') n (u8s ls.flatten)] (Ob.rd y n 16 (u8s ls.flatten) :: m) := by
  refine enter [(0, _)] Try.func87 rfl Try.ntmps87 (Nat.le_of_ble_eq_true rfl) rfl ?_; intro a0 hN
  repeat' (first
    | (refine isT ?_; (first | (refine T_assign hN rfl (by first | exact .inr trivial | exact .inl rfl) ?_) | (refine T_move hN rfl (by first | exact .inr trivial | exact .inl rfl) ?_) | (refine T_nil ?_) | (refine is_call ?_; (first | (refine T_len hN rfl (by first | exact .inr trivial | exact .inl rfl) ?_)))))
    | (refine isC ?_; (first | (refine C_seq ?_) | (refine C_rgnk (id := 0) hN [(0, _)] ⟨rfl, trivial⟩ ?_; clear hN; intro a0 hN) | (refine C_rgnk (id := 1) hN [(0, _), (2, _)] ⟨rfl, rfl, trivial⟩ ?_; clear hN; intro a0 hN) | (refine C_rgnk (id := 2) hN [(0, _), (2, _), (3, _)] ⟨rfl, rfl, rfl, trivial⟩ ?_; clear hN; intro a0 hN) | (refine C_block ?_)))
    | (refine isE ?_; (first | (refine E_thn ?_))))
  all_goals
    refine C_loop hN (X := Nat × Option Addr × Nat) (fun z => [(3, .slice z.2.1 z.1 z.2.2), (6, .slice y n d), (7, .int .i64 n), (8, .int .i64 z.1)]) (fun z w1 => z.1 ≤ n ∧ Tk [] w w1 [Ob.own 87 16 (.slice z.2.1 z.1 z.2.2) z.1 (u8s (ls.take z.1).flatten)] (Ob.rd y n 16 (u8s ls.flatten) :: m)) (fun z => n - z.1) (0, none, 0) ⟨rfl, rfl, rfl, rfl, trivial⟩ ⟨Nat.zero_le _, hT.addnil 87 16⟩ ?_
    clear hN hT
    rintro ⟨j, x1, c1⟩ a0 ww hN ⟨hj, hT⟩
    dsimp only at hj hT ⊢
    by_cases hj0 : j = n
    · subst hj0
      repeat' (first
        | (refine isT ?_; (first | (refine T_assign hN rfl (by first | exact .inr trivial | exact .inl rfl) ?_) | (refine T_move hN rfl (by first | exact .inr trivial | exact .inl rfl) ?_) | (refine T_nil ?_) | (refine is_binOp ?_; (first | (refine T_lss hN rfl rfl (by first | exact .inr trivial | exact .inl rfl) ?_)))))
        | (refine isC ?_; (first | (refine C_seq ?_) | (refine C_rgn ?_) | (refine C_if hN rfl (fun hb => ?_) (fun hb => ?_) <;> ((first | (exfalso; omega) | (exfalso; exact hb rfl) | (exfalso; exact hb (fun h => h rfl)) | ((with_reducible refine absurd ?_ hb); (repeat' (first | exact trivial | refine And.intro rfl ?_)); done) | (replace hb := Classical.not_not.1 hb) | skip))) | (refine C_ret ?_) | (refine C_exit ?_)))
        | (refine isE ?_; (first | (refine E_thn ?_) | (refine E_thn_exit ?_) | (refine E_blk_hit ?_) | (refine E_lp_exit ?_) | (refine E_ret hN Try.results87 (.tmp rfl .nil) ?_))))
      all_goals exact ⟨x1, c1, rfl, by rw [← hln, List.take_length] at hT; rw [← hln]; exact hT⟩
    · obtain ⟨B, off, rfl⟩ := (hT.rrd 0 rfl).addr (by omega)
      have hjl : j < ls.length := by omega
      obtain ⟨a, ha⟩ : ∃ a, ls[j]? = some a := ⟨_, List.getElem?_eq_getElem hjl⟩
      have ha16 := hls a (List.mem_of_getElem? ha)
      have htk : (ls.take (j + 1)).flatten = (ls.take j).flatten ++ a := by rw [List.take_add_one, ha, Option.toList_some, List.flatten_append]; simp
      generalize (ls.take j).flatten = bs at *
      repeat' (first
        | (refine isT ?_; (first | (refine T_assign hN rfl (by first | exact .inr trivial | exact .inl rfl) ?_) | (refine T_move hN rfl (by first | exact .inr trivial | exact .inl rfl) ?_) | (refine T_nil ?_) | (refine is_load ?_; (first | (refine T_loadnc hN rfl (us := u8s a) (by rw [u8s_length, ha16]) (row_cell (hT.rrd 0 rfl) hls ha) (by first | exact .inl rfl | exact .inr ⟨by decide, trivial⟩) ?_) | (refine T_loadn hN rfl (hT.has 0 rfl) (us := u8s a) (by rw [List.drop_zero, List.take_of_length_le (by rw [u8s_length, ha16]; exact Nat.le_refl _)]) (by rw [u8s_length, ha16]) (by first | exact .inl rfl | exact .inr ⟨by decide, trivial⟩) ?_))) | (refine is_binOp ?_; (first | (refine T_addi64 hN rfl rfl (by omega) (by first | exact .inr trivial | exact .inl rfl) ?_) | (refine T_lss hN rfl rfl (by first | exact .inr trivial | exact .inl rfl) ?_))) | (refine is_call ?_; (first | (refine T_append hN hT 2 (by rfl) (by rfl) rfl rfl rfl (fun h => by cases h) (blk_rdz (sz := 16) (hT.has 0 rfl) (by rw [u8s_length, ha16]) (by rw [List.drop_zero, List.take_of_length_le (by rw [u8s_length, ha16]; exact Nat.le_refl _)])) (u8s_all1 _) (by unfold maxLen; omega) (by omega) (by decide) ?_; clear hT; intro x2 c2 ww hT; refine ⟨trivial, ?_⟩))) | (refine is_store ?_; (first | (refine T_storeAll hN hT 0 (us := u8s a) rfl rfl rfl (by rw [u8s_length, ha16]; rfl) rfl (List.all_eq_true.2 (u8s_all1 a)) (by decide) ?_; clear hT; intro ww hT; refine ⟨trivial, ?_⟩))) | (refine is_buildSlice ?_; (first | (refine T_slicen (n := 16) hN hT (us := u8s a) (by rw [u8s_length, ha16]) (by rfl) (by rfl) (by rfl) rfl (by decide) ?_; clear hT; intro g ww hT; refine ⟨trivial, ?_⟩))) | (refine is_alloc ?_; (first | (refine T_alloc hN hT (by decide) ?_; clear hT; intro g ww hT; refine ⟨(by first | exact trivial), ?_⟩))) | (refine is_indexAddr ?_; (first | (refine T_indexAddr hN rfl rfl (by omega) (by first | exact .inr trivial | exact .inl rfl) ?_)))))
        | (refine isC ?_; (first | (refine C_seq ?_) | (refine C_rgn ?_) | (refine C_if hN rfl (fun hb => ?_) (fun hb => ?_) <;> ((first | (exfalso; omega) | (exfalso; exact hb rfl) | (exfalso; exact hb (fun h => h rfl)) | ((with_reducible refine absurd ?_ hb); (repeat' (first | exact trivial | refine And.intro rfl ?_)); done) | (replace hb := Classical.not_not.1 hb) | skip))) | (refine C_skip ?_) | (refine C_block ?_)))
        | (refine isE ?_; (first | (refine E_thn ?_) | (refine E_blk ?_))))
      all_goals first
        | exact E_mk hN (j + 1, x2, c2) ⟨rfl, rfl, rfl, evI rfl (by omega), trivial⟩ ⟨⟨by omega, by dsimp only; rw [htk, u8s_append]; exact hT.drop.drop⟩, by omega⟩
        | exact E_mk hN (j + 1, x2, c2) ⟨rfl, rfl, rfl, evI rfl (by omega), trivial⟩ ⟨⟨by omega, by dsimp only; rw [htk, u8s_append]; exact hT.drop⟩, by omega⟩
end Go.Proofs.YthjdhmnmlblpfaaR
/- THE WALKS: entries, as the program's. -/
namespace Go.Proofs.YthjdhmnmlblpfaaR
open Go.RowKit Go.Fp
attribute [local irreducible] Go.Calls
set_option maxRecDepth 100000
set_option maxHeartbeats 8000000
theorem law01_ToK (e s : Nat) (m : Int) (w : World) : Calls Try.prog 62 #[.agg #[.int .u32 e, .int .u32 s, .int .i64 m]] w fun en w' => en = .returned (.agg #[.int .u32 e, .int .u32 s, .int .i64 m]) ∧ Fr [] w w' := by
  have hT := Tk.start0 w
  refine enter [(0, _)] Try.func62 rfl Try.ntmps62 (Nat.le_of_ble_eq_true rfl) rfl ?_; intro a0 hN
  repeat' (first
    | (refine isT ?_; (first | (refine T_fieldAddr hN rfl (by first | exact .inr trivial | exact .inl rfl) ?_) | (refine T_nil ?_) | (refine is_load ?_; (first | (refine T_load hN rfl (hT.has 1 rfl) rfl (by first | exact .inl rfl | exact .inr ⟨by decide, trivial⟩) ?_))) | (refine is_store ?_; (first | (refine T_storen hN hT 0 rfl rfl rfl rfl rfl rfl (by decide) ?_; clear hT; intro ww hT; refine ⟨(by first | exact trivial), ?_⟩))) | (refine is_alloc ?_; (first | (refine T_alloc hN hT (by decide) ?_; clear hT; intro g ww hT; refine ⟨(by first | exact trivial), ?_⟩))) | (refine is_box ?_; (first | (refine T_box hN hT rfl (by decide) ?_; clear hT; intro g ww hT; refine ⟨(by first | exact trivial), ?_⟩))) | (refine is_build ?_; (first | (refine T_build (t := 118) (us := [_, _, _]) hN rfl rfl (by first | exact .inr trivial | exact .inl rfl) ?_)))))
    | (refine isC ?_; (first | (refine C_seq ?_) | (refine C_rgnk (id := 0) hN [(0, _)] ⟨rfl, trivial⟩ ?_; clear hN; intro a0 hN) | (refine C_rgnk (id := 1) hN [(0, _), (1, _), (2, _)] ⟨rfl, rfl, rfl, trivial⟩ ?_; clear hN; intro a0 hN) | (refine C_ret ?_)))
    | (refine isE ?_; (first | (refine E_thn ?_) | (refine E_ret hN Try.results62 (.cell rfl (run_loadAll (hT.has 0 rfl) rfl rfl) .nil) ?_))))
  all_goals exact ⟨rfl, hT.fr⟩
theorem law09_ToC (b0 b1 b2 b3 b4 b5 b6 b7 b8 b9 b10 b11 b12 b13 b14 b15 : UInt8) (wx : Option Addr) (wc : Nat) (way : List (List UInt8)) (px : Option Addr) (pc : Nat) (path : List (List UInt8)) (hw : ∀ l, l ∈ way → l.length = 16) (hp : ∀ l, l ∈ path → l.length = 16) (hwn : way.length ≤ 2000000) (hpn : path.length ≤ 2000000) (w : World) {m : List Ob}
    (hwm : Ob.rd wx way.length 16 (u8s way.flatten) ∈ m) (hpm : Ob.rd px path.length 16 (u8s path.flatten) ∈ m) (hT : Tk [] w w [] m) :
    Calls Try.prog 63 #[.agg #[u8 b0, u8 b1, u8 b2, u8 b3, u8 b4, u8 b5, u8 b6, u8 b7, u8 b8, u8 b9, u8 b10, u8 b11, u8 b12, u8 b13, u8 b14, u8 b15, .slice wx way.length wc, .slice px path.length pc]] w fun en w' => ∃ x1 c1 x2 c2, en = .returned (.agg #[u8 b0, u8 b1, u8 b2, u8 b3, u8 b4, u8 b5, u8 b6, u8 b7, u8 b8, u8 b9, u8 b10, u8 b11, u8 b12, u8 b13, u8 b14, u8 b15, .slice x1 way.length c1, .slice x2 path.length c2]) ∧
      Tk [] w w' [Ob.own 87 16 (.slice x2 path.length c2) path.length (u8s path.flatten), Ob.own 87 16 (.slice x1 way.length c1) way.length (u8s way.flatten)] m := by
  have cW := fun ww h => law03_To wx way.length wc way hw rfl (by omega) ww (m := []) h
  have cP := fun ww h => law03_To px path.length pc path hp rfl (by omega) ww (m := []) h
  refine enter [(0, _)] Try.func63 rfl Try.ntmps63 (Nat.le_of_ble_eq_true rfl) rfl ?_; intro a0 hN
  repeat' (first
    | (refine isT ?_; (first | (refine T_fieldAddr hN rfl (by first | exact .inr trivial | exact .inl rfl | (refine .inr ?_; (repeat' (first | exact hT.has 0 rfl | exact hT.has 1 rfl | exact hT.has 2 rfl | exact hT.has 3 rfl | exact hT.ord 0 rfl | exact hT.ord 1 rfl | exact hT.ord 2 rfl | exact hT.ord 3 rfl | refine And.intro ?_ ?_)); done)) ?_) | (refine T_nil ?_) | (refine T_nild ?_) | (refine is_load ?_; (first | (refine T_loadH hN rfl (fun _ h => h) rfl rfl ?_) | (refine T_loadnH (t := 57) (us := [_, _, _, _, _, _, _, _, _, _, _, _, _, _, _, _]) hN rfl (fun _ h => h) rfl rfl rfl ?_))) | (refine is_call ?_; (first | (refine is_call ?_; obtain ⟨hP, hK⟩ := hT.call0 [Ob.rd wx way.length 16 (u8s way.flatten)] (fun o' ho => by rw [List.mem_singleton] at ho; subst ho; exact ⟨_, List.mem_append_right _ hwm, Ob.Ent.refl _⟩); refine T_call (f := 87) hN rfl (by decide) (cW _ hP) ?_; rintro e ww ⟨x1, c1, rfl, h1⟩; clear hT hP; replace hT := hK _ _ _ h1; clear hK h1; refine ⟨_, rfl, (by first | exact trivial | ((repeat' (first | exact hT.has 0 rfl | exact hT.has 1 rfl | exact hT.has 2 rfl | exact hT.has 3 rfl | exact hT.has 4 rfl | exact hT.has 5 rfl | exact hT.ord 0 rfl | exact hT.ord 1 rfl | exact hT.ord 2 rfl | exact hT.ord 3 rfl | exact hT.ord 4 rfl | exact hT.ord 5 rfl | exact hT.mrd (by assumption) | refine And.intro ?_ ?_)); done)), ?_⟩) | (refine is_call ?_; obtain ⟨hP, hK⟩ := hT.call0 [Ob.rd px path.length 16 (u8s path.flatten)] (fun o' ho => by rw [List.mem_singleton] at ho; subst ho; exact ⟨_, List.mem_append_right _ hpm, Ob.Ent.refl _⟩); refine T_call (f := 87) hN rfl (by decide) (cP _ hP) ?_; rintro e ww ⟨x2, c2, rfl, h1⟩; clear hT hP; replace hT := hK _ _ _ h1; clear hK h1; refine ⟨_, rfl, (by first | exact trivial | ((repeat' (first | exact hT.has 0 rfl | exact hT.has 1 rfl | exact hT.has 2 rfl | exact hT.has 3 rfl | exact hT.has 4 rfl | exact hT.has 5 rfl | exact hT.ord 0 rfl | exact hT.ord 1 rfl | exact hT.ord 2 rfl | exact hT.ord 3 rfl | exact hT.ord 4 rfl | exact hT.ord 5 rfl | exact hT.mrd (by assumption) | refine And.intro ?_ ?_)); done)), ?_⟩))) | (refine is_store ?_; (first | (refine T_storen hN hT 2 rfl rfl rfl rfl rfl rfl (by decide) ?_; clear hT; intro ww hT; refine ⟨(by first | exact trivial | ((repeat' (first | exact hT.has 0 rfl | exact hT.has 1 rfl | exact hT.has 2 rfl | exact hT.has 3 rfl | exact hT.ord 0 rfl | exact hT.ord 1 rfl | exact hT.ord 2 rfl | exact hT.ord 3 rfl | refine And.intro ?_ ?_)); done)), ?_⟩))) | (refine is_alloc ?_; (first | (refine T_alloc hN hT (by decide) ?_; clear hT; intro g ww hT; refine ⟨(by first | exact trivial | ((repeat' (first | exact hT.has 0 rfl | exact hT.has 1 rfl | exact hT.has 2 rfl | exact hT.has 3 rfl | exact hT.ord 0 rfl | exact hT.ord 1 rfl | exact hT.ord 2 rfl | exact hT.ord 3 rfl | refine And.intro ?_ ?_)); done)), ?_⟩))) | (refine is_box ?_; (first | (refine T_box hN hT rfl (by decide) ?_; clear hT; intro g ww hT; refine ⟨(by first | exact trivial | ((repeat' (first | exact hT.has 0 rfl | exact hT.has 1 rfl | exact hT.has 2 rfl | exact hT.has 3 rfl | exact hT.ord 0 rfl | exact hT.ord 1 rfl | exact hT.ord 2 rfl | exact hT.ord 3 rfl | refine And.intro ?_ ?_)); done)), ?_⟩))) | (refine is_build ?_; (first | (refine T_build (t := 121) (us := [_, _, _, _, _, _, _, _, _, _, _, _, _, _, _, _, _, _]) hN rfl rfl (by first | exact .inr trivial | exact .inl rfl | (refine .inr ?_; (repeat' (first | exact hT.has 0 rfl | exact hT.has 1 rfl | exact hT.has 2 rfl | exact hT.has 3 rfl | exact hT.ord 0 rfl | exact hT.ord 1 rfl | exact hT.ord 2 rfl | exact hT.ord 3 rfl | refine And.intro ?_ ?_)); done)) ?_)))))
    | (refine isC ?_; (first | (refine C_seq ?_) | (refine C_rgnk (id := 0) hN [(0, _)] ⟨rfl, trivial⟩ ?_; clear hN; intro a0 hN) | (refine C_ret ?_) | (refine C_drawk (id := 1) hN [(0, _), (1, _), (2, _)] ⟨rfl, rfl, rfl, trivial⟩ [0, 0, 0, 0, 2, 0, 0, 2, 0, 2] (fun w1 => Has w1 _ _ (List.toArray _)) Try.mixed (by kernel_rfl) (hT.drew.has 1 rfl) ?_; replace hT := hT.drew; clear hN; intro a0 hN)))
    | (refine isE ?_; (first | (refine E_thn ?_) | (refine E_ret hN Try.results63 (.cell rfl (run_loadAll (hT.has 2 rfl) rfl rfl) .nil) ?_))))
  all_goals exact ⟨x1, c1, x2, c2, rfl, hT.sel [0, 0] rfl⟩
/-- An entry, but for where its sums lie. -/
def En.nm (e : En) : En := { e with wx := none, wc := 0, px := none, pc := 0 }
def EnsPost (w : World) (m : List Ob) (es : List En) (e : Ending) (w' : World) : Prop :=
  ∃ (x' : Option Addr) (c' : Nat) (fs : List En) (os : List Ob), e = .returned (.slice x' fs.length c') ∧ fs.map En.nm = es.map En.nm ∧ (∀ f, f ∈ fs → f.Ok ∧ (∃ o, o ∈ os ∧ Ob.Ent o f.wob) ∧ (∃ o, o ∈ os ∧ Ob.Ent o f.pob)) ∧ Tk [] w w' [Ob.own 123 22 (.slice x' fs.length c') fs.length (fs.map En.cells).flatten, Ob.all os] m
theorem en_one (dest : Int) (ep sq : Nat) (me : Int) (b0 b1 b2 b3 b4 b5 b6 b7 b8 b9 b10 b11 b12 b13 b14 b15 : UInt8) (wx : Option Addr) (wn wc : Nat) (px : Option Addr) (pn pc : Nat) : Value.all1 [.int .i64 dest, .int .u32 ep, .int .u32 sq, .int .i64 me, u8 b0, u8 b1, u8 b2, u8 b3, u8 b4, u8 b5, u8 b6, u8 b7, u8 b8, u8 b9, u8 b10, u8 b11, u8 b12, u8 b13, u8 b14, u8 b15, .slice wx wn wc, .slice px pn pc] := fun u hu => by
  simp only [List.mem_cons, List.not_mem_nil, or_false] at hu
  rcases hu with rfl | rfl | rfl | rfl | rfl | rfl | rfl | rfl | rfl | rfl | rfl | rfl | rfl | rfl | rfl | rfl | rfl | rfl | rfl | rfl | rfl | rfl <;> rfl
end Go.Proofs.YthjdhmnmlblpfaaR
