/- PIECES: plainly, as objects; the WALKS of Split. -/
import Derived.Test.YteikjachfafadaaFb
import Derived.Test.YteikjachfafadaaFc
namespace Go.Fp
open Go Go.RowKit
theorem flatG_get {α : Type} (k : Nat) : ∀ (ls : List (List α)), (∀ l, l ∈ ls → l.length = k) → ∀ (j : Nat) (a : List α), ls[j]? = some a → ∀ i, i < k → ls.flatten[j * k + i]? = a[i]?
  | [], _, j, a, h, _, _ => by simp at h
  | l :: ls, hls, 0, a, h, i, hi => by
    have hl := hls l (by simp)
    simp only [List.getElem?_cons_zero, Option.some.injEq] at h
    subst h
    rw [List.flatten_cons, Nat.zero_mul, Nat.zero_add, List.getElem?_append_left (by omega)]
  | l :: ls, hls, j + 1, a, h, i, hi => by
    have hl := hls l (by simp)
    rw [List.getElem?_cons_succ] at h
    rw [List.flatten_cons, List.getElem?_append_right (by rw [Nat.add_mul]; omega), show (j + 1) * k + i - l.length = j * k + i by rw [Nat.add_mul]; omega]
    exact flatG_get k ls (fun l h => hls l (List.mem_cons_of_mem _ h)) j a h i hi
/-- A row of a slice of structs. -/
theorem Rdz.row {w : World} {B off n k : Nat} {ls : List (List Value)} (h : Rdz w (some ⟨B, off, none⟩) n k ls.flatten) (hls : ∀ l, l ∈ ls → l.length = k) {j : Nat} {a : List Value} (hj : ls[j]? = some a) (i : Nat) (v : Value) (hv : a[i]? = some v) : w.cell? ⟨B, off + j * k + i, none⟩ = some v := by
  have ha := hls a (List.mem_of_getElem? hj)
  have hi := (List.getElem?_eq_some_iff.1 hv).1
  rw [ha] at hi
  rw [Nat.add_assoc]
  exact h.cell rfl (by rw [flatG_get k ls hls j a hj i hi]; exact hv)
theorem flatG_length {α : Type} (k : Nat) : ∀ (ls : List (List α)), (∀ l, l ∈ ls → l.length = k) → ls.flatten.length = ls.length * k
  | [], _ => by simp
  | l :: ls, h => by rw [List.flatten_cons, List.length_append, flatG_length k ls (fun x hx => h x (List.mem_cons_of_mem _ hx)), h l (by simp), List.length_cons, Nat.add_mul]; omega
end Go.Fp
namespace Go.Proofs.Yteikjachfafadaa
open Go.RowKit Go.Fp
attribute [local irreducible] Go.Calls
set_option maxRecDepth 100000
set_option maxHeartbeats 4000000
/-- A piece, plainly. -/
structure Pc where
  id : Nat
  at_ : Int
  many : Int
  part : List UInt8
/-- A piece as it lies in memory. -/
structure Pr where
  p : Pc
  x : Option Addr
  c : Nat
def Pr.cells (r : Pr) : List Value := [.int .u32 r.p.id, .int .i64 r.p.at_, .int .i64 r.p.many, .slice r.x r.p.part.length r.c]
def Pr.ob (r : Pr) : Ob := Ob.own 5 1 (.slice r.x r.p.part.length r.c) r.p.part.length (u8s r.p.part)
theorem Pr.len (r : Pr) : r.cells.length = 4 := rfl
theorem pr_one (a b c : Int) (x : Option Addr) (n k : Nat) : Value.all1 [.int .u32 a, .int .i64 b, .int .i64 c, .slice x n k] := fun u hu => by
  simp only [List.mem_cons, List.not_mem_nil, or_false] at hu; rcases hu with rfl | rfl | rfl | rfl <;> rfl
theorem prs_len (ps : List Pr) : ∀ l, l ∈ ps.map Pr.cells → l.length = 4 := fun l hl => by obtain ⟨r, _, rfl⟩ := List.mem_map.1 hl; rfl
def cutP (bs : List UInt8) (sz j : Nat) : List UInt8 := (bs.drop (j * sz)).take sz
def manyP (n sz : Nat) : Nat := max 1 ((n + sz - 1) / sz)
/-- A body's pieces. -/
def splitP (id : Nat) (bs : List UInt8) (sz k : Nat) : List Pc := (List.range k).map fun j => ⟨id, (j : Nat), (manyP bs.length sz : Nat), cutP bs sz j⟩
theorem splitP_succ (id : Nat) (bs : List UInt8) (sz k : Nat) : splitP id bs sz (k + 1) = splitP id bs sz k ++ [⟨id, (k : Nat), (manyP bs.length sz : Nat), cutP bs sz k⟩] := by simp [splitP, List.range_succ]
theorem cut_hi (bs : List UInt8) (sz j : Nat) : ((bs.drop (min (j * sz) bs.length)).take (min ((j + 1) * sz) bs.length - min (j * sz) bs.length)) = cutP bs sz j := by
  unfold cutP
  rw [Nat.add_mul, Nat.one_mul]
  rcases Nat.le_total (j * sz) bs.length with h | h
  · rw [Nat.min_eq_left h]
    rcases Nat.le_total (j * sz + sz) bs.length with h2 | h2
    · rw [Nat.min_eq_left h2, Nat.add_sub_cancel_left]
    · rw [Nat.min_eq_right h2, List.take_of_length_le (by simp), List.take_of_length_le (by simp; omega)]
  · rw [Nat.min_eq_right h, Nat.min_eq_right (by omega), Nat.sub_self, List.drop_eq_nil_of_le (Nat.le_refl _), List.drop_eq_nil_of_le h]; simp
theorem manyP_le {n sz : Nat} (hs : 1 ≤ sz) (h : n ≤ sz * 32) : 1 ≤ manyP n sz ∧ manyP n sz ≤ 32 := by
  unfold manyP
  have : (n + sz - 1) / sz ≤ 32 := by
    have h1 : (n + sz - 1) / sz < 33 := by rw [Nat.div_lt_iff_lt_mul hs]; omega
    omega
  omega
theorem pce_Split (id : Nat) (x : Option Addr) (c : Nat) (bs : List UInt8) (hx : x = none → bs.length = 0 ∧ c = 0) (hc : bs.length ≤ c) (sz : Nat) (hs : 1 ≤ sz ∧ sz ≤ 4096) (hb : bs.length ≤ 16384) (hl : bs.length ≤ sz * 32) (w : World) {m : List Ob} (hT : Tk [] w w [] (Ob.rd x bs.length 1 (u8s bs) :: m)) :
    Calls Try.prog 19 #[.int .u32 id, .slice x bs.length c, .int .i64 sz] w fun e w' => ∃ (x' : Option Addr) (c' : Nat) (ps : List Pr), e = .returned (.tuple #[.slice x' (manyP bs.length sz) c', .int .i64 0]) ∧ ps.length = manyP bs.length sz ∧ ps.map Pr.p = splitP id bs sz (manyP bs.length sz) ∧
      Tk [] w w' [Ob.own 70 4 (.slice x' (manyP bs.length sz) c') (manyP bs.length sz) (ps.map Pr.cells).flatten, Ob.all (ps.map Pr.ob)] (Ob.rd x bs.length 1 (u8s bs) :: m) := by
  obtain ⟨hM1, hM2⟩ := manyP_le hs.1 hl
  have hq : (((bs.length : Int) + (sz : Int) - 1).tdiv (sz : Int)) = (((bs.length + sz - 1) / sz : Nat) : Int) := by
    rw [show ((bs.length : Int) + (sz : Int) - 1) = ((bs.length + sz - 1 : Nat) : Int) by omega]; rfl
  have hM : max (1 : Int) (((bs.length + sz - 1) / sz : Nat) : Int) = (manyP bs.length sz : Nat) := by unfold manyP; omega
  generalize hm0 : manyP bs.length sz = M at *
  generalize (bs.length + sz - 1) / sz = D at *
  have hD : IntKind.i64.wrap (D : Int) = D := Go.IntWalk.i64_in _ (by omega)
  refine enter [(0, _), (1, _), (2, _)] Try.func19 rfl Try.ntmps19 (Nat.le_of_ble_eq_true rfl) rfl ?_; intro a0 hN
  repeat' (first
    | (refine isT ?_; (first | (refine isGuard ?_; (first | (refine T_yes hN rfl rfl rfl ?_) | (refine T_guardD hN rfl rfl rfl (fun hb => ?_) (fun hb => ?_) <;> ((first | (exfalso; omega) | (exfalso; exact hb rfl) | (exfalso; exact hb (fun h => h rfl)) | ((with_reducible refine absurd ?_ hb); (repeat' (first | exact trivial | refine And.intro rfl ?_)); done) | (replace hb := Classical.not_not.1 hb) | skip))))) | (refine T_assign hN rfl (by first | exact .inr trivial | exact .inl rfl) ?_) | (refine T_move hN rfl (by first | exact .inr trivial | exact .inl rfl) ?_) | (refine T_nil ?_) | (refine is_binOp ?_; (first | (refine T_quo hN rfl rfl (by omega) ((congrArg _ hq).trans hD) (by first | exact .inr trivial | exact .inl rfl) ?_) | (refine T_addi64 hN rfl rfl (by omega) (by first | exact .inr trivial | exact .inl rfl) ?_) | (refine T_gtr hN rfl rfl (by first | exact .inr trivial | exact .inl rfl) ?_) | (refine T_lss hN rfl rfl (by first | exact .inr trivial | exact .inl rfl) ?_) | (refine T_muli64 hN rfl rfl (by omega) (by first | exact .inr trivial | exact .inl rfl) ?_) | (refine T_subi64 hN rfl rfl (by omega) (by first | exact .inr trivial | exact .inl rfl) ?_))) | (refine is_pick ?_; (first | (refine T_pick0 hN rfl rfl (by first | exact .inr trivial | exact .inl rfl) ?_))) | (refine is_call ?_; (first | (refine T_len hN rfl (by first | exact .inr trivial | exact .inl rfl) ?_) | (refine T_max hN rfl rfl (by first | exact .inr trivial | exact .inl rfl) ?_)))))
    | (refine isC ?_; (first | (refine C_seq ?_) | (refine C_rgnk (id := 0) hN [(0, _), (1, _), (2, _)] ⟨rfl, rfl, rfl, trivial⟩ ?_; clear hN; intro a0 hN) | (refine C_rgnk (id := 1) hN [(0, _), (1, _), (2, _), (6, _), (7, _)] ⟨rfl, rfl, rfl, rfl, rfl, trivial⟩ ?_; clear hN; intro a0 hN) | (refine C_rgnk (id := 3) hN [(0, _), (1, _), (2, _), (6, _), (7, _), (12, _)] ⟨rfl, rfl, rfl, rfl, rfl, rfl, trivial⟩ ?_; clear hN; intro a0 hN) | (refine C_rgnk (id := 5) hN [(0, _), (1, _), (2, _), (6, _), (7, _), (12, _), (24, _)] ⟨rfl, rfl, rfl, rfl, rfl, rfl, rfl, trivial⟩ ?_; clear hN; intro a0 hN) | (refine C_rgnk (id := 6) hN [(0, _), (1, _), (2, _), (6, _), (7, _), (8, _), (12, _), (24, _)] ⟨rfl, rfl, rfl, rfl, rfl, rfl, rfl, rfl, trivial⟩ ?_; clear hN; intro a0 hN) | (refine C_rgnk (id := 7) hN [(0, _), (1, _), (2, _), (6, _), (7, _), (8, _), (9, _), (12, _), (24, _)] ⟨rfl, rfl, rfl, rfl, rfl, rfl, rfl, rfl, rfl, trivial⟩ ?_; clear hN; intro a0 hN) | (refine C_if hN rfl (fun hb => ?_) (fun hb => ?_) <;> ((first | (exfalso; omega) | (exfalso; exact hb rfl) | (exfalso; exact hb (fun h => h rfl)) | ((with_reducible refine absurd ?_ hb); (repeat' (first | exact trivial | refine And.intro rfl ?_)); done) | (replace hb := Classical.not_not.1 hb) | skip))) | (refine C_skip ?_) | (refine C_block ?_)))
    | (refine isE ?_; (first | (refine E_thn ?_) | (refine E_blk ?_))))
  all_goals
    refine C_loop hN (X := Nat × List Pr × Option Addr × Nat) (fun y => [(0, .int .u32 id), (1, .slice x bs.length c), (2, .int .i64 sz), (8, .int .i64 M), (9, .slice y.2.2.1 y.1 y.2.2.2), (38, .int .i64 M), (39, .int .i64 y.1)])
      (fun y w1 => y.1 ≤ M ∧ y.2.1.length = y.1 ∧ y.2.1.map Pr.p = splitP id bs sz y.1 ∧ Tk [] w w1 [Ob.own 70 4 (.slice y.2.2.1 y.1 y.2.2.2) y.1 (y.2.1.map Pr.cells).flatten, Ob.all (y.2.1.map Pr.ob)] (Ob.rd x bs.length 1 (u8s bs) :: m)) (fun y => M - y.1) (0, [], none, 0) ⟨rfl, rfl, rfl, evI rfl hM, rfl, evI rfl hM, rfl, trivial⟩ ⟨Nat.zero_le _, rfl, rfl, (hT.nilAll).addnil 70 4⟩ ?_
    clear hN hT
    rintro ⟨j, ps, x9, c9⟩ a0 ww hN ⟨hj, hpl, hpe, hT⟩
    dsimp only at hj hpl hpe hT ⊢
    by_cases hj0 : j = M
    · subst hj0
      repeat' (first
        | (refine isT ?_; (first | (refine T_assign hN rfl (by first | exact .inr trivial | exact .inl rfl) ?_) | (refine T_move hN rfl (by first | exact .inr trivial | exact .inl rfl) ?_) | (refine T_nil ?_) | (refine is_binOp ?_; (first | (refine T_lss hN rfl rfl (by first | exact .inr trivial | exact .inl rfl) ?_)))))
        | (refine isC ?_; (first | (refine C_seq ?_) | (refine C_rgn ?_) | (refine C_if hN rfl (fun hb => ?_) (fun hb => ?_) <;> ((first | (exfalso; omega) | (exfalso; exact hb rfl) | (exfalso; exact hb (fun h => h rfl)) | ((with_reducible refine absurd ?_ hb); (repeat' (first | exact trivial | refine And.intro rfl ?_)); done) | (replace hb := Classical.not_not.1 hb) | skip))) | (refine C_ret ?_) | (refine C_exit ?_)))
        | (refine isE ?_; (first | (refine E_thn ?_) | (refine E_thn_exit ?_) | (refine E_blk_hit ?_) | (refine E_lp_exit ?_) | (refine E_ret hN Try.results19 (.tmp rfl (.tmp rfl .nil)) ?_))))
      all_goals exact ⟨x9, c9, ps, rfl, hpl, hpe, hT⟩
    · have hA1 : j * sz ≤ 131072 := by have := Nat.mul_le_mul (show j ≤ 32 by omega) hs.2; omega
      have hB1 : (j + 1) * sz ≤ 131072 := by have := Nat.mul_le_mul (show j + 1 ≤ 32 by omega) hs.2; omega
      have hle : j * sz ≤ (j + 1) * sz := Nat.mul_le_mul_right _ (by omega)
      have hA : IntKind.i64.wrap ((j : Int) * (sz : Int)) = ((j * sz : Nat) : Int) := by rw [← Int.natCast_mul]; exact Go.IntWalk.i64_in _ (by omega)
      have hB : IntKind.i64.wrap (((j : Int) + 1) * (sz : Int)) = (((j + 1) * sz : Nat) : Int) := by rw [show ((j : Int) + 1) = ((j + 1 : Nat) : Int) by omega, ← Int.natCast_mul]; exact Go.IntWalk.i64_in _ (by omega)
      have hcut := cut_hi bs sz j
      have hcl : (cutP bs sz j).length = min ((j + 1) * sz) bs.length - min (j * sz) bs.length := by rw [← hcut, List.length_take, List.length_drop]; omega
      have hps : splitP id bs sz (j + 1) = splitP id bs sz j ++ [⟨id, (j : Nat), (M : Nat), cutP bs sz j⟩] := by rw [splitP_succ, hm0]
      generalize (j + 1) * sz = B at *
      generalize j * sz = A at *
      have hcs : (cutP bs sz j).length ≤ 4096 := by unfold cutP; rw [List.length_take]; omega
      generalize cutP bs sz j = cut at *
      have hmin1 : min (A : Int) (bs.length : Int) = ((min A bs.length : Nat) : Int) := by omega
      have hmin2 : min (B : Int) (bs.length : Int) = ((min B bs.length : Nat) : Int) := by omega
      have hpart : ∀ w : World, Rdz w x bs.length 1 (u8s bs) → Rdz w (lo x 1 c (min A bs.length)) cut.length 1 (u8s cut) := fun w h => by
        have := (h.lo (j := min A bs.length) (by omega) hc).hi (j := cut.length) (by omega)
        rw [Nat.mul_one, Nat.mul_one] at this
        unfold u8s at this ⊢
        rw [← List.map_drop, ← List.map_take, hcl, hcut] at this
        rw [hcl]; exact this
      have hln : lo x 1 c (min A bs.length) = none → cut.length = 0 ∧ c - min A bs.length = 0 := fun h => by
        by_cases hx1 : x = none
        · obtain ⟨a1, a2⟩ := hx hx1; omega
        · exact absurd h (lo_none hx1)
      repeat' (first
        | (refine isT ?_; (first | (refine T_assign hN rfl (by first | exact .inr trivial | exact .inl rfl) ?_) | (refine T_move hN rfl (by first | exact .inr trivial | exact .inl rfl) ?_) | (refine T_nil ?_) | (refine is_binOp ?_; (first | (refine T_mul hN rfl rfl hA (by first | exact .inr trivial | exact .inl rfl) ?_) | (refine T_mul hN rfl rfl hB (by first | exact .inr trivial | exact .inl rfl) ?_) | (refine T_addi64 hN rfl rfl (by omega) (by first | exact .inr trivial | exact .inl rfl) ?_) | (refine T_lss hN rfl rfl (by first | exact .inr trivial | exact .inl rfl) ?_))) | (refine is_call ?_; (first | (refine T_append hN hT 0 (by rfl) (by rfl) rfl rfl rfl hln (hpart _ (hT.rrd 0 rfl)) (u8s_all1 cut) (by unfold maxLen; omega) (by omega) (by decide) ?_; clear hT; intro x1 c1 ww hT; refine ⟨trivial, ?_⟩; simp only [Nat.zero_add, List.nil_append] at hT ⊢) | (refine T_append hN hT 2 (by rfl) (by rfl) rfl rfl rfl (fun h => by cases h) (blk_rdz (sz := 4) (hT.has 0 rfl) rfl rfl) (pr_one _ _ _ _ _ _) (by unfold maxLen; omega) (by omega) (by decide) ?_; clear hT; intro x2 c2 ww hT; refine ⟨trivial, ?_⟩) | (refine T_len hN rfl (by first | exact .inr trivial | exact .inl rfl) ?_) | (refine T_min hN rfl rfl (by first | exact .inr trivial | exact .inl rfl) ?_))) | (refine is_slice ?_; (first | (refine T_slcAB hN rfl (evI rfl hmin1) (evI rfl hmin2) (by omega) (by omega) (by first | exact .inr trivial | exact .inl rfl) ?_; rw [← hcl]))) | (refine is_buildSlice ?_; (first | (refine T_slicen (n := 4) hN hT (us := [_, _, _, _]) (by rfl) (by rfl) (by rfl) (by rfl) rfl (by decide) ?_; clear hT; intro g ww hT; refine ⟨trivial, ?_⟩) | (refine T_slice0 hN hT (by decide) ?_; clear hT; intro g ww hT; refine ⟨(by first | exact trivial), ?_⟩))) | (refine is_build ?_; (first | (refine T_build (t := 70) (us := [_, _, _, _]) hN rfl rfl (by first | exact .inr trivial | exact .inl rfl) ?_)))))
        | (refine isC ?_; (first | (refine C_seq ?_) | (refine C_rgn ?_) | (refine C_if hN rfl (fun hb => ?_) (fun hb => ?_) <;> ((first | (exfalso; omega) | (exfalso; exact hb rfl) | (exfalso; exact hb (fun h => h rfl)) | ((with_reducible refine absurd ?_ hb); (repeat' (first | exact trivial | refine And.intro rfl ?_)); done) | (replace hb := Classical.not_not.1 hb) | skip))) | (refine C_skip ?_) | (refine C_block ?_)))
        | (refine isE ?_; (first | (refine E_thn ?_) | (refine E_blk ?_))))
      all_goals
        have hT2 := hT.drop.swap.rot.snocAll.swap
        refine E_mk hN (j + 1, ps ++ [⟨⟨id, (j : Nat), (M : Nat), cut⟩, x1, c1⟩], x2, c2) ⟨rfl, rfl, rfl, rfl, rfl, rfl, evI rfl (by omega), trivial⟩ ⟨⟨by omega, by simp [hpl], ?_, ?_⟩, by omega⟩
        · dsimp only; rw [List.map_append, hpe, hps]; rfl
        · dsimp only; rw [List.map_append, List.map_append, List.flatten_append]; exact hT2
end Go.Proofs.Yteikjachfafadaa
