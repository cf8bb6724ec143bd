/- THE WALK of the document's answer: short sums. -/
import Derived.Test.YthjdhmnmlblpfaaRRefP03
import Derived.Test.YthjdhmnmlblpfaaRPU21
namespace Go.Proofs.YthjdhmnmlblpfaaR
open Go.RowKit Go.Fp
attribute [local irreducible] Go.Calls
set_option maxRecDepth 100000
set_option maxHeartbeats 2000000
theorem Ent.blk_rd (g T n sz : Nat) (vs : List Value) (hn : vs.length = n * sz) : Ob.Ent (Ob.blk g T vs) (Ob.rd (some ⟨g, 0, none⟩) n sz vs) := by
  rintro f w ⟨rfl, h⟩
  obtain ⟨f', h3, h4⟩ := of_rd (blk_rdz (o := 0) h hn (by rw [List.drop_zero, List.take_of_length_le (by omega)]))
  refine ⟨f', h3, fun k hk => ?_⟩
  obtain ⟨off, h5, _⟩ := h4 k hk
  simp only [Option.some.injEq, Addr.mk.injEq] at h5
  simp [h5.1]
theorem ref_OSums (x : Option Addr) (c : Nat) (o : List UInt8 × Bool) (hlen : o.1.length ≤ 800000000) (y : Option Addr) (n d : Nat) (ls : List (List UInt8)) (hls : ∀ l, l ∈ ls → l.length = 16) (hln : ls.length = n) (hn : n ≤ 1000) (f : List Nat) (w : World) {m : List Ob} (hT : Tk f w w [Ob.own 5 1 (.slice x o.1.length c) o.1.length (u8s o.1)] (Ob.rd y n 16 (u8s ls.flatten) :: m)) :
    Calls Try.prog 66 #[.agg #[.slice x o.1.length c, .bool o.2], .slice y n d] w fun e w' => ∃ x' c', e = .returned (.agg #[.slice x' (sumsO ls o).1.length c', .bool (sumsO ls o).2]) ∧ Tk f w w' [Ob.own 5 1 (.slice x' (sumsO ls o).1.length c') (sumsO ls o).1.length (u8s (sumsO ls o).1)] (Ob.rd y n 16 (u8s ls.flatten) :: m) := by
  have hl := numO_len 1 n o
  unfold sumsO
  rw [hln]
  have hNum := fun f1 ww (h) => ref_Num x c o n 1 (by omega) (by omega) (by omega) f1 ww (m := Ob.rd y n 16 (u8s ls.flatten) :: m) h
  generalize numO 1 n o = o1 at *
  refine enter [(0, _), (1, _)] Try.func66 rfl Try.ntmps66 (Nat.le_of_ble_eq_true rfl) rfl ?_; intro a0 hN
  repeat' (first
    | (refine isT ?_; (first | (refine T_assign hN rfl (by first | exact .inr trivial | exact .inl rfl) ?_) | (refine T_move hN rfl (by first | exact .inr trivial | exact .inl rfl) ?_) | (refine T_nil ?_) | (refine is_load ?_; (first | (refine T_loadn (t := 94) (us := [_, _]) hN rfl (hT.has 1 rfl) rfl rfl (by first | exact .inl rfl | exact .inr ⟨by decide, trivial⟩) ?_))) | (refine is_call ?_; (first | (refine is_call ?_; obtain ⟨f1, hP, hK⟩ := hT.call1m 2 rfl; refine T_call (f := 46) hN rfl (by decide) (hNum f1 _ hP) ?_; rintro e ww ⟨x1, c1, rfl, h1⟩; clear hT hP; replace hT := hK _ _ _ _ h1; clear hK h1; refine ⟨_, rfl, (by first | exact trivial | ((repeat' (first | exact hT.has 0 rfl | exact hT.has 1 rfl | exact hT.has 2 rfl | exact hT.has 3 rfl | exact hT.has 4 rfl | exact hT.has 5 rfl | exact hT.ord 0 rfl | exact hT.ord 1 rfl | exact hT.ord 2 rfl | exact hT.ord 3 rfl | exact hT.ord 4 rfl | exact hT.ord 5 rfl | exact hT.mrd (by assumption) | refine And.intro ?_ ?_)); done)), ?_⟩) | (refine T_len hN rfl (by first | exact .inr trivial | exact .inl rfl) ?_))) | (refine is_store ?_; (first | (refine T_storen hN hT 1 rfl rfl rfl rfl rfl rfl (by decide) ?_; clear hT; intro ww hT; refine ⟨(by first | exact trivial), ?_⟩))) | (refine is_alloc ?_; (first | (refine T_alloc hN hT (by decide) ?_; clear hT; intro g ww hT; refine ⟨(by first | exact trivial), ?_⟩))) | (refine is_box ?_; (first | (refine T_box hN hT rfl (by decide) ?_; clear hT; intro g ww hT; refine ⟨(by first | exact trivial), ?_⟩))) | (refine is_convert ?_; (first | (refine T_conv (r := ?_) hN rfl ?_ (by first | exact .inr trivial | exact .inl rfl) ?_; rotate_left; (focus (first | (refine Eq.trans (Go.IntWalk.i64_in _ (by omega)) ?_; (first | (simp only [Int.reduceAdd, Int.reduceSub, Int.reduceMul, Int.reduceNeg, Int.reduceDiv, Int.reduceMod]; rfl) | rfl)) | (refine Eq.trans (Go.IntWalk.u64_in _ (by omega)) ?_; (first | (simp only [Int.reduceAdd, Int.reduceSub, Int.reduceMul, Int.reduceNeg, Int.reduceDiv, Int.reduceMod]; rfl) | rfl)) | (refine Go.IntWalk.u32_in _ ?_; omega) | (refine Go.IntWalk.u8_in _ ?_; omega) | exact rfl)))))))
    | (refine isC ?_; (first | (refine C_seq ?_) | (refine C_rgnk (id := 0) hN [(0, _), (1, _)] ⟨rfl, rfl, trivial⟩ ?_; clear hN; intro a0 hN) | (refine C_rgnk (id := 1) hN [(0, _), (1, _), (2, _), (4, _)] ⟨rfl, rfl, rfl, rfl, trivial⟩ ?_; clear hN; intro a0 hN) | (refine C_rgnk (id := 2) hN [(0, _), (1, _), (2, _), (4, _)] ⟨rfl, rfl, rfl, rfl, trivial⟩ ?_; clear hN; intro a0 hN) | (refine C_block ?_)))
    | (refine isE ?_; (first | (refine E_thn ?_))))
  all_goals
    rename_i g1 _ _ _ _
    refine C_loop hN (X := Nat × Option Addr × Nat) (fun z => [(1, .slice y n d), (2, .pointer (some ⟨g1, 0, none⟩)), (4, .pointer (some ⟨g, 0, none⟩)), (5, .int .i64 z.1)]) (fun z w1 => z.1 ≤ n ∧ Tk f w w1 [Ob.blk g 94 [.slice none 0 0, .bool false], Ob.blk g1 94 [.slice z.2.1 (o1.1 ++ (ls.take z.1).flatten).length z.2.2, .bool o1.2], Ob.own 5 1 (.slice z.2.1 (o1.1 ++ (ls.take z.1).flatten).length z.2.2) (o1.1 ++ (ls.take z.1).flatten).length (u8s (o1.1 ++ (ls.take z.1).flatten))] (Ob.rd y n 16 (u8s ls.flatten) :: m)) (fun z => n - z.1) (0, x1, c1) ⟨rfl, rfl, rfl, rfl, trivial⟩ ⟨Nat.zero_le _, by dsimp only; rw [List.take_zero, List.flatten_nil, List.append_nil]; exact hT⟩ ?_
    clear hN hT x1 c1
    rintro ⟨j, x1, c1⟩ a0 ww hN ⟨hj, hT⟩
    dsimp only at hj hT ⊢
    by_cases hj0 : j = n
    · subst hj0
      repeat' (first
        | (refine isT ?_; (first | (refine T_move hN rfl (by first | exact .inr trivial | exact .inl rfl) ?_) | (refine T_nil ?_) | (refine is_load ?_; (first | (refine T_loadn (t := 94) (us := [_, _]) hN rfl (hT.has 1 rfl) rfl rfl (by first | exact .inl rfl | exact .inr ⟨by decide, trivial⟩) ?_))) | (refine is_binOp ?_; (first | (refine T_lss hN rfl rfl (by first | exact .inr trivial | exact .inl rfl) ?_))) | (refine is_call ?_; (first | (refine T_len hN rfl (by first | exact .inr trivial | exact .inl rfl) ?_))) | (refine is_store ?_; (first | (refine T_storen hN hT 0 rfl rfl rfl rfl rfl rfl (by decide) ?_; clear hT; intro ww hT; refine ⟨(by first | exact trivial), ?_⟩)))))
        | (refine isC ?_; (first | (refine C_seq ?_) | (refine C_rgn ?_) | (refine C_if hN rfl (fun hb => ?_) (fun hb => ?_) <;> ((first | (exfalso; omega) | (exfalso; exact hb rfl) | (exfalso; exact hb (fun h => h rfl)) | ((with_reducible refine absurd ?_ hb); (repeat' (first | exact trivial | refine And.intro rfl ?_)); done) | (replace hb := Classical.not_not.1 hb) | skip))) | (refine C_ret ?_) | (refine C_exit ?_)))
        | (refine isE ?_; (first | (refine E_thn ?_) | (refine E_thn_exit ?_) | (refine E_blk_hit ?_) | (refine E_lp_exit ?_) | (refine E_ret hN Try.results66 (.cell rfl (run_loadAll (hT.has 0 rfl) rfl rfl) .nil) ?_))))
      all_goals exact ⟨x1, c1, by rw [← hln, List.take_length]; rfl, by rw [← hln, List.take_length] at hT; rw [← hln]; exact hT.drop.drop⟩
    · obtain ⟨B, off, rfl⟩ := (hT.rrd 0 rfl).addr (by omega)
      have hjl : j < ls.length := by omega
      obtain ⟨a, ha⟩ : ∃ a, ls[j]? = some a := ⟨_, List.getElem?_eq_getElem hjl⟩
      have ha16 := hls a (List.mem_of_getElem? ha)
      have htk : o1.1 ++ (ls.take (j + 1)).flatten = o1.1 ++ (ls.take j).flatten ++ a := by rw [List.take_add_one, ha, Option.toList_some, List.flatten_append, List.append_assoc]; simp
      have hle : (o1.1 ++ (ls.take j).flatten).length ≤ 900000000 := by
        have h1 : ∀ (l : List (List UInt8)), (∀ x, x ∈ l → x.length = 16) → l.flatten.length = l.length * 16 := by
          intro l
          induction l with
          | nil => intro _; rfl
          | cons y l ih => intro h; rw [List.flatten_cons, List.length_append, ih (fun x hx => h x (List.mem_cons_of_mem _ hx)), h y (by simp), List.length_cons]; omega
        rw [List.length_append, h1 _ (fun x hx => hls x (List.mem_of_mem_take hx)), List.length_take]
        omega
      generalize o1.1 ++ (ls.take j).flatten = bs at *
      have hRaw := fun g2 f1 ww (h) => ref_Raw x1 c1 (bs, o1.2) hle (some ⟨g2, 0, none⟩) 16 16 a ha16 (fun h => by cases h) (by omega) f1 ww (m := []) h
      repeat' (first
        | (refine isT ?_; (first | (refine T_assign hN rfl (by first | exact .inr trivial | exact .inl rfl) ?_) | (refine T_move hN rfl (by first | exact .inr trivial | exact .inl rfl) ?_) | (refine T_nil ?_) | (refine T_nild ?_) | (refine is_load ?_; (first | (refine T_loadnc hN rfl (us := u8s a) (by rw [u8s_length, ha16]) (row_cell (hT.rrd 0 rfl) hls ha) (by first | exact .inl rfl | exact .inr ⟨by decide, trivial⟩) ?_) | (refine T_loadn (t := 94) (us := [_, _]) hN rfl (hT.has 2 rfl) rfl rfl (by first | exact .inl rfl | exact .inr ⟨by decide, trivial⟩) ?_))) | (refine is_binOp ?_; (first | (refine T_addi64 hN rfl rfl (by omega) (by first | exact .inr trivial | exact .inl rfl) ?_) | (refine T_lss hN rfl rfl (by first | exact .inr trivial | exact .inl rfl) ?_))) | (refine is_call ?_; (first | (refine is_call ?_; obtain ⟨f1, hP, hK⟩ := hT.call1 3 rfl [Ob.rd _ 16 1 (u8s a)] (fun o' ho => by rw [List.mem_singleton] at ho; subst ho; exact ⟨_, List.mem_append_left _ (List.mem_of_getElem? (i := 0) rfl), Ent.blk_rd _ _ 16 1 _ (by rw [u8s_length, ha16])⟩); refine T_call (f := 65) hN rfl (by decide) (hRaw _ f1 _ hP) ?_; rintro e ww ⟨x2, c2, rfl, h1⟩; clear hT hP; replace hT := hK _ _ _ _ h1; clear hK h1; refine ⟨_, rfl, trivial, ?_⟩) | (refine T_len hN rfl (by first | exact .inr trivial | exact .inl rfl) ?_))) | (refine is_store ?_; (first | (refine T_storeAll hN hT 0 (us := u8s a) rfl rfl rfl (by rw [u8s_length, ha16]; rfl) rfl (List.all_eq_true.2 (u8s_all1 a)) (by decide) ?_; clear hT; intro ww hT; refine ⟨trivial, ?_⟩) | (refine T_storen hN hT 2 rfl rfl rfl rfl rfl rfl (by decide) ?_; clear hT; intro ww hT; refine ⟨(by first | exact trivial), ?_⟩))) | (refine is_alloc ?_; (first | (refine T_alloc hN hT (by decide) ?_; clear hT; intro g ww hT; refine ⟨(by first | exact trivial), ?_⟩))) | (refine is_indexAddr ?_; (first | (refine T_indexAddr hN rfl rfl (by omega) (by first | exact .inr trivial | exact .inl rfl) ?_))) | (refine is_slice ?_; (first | (refine T_slcA hN rfl (by first | exact .inr trivial | exact .inl rfl) ?_)))))
        | (refine isC ?_; (first | (refine C_seq ?_) | (refine C_rgn ?_) | (refine C_if hN rfl (fun hb => ?_) (fun hb => ?_) <;> ((first | (exfalso; omega) | (exfalso; exact hb rfl) | (exfalso; exact hb (fun h => h rfl)) | ((with_reducible refine absurd ?_ hb); (repeat' (first | exact trivial | refine And.intro rfl ?_)); done) | (replace hb := Classical.not_not.1 hb) | skip))) | (refine C_skip ?_) | (refine C_block ?_) | (refine C_draw (id := 6) [1, 0] Any Try.mixed (by kernel_rfl) trivial ?_; replace hT := hT.drew)))
        | (refine isE ?_; (first | (refine E_thn ?_) | (refine E_blk ?_))))
      all_goals exact E_mk hN (j + 1, x2, c2) ⟨rfl, rfl, rfl, evI rfl (by omega), trivial⟩ ⟨⟨by omega, by dsimp only; rw [htk]; exact hT.drop⟩, by omega⟩
end Go.Proofs.YthjdhmnmlblpfaaR
/- THE WALK of the document's PutUpdate. -/
namespace Go.Fp
open Go Go.RowKit
theorem Ent.blk_part {g T o n sz : Nat} {vs xs : List Value} (hl : xs.length = n * sz) (hv : (vs.drop o).take (n * sz) = xs) (hn : 0 < n) : Ob.Ent (Ob.blk g T vs) (Ob.rd (some ⟨g, o, none⟩) n sz xs) := by
  rintro f w ⟨rfl, h⟩
  obtain ⟨f', h1, h2⟩ := of_rd (blk_rdz (o := o) h hl hv)
  exact ⟨f', h1, fun k hk => by
    obtain ⟨off, e, _⟩ := h2 k hk
    cases e; simp⟩
end Go.Fp
namespace Go.Proofs.YthjdhmnmlblpfaaR
open Go.RowKit Go.Fp
set_option maxHeartbeats 16000000
theorem rNum (x : Option Addr) (c : Nat) (bs : List UInt8) (n k : Nat) (hlen : bs.length ≤ 100000) (hk : k = 1 ∨ k = 2 ∨ k = 4 ∨ k = 8) (hn : n / 256 ^ k = 0) (hn2 : n < 18446744073709551616) (f : List Nat) (w : World) {m : List Ob} (hT : Tk f w w [Ob.own 5 1 (.slice x bs.length c) bs.length (u8s bs)] m) :
    Calls Try.prog 46 #[.agg #[.slice x bs.length c, .bool false], .int .u64 n, .int .i64 k] w fun e w' => ∃ x' c', e = .returned (.agg #[.slice x' (bs ++ be k n).length c', .bool false]) ∧ Tk f w w' [Ob.own 5 1 (.slice x' (bs ++ be k n).length c') (bs ++ be k n).length (u8s (bs ++ be k n))] m := by
  have h := ref_Num x c (bs, false) n k hn2 hk (by dsimp only; omega) f w hT
  rwa [numO_fit (o := (bs, false)) hn] at h
theorem rSums (x : Option Addr) (c : Nat) (bs : List UInt8) (hlen : bs.length ≤ 100000) (y : Option Addr) (d : Nat) (ls : List (List UInt8)) (hls : ∀ l, l ∈ ls → l.length = 16) (hn : ls.length ≤ 255) (f : List Nat) (w : World) {m : List Ob} (hT : Tk f w w [Ob.own 5 1 (.slice x bs.length c) bs.length (u8s bs)] (Ob.rd y ls.length 16 (u8s ls.flatten) :: m)) :
    Calls Try.prog 66 #[.agg #[.slice x bs.length c, .bool false], .slice y ls.length d] w fun e w' => ∃ x' c', e = .returned (.agg #[.slice x' (bs ++ (be 1 ls.length ++ ls.flatten)).length c', .bool false]) ∧ Tk f w w' [Ob.own 5 1 (.slice x' (bs ++ (be 1 ls.length ++ ls.flatten)).length c') (bs ++ (be 1 ls.length ++ ls.flatten)).length (u8s (bs ++ (be 1 ls.length ++ ls.flatten)))] (Ob.rd y ls.length 16 (u8s ls.flatten) :: m) := by
  have h := ref_OSums x c (bs, false) (by dsimp only; omega) y ls.length d ls hls rfl (by omega) f w hT
  have e : sumsO ls (bs, false) = (bs ++ (be 1 ls.length ++ ls.flatten), false) := by
    unfold sumsO
    rw [numO_fit (k := 1) (o := (bs, false)) (Nat.div_eq_of_lt (by omega)), List.append_assoc]
  rwa [e] at h
theorem rRaw (x : Option Addr) (c : Nat) (bs : List UInt8) (hlen : bs.length ≤ 100000) (g o d : Nat) (s : List UInt8) (hs : s.length = 16) (f : List Nat) (w : World) {m : List Ob} (hT : Tk f w w [Ob.own 5 1 (.slice x bs.length c) bs.length (u8s bs)] (Ob.rd (some ⟨g, o, none⟩) 16 1 (u8s s) :: m)) :
    Calls Try.prog 65 #[.agg #[.slice x bs.length c, .bool false], .slice (some ⟨g, o, none⟩) 16 d] w fun e w' => ∃ x' c', e = .returned (.agg #[.slice x' (bs ++ s).length c', .bool false]) ∧ Tk f w w' [Ob.own 5 1 (.slice x' (bs ++ s).length c') (bs ++ s).length (u8s (bs ++ s))] (Ob.rd (some ⟨g, o, none⟩) 16 1 (u8s s) :: m) :=
  ref_Raw x c (bs, false) (by dsimp only; omega) _ 16 d s hs (fun h => by cases h) (by omega) f w hT
end Go.Proofs.YthjdhmnmlblpfaaR
