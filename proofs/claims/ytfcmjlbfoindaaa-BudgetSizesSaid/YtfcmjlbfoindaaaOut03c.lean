/- THE WALK of what lays fields: short sums. -/
import Derived.Test.YtfcmjlbfoindaaaOut03b
import Derived.Test.YtfcmjlbfoindaaaFb
namespace Go.Proofs.Ytfcmjlbfoindaaa
open Go.RowKit Go.Fp
attribute [local irreducible] Go.Calls
set_option maxRecDepth 100000
set_option maxHeartbeats 2000000
theorem flat_get (k : Nat) : ∀ (ls : List (List UInt8)), (∀ l, l ∈ ls → l.length = k) → ∀ (j : Nat) (a : List UInt8), ls[j]? = some a → ∀ i, i < k → ls.flatten[j * k + i]? = a[i]?
  | [], _, j, a, h, _, _ => by simp at h
  | l :: ls, hls, 0, a, h, i, hi => by
    have hl := hls l (by simp)
    simp only [List.getElem?_cons_zero, Option.some.injEq] at h
    subst h
    rw [List.flatten_cons, Nat.zero_mul, Nat.zero_add, List.getElem?_append_left (by omega)]
  | l :: ls, hls, j + 1, a, h, i, hi => by
    have hl := hls l (by simp)
    rw [List.getElem?_cons_succ] at h
    rw [List.flatten_cons, List.getElem?_append_right (by rw [Nat.add_mul]; omega), show (j + 1) * k + i - l.length = j * k + i by rw [Nat.add_mul]; omega]
    exact flat_get k ls (fun l h => hls l (List.mem_cons_of_mem _ h)) j a h i hi
theorem row_cell {w : World} {B off n : Nat} {ls : List (List UInt8)} (h : Rdz w (some ⟨B, off, none⟩) n 16 (u8s ls.flatten)) (hls : ∀ l, l ∈ ls → l.length = 16) {j : Nat} {a : List UInt8} (hj : ls[j]? = some a) (i : Nat) (v : Value) (hv : (u8s a)[i]? = some v) : w.cell? ⟨B, off + j * 16 + i, none⟩ = some v := by
  have ha := hls a (List.mem_of_getElem? hj)
  have hi := (List.getElem?_eq_some_iff.1 hv).1
  rw [u8s_length, ha] at hi
  rw [Nat.add_assoc]
  exact h.cell rfl (by rw [u8s_get, flat_get 16 ls hls j a hj i hi, ← u8s_get]; exact hv)
def sumsO (ls : List (List UInt8)) (o : List UInt8 × Bool) : List UInt8 × Bool := ((numO 1 ls.length o).1 ++ ls.flatten, (numO 1 ls.length o).2)
theorem Out_Sums (q : Nat) (o : List UInt8 × Bool) (hlen : o.1.length ≤ 900000000) (x : Option Addr) (n c : Nat) (ls : List (List UInt8)) (hls : ∀ l, l ∈ ls → l.length = 16) (hln : ls.length = n) (hn : n ≤ 1000) (f : List Nat) (w : World) {m : List Ob} (hT : Tk f w w [Out q o.1 o.2] (Ob.rd x n 16 (u8s ls.flatten) :: m)) :
    Calls Try.prog 50 #[.pointer (some ⟨q, 0, none⟩), .slice x n c] w fun e w' => e = .returned (.tuple #[]) ∧ Tk f w w' [Out q (sumsO ls o).1 (sumsO ls o).2] (Ob.rd x n 16 (u8s ls.flatten) :: m) := by
  have hl := numO_len 1 n o
  unfold sumsO
  rw [hln]
  have hU := Out_U8 q o n (by omega)
  generalize numO 1 n o = o1 at *
  refine enter [(0, _), (1, _)] Try.func50 rfl Try.ntmps50 (Nat.le_of_ble_eq_true rfl) rfl ?_; intro a0 hN
  repeat' (first
    | (refine isT ?_; (first | (refine T_move hN rfl (by first | exact .inr trivial | exact .inl rfl) ?_) | (refine T_nil ?_) | (refine is_call ?_; (first | (refine is_call ?_; obtain ⟨f1, hP, hK⟩ := hT.call1m 0 rfl; refine T_call (f := 46) hN rfl (by decide) (hU f1 _ hP) ?_; rintro e ww ⟨rfl, h1⟩; clear hT hP; replace hT := hK _ _ _ _ h1; clear hK h1; refine ⟨_, rfl, (by first | exact trivial | ((repeat' (first | exact hT.has 0 rfl | exact hT.has 1 rfl | exact hT.has 2 rfl | exact hT.has 3 rfl | exact hT.has 4 rfl | exact hT.has 5 rfl | exact hT.ord 0 rfl | exact hT.ord 1 rfl | exact hT.ord 2 rfl | exact hT.ord 3 rfl | exact hT.ord 4 rfl | exact hT.ord 5 rfl | exact hT.mrd (by assumption) | refine And.intro ?_ ?_)); done)), ?_⟩) | (refine T_len hN rfl (by first | exact .inr trivial | exact .inl rfl) ?_))) | (refine is_convert ?_; (first | (refine T_conv (r := ?_) hN rfl ?_ (by first | exact .inr trivial | exact .inl rfl) ?_; rotate_left; (focus (first | (refine Eq.trans (Go.IntWalk.i64_in _ (by omega)) ?_; (first | (simp only [Int.reduceAdd, Int.reduceSub, Int.reduceMul, Int.reduceNeg, Int.reduceDiv, Int.reduceMod]; rfl) | rfl)) | (refine Eq.trans (Go.IntWalk.u64_in _ (by omega)) ?_; (first | (simp only [Int.reduceAdd, Int.reduceSub, Int.reduceMul, Int.reduceNeg, Int.reduceDiv, Int.reduceMod]; rfl) | rfl)) | (refine Go.IntWalk.u32_in _ ?_; omega) | (refine Go.IntWalk.u8_in _ ?_; omega) | exact rfl)))))))
    | (refine isC ?_; (first | (refine C_seq ?_) | (refine C_rgnk (id := 0) hN [(0, _), (1, _)] ⟨rfl, rfl, trivial⟩ ?_; clear hN; intro a0 hN) | (refine C_rgnk (id := 1) hN [(0, _), (1, _)] ⟨rfl, rfl, trivial⟩ ?_; clear hN; intro a0 hN) | (refine C_block ?_)))
    | (refine isE ?_; (first | (refine E_thn ?_))))
  all_goals
    refine C_loop hN (X := Nat) (fun j => [(0, .pointer (some ⟨q, 0, none⟩)), (11, .slice x n c), (12, .int .i64 n), (13, .int .i64 j)]) (fun j w1 => j ≤ n ∧ Tk f w w1 [Out q (o1.1 ++ (ls.take j).flatten) o1.2] (Ob.rd x n 16 (u8s ls.flatten) :: m)) (fun j => n - j) 0 ⟨rfl, rfl, rfl, rfl, trivial⟩ ⟨Nat.zero_le _, by rw [List.take_zero, List.flatten_nil, List.append_nil]; exact hT⟩ ?_
    clear hN hT
    rintro j a0 ww hN ⟨hj, hT⟩
    by_cases hj0 : j = n
    · subst hj0
      repeat' (first
        | (refine isT ?_; (first | (refine T_nil ?_) | (refine is_binOp ?_; (first | (refine T_lss hN rfl rfl (by first | exact .inr trivial | exact .inl rfl) ?_)))))
        | (refine isC ?_; (first | (refine C_seq ?_) | (refine C_rgn ?_) | (refine C_if hN rfl (fun hb => ?_) (fun hb => ?_) <;> ((first | (exfalso; omega) | (exfalso; exact hb rfl) | (exfalso; exact hb (fun h => h rfl)) | ((with_reducible refine absurd ?_ hb); (repeat' (first | exact trivial | refine And.intro rfl ?_)); done) | (replace hb := Classical.not_not.1 hb) | skip))) | (refine C_exit ?_)))
        | (refine isE ?_; (first | (refine E_thn ?_) | (refine E_thn_exit ?_) | (refine E_blk_hit ?_) | (refine E_lp_exit ?_) | (refine E_end hN Try.results50 .nil ?_))))
      all_goals exact ⟨rfl, by rw [← hln, List.take_length] at hT; rw [← hln]; exact hT⟩
    · obtain ⟨B, off, rfl⟩ := (hT.rrd 0 rfl).addr (by omega)
      have hjl : j < ls.length := by omega
      obtain ⟨a, ha⟩ : ∃ a, ls[j]? = some a := ⟨_, List.getElem?_eq_getElem hjl⟩
      have ha16 := hls a (List.mem_of_getElem? ha)
      have htk : (ls.take (j + 1)).flatten = (ls.take j).flatten ++ a := by rw [List.take_add_one, ha, Option.toList_some, List.flatten_append]; simp
      have hle : (o1.1 ++ (ls.take j).flatten).length ≤ 1000000000 := by
        have h1 : ∀ (l : List (List UInt8)), (∀ x, x ∈ l → x.length = 16) → l.flatten.length = l.length * 16 := by
          intro l
          induction l with
          | nil => intro _; rfl
          | cons y l ih => intro h; rw [List.flatten_cons, List.length_append, ih (fun x hx => h x (List.mem_cons_of_mem _ hx)), h y (by simp), List.length_cons]; omega
        rw [List.length_append, h1 _ (fun x hx => hls x (List.mem_of_mem_take hx)), List.length_take]
        omega
      have hS := fun f1 ww (h) => Out_Sum q (o1.1 ++ (ls.take j).flatten, o1.2) hle f1 ww (m := Ob.rd (some ⟨B, off, none⟩) n 16 (u8s ls.flatten) :: m) h a ha16
      repeat' (first
        | (refine isT ?_; (first | (refine T_move hN rfl (by first | exact .inr trivial | exact .inl rfl) ?_) | (refine T_nil ?_) | (refine is_load ?_; (first | (refine T_loadnc hN rfl (us := u8s a) (by rw [u8s_length, ha16]) (row_cell (hT.rrd 0 rfl) hls ha) (by first | exact .inl rfl | exact .inr ⟨by decide, trivial⟩) ?_) | (refine T_loadn hN rfl (hT.has 0 rfl) (us := u8s a) (by rw [List.drop_zero, List.take_of_length_le (by rw [u8s_length, ha16]; exact Nat.le_refl _)]) (by rw [u8s_length, ha16]) (by first | exact .inl rfl | exact .inr ⟨by decide, trivial⟩) ?_))) | (refine is_binOp ?_; (first | (refine T_addi64 hN rfl rfl (by omega) (by first | exact .inr trivial | exact .inl rfl) ?_) | (refine T_lss hN rfl rfl (by first | exact .inr trivial | exact .inl rfl) ?_))) | (refine is_call ?_; (first | (refine is_call ?_; obtain ⟨f1, hP, hK⟩ := hT.call1m 1 rfl; refine T_call (f := 49) hN rfl (by decide) (hS f1 _ hP) ?_; rintro e ww ⟨rfl, h1⟩; clear hT hP; replace hT := hK _ _ _ _ h1; clear hK h1; refine ⟨_, rfl, (by first | exact trivial | ((repeat' (first | exact hT.has 0 rfl | exact hT.has 1 rfl | exact hT.has 2 rfl | exact hT.has 3 rfl | exact hT.has 4 rfl | exact hT.has 5 rfl | exact hT.ord 0 rfl | exact hT.ord 1 rfl | exact hT.ord 2 rfl | exact hT.ord 3 rfl | exact hT.ord 4 rfl | exact hT.ord 5 rfl | exact hT.mrd (by assumption) | refine And.intro ?_ ?_)); done)), ?_⟩))) | (refine is_store ?_; (first | (refine T_storeAll hN hT 0 (us := u8s a) rfl rfl rfl (by rw [u8s_length, ha16]; rfl) rfl (List.all_eq_true.2 (u8s_all1 a)) (by decide) ?_; clear hT; intro ww hT; refine ⟨trivial, ?_⟩))) | (refine is_alloc ?_; (first | (refine T_alloc hN hT (by decide) ?_; clear hT; intro g ww hT; refine ⟨(by first | exact trivial), ?_⟩))) | (refine is_indexAddr ?_; (first | (refine T_indexAddr hN rfl rfl (by omega) (by first | exact .inr trivial | exact .inl rfl) ?_)))))
        | (refine isC ?_; (first | (refine C_seq ?_) | (refine C_rgn ?_) | (refine C_if hN rfl (fun hb => ?_) (fun hb => ?_) <;> ((first | (exfalso; omega) | (exfalso; exact hb rfl) | (exfalso; exact hb (fun h => h rfl)) | ((with_reducible refine absurd ?_ hb); (repeat' (first | exact trivial | refine And.intro rfl ?_)); done) | (replace hb := Classical.not_not.1 hb) | skip))) | (refine C_skip ?_) | (refine C_block ?_)))
        | (refine isE ?_; (first | (refine E_thn ?_) | (refine E_blk ?_))))
      all_goals exact E_mk hN (j + 1) ⟨rfl, rfl, rfl, evI rfl (by omega), trivial⟩ ⟨⟨by omega, by rw [htk, ← List.append_assoc]; exact hT.drop⟩, by omega⟩
end Go.Proofs.Ytfcmjlbfoindaaa
