/- THE WALKS of tags, the document's. -/
import Derived.Test.YtemhcflaldeakaaRSum12
namespace Go.Fp
open Go Go.RowKit
/-- Bytes in a block, so far. -/
def kB (n : Nat) (k : List UInt8) (i : Nat) : List UInt8 := k.take i ++ List.replicate (n - i) 0
theorem kB_len {n : Nat} {k : List UInt8} {i : Nat} (h1 : i ≤ k.length) (h2 : i ≤ n) : (kB n k i).length = n := by unfold kB; rw [List.length_append, List.length_take, List.length_replicate]; omega
theorem kB_hole {n : Nat} {k : List UInt8} {i : Nat} (h1 : i ≤ k.length) (h2 : i < n) : (u8s (kB n k i))[0 + i * 1]? = some (u8 0) := by
  rw [u8s_get, Nat.zero_add, Nat.mul_one]
  unfold kB
  rw [List.getElem?_append_right (by rw [List.length_take]; omega), List.length_take, show i - min i k.length = 0 by omega, List.getElem?_replicate, if_pos (by omega)]; rfl
theorem kB_set {n : Nat} {k : List UInt8} {i : Nat} (h1 : i < k.length) (h2 : i < n) : (u8s (kB n k i)).set (0 + i * 1) (u8 (gb k i)) = u8s (kB n k (i + 1)) := by
  rw [u8s_set, Nat.zero_add, Nat.mul_one]
  congr 1
  unfold kB
  rw [set_app _ _ _ 0 _ (by rw [List.length_take]; omega), List.take_add_one, gb_get h1, show n - i = (n - (i + 1)) + 1 by omega, List.replicate_succ]
  simp [List.set]
theorem kB_zero (n : Nat) (k : List UInt8) : u8s (kB n k 0) = List.replicate n (.int .u8 0) := by simp [kB, u8s, u8]
theorem kB_kpad {k : List UInt8} : kB 64 k k.length = kpad k := by unfold kB kpad; rw [List.take_length]
theorem map_take_succ {f : UInt8 → UInt8} {K : List UInt8} {i : Nat} (h : i < K.length) : (K.map f).take (i + 1) = (K.map f).take i ++ [f (gb K i)] := by
  rw [List.take_add_one, List.getElem?_map, gb_get h]; rfl
end Go.Fp
namespace Go.Proofs.Ytemhcflaldeakaa
open Go.RowKit Go.Fp
attribute [local irreducible] Go.Calls
set_option maxRecDepth 100000
set_option maxHeartbeats 16000000
attribute [local irreducible] shaP kpad kB
theorem ref_Half (r : List UInt8) (hr : r.length = 32) (w : World) :
    Calls Try.prog 42 #[.agg (u8s r).toArray] w fun e w' => e = .returned (.agg (u8s (r.take 16)).toArray) ∧ Fr [] w w' := by
  have hT := Tk.start0 w
  have hl : (r.take 16).length = 16 := by rw [List.length_take]; omega
  have hk16 : kB 16 r 16 = r.take 16 := by unfold kB; simp
  refine enter [(0, _)] Try.func42 rfl Try.ntmps42 (Nat.le_of_ble_eq_true rfl) rfl ?_; intro a0 hN
  repeat' (first
    | (refine isT ?_; (first | (refine T_assign hN rfl (by first | exact .inr trivial | exact .inl rfl) ?_) | (refine T_nil ?_) | (refine is_box ?_; (first | (refine T_box (d := 1) hN hT (vs := u8s r) rfl (by decide) ?_; clear hT; intro g1 ww hT; refine ⟨trivial, ?_⟩))) | (refine is_alloc ?_; (first | (refine T_alloc (d := 2) hN hT (by decide) ?_; clear hT; intro g2 ww hT; refine ⟨trivial, ?_⟩) | (refine T_alloc (d := 3) hN hT (by decide) ?_; clear hT; intro g3 ww hT; refine ⟨trivial, ?_⟩)))))
    | (refine isC ?_; (first | (refine C_seq ?_) | (refine C_rgnk (id := 0) hN [(0, _)] ⟨rfl, trivial⟩ ?_; clear hN; intro a0 hN) | (refine C_rgnk (id := 1) hN [(0, _), (1, _), (2, _)] ⟨rfl, rfl, rfl, trivial⟩ ?_; clear hN; intro a0 hN) | (refine C_rgnk (id := 2) hN [(0, _), (1, _), (2, _), (3, _)] ⟨rfl, rfl, rfl, rfl, trivial⟩ ?_; clear hN; intro a0 hN) | (refine C_block ?_)))
    | (refine isE ?_; (first | (refine E_thn ?_))))
  all_goals
    have hT1 : Tk [] w ww [Ob.blk g3 84 (u8s (kB 16 r 0)), Ob.blk g2 84 (List.replicate 16 (.int .u8 0)), Ob.blk g1 24 (u8s r)] [] := by rw [kB_zero]; exact hT
    clear hT
    refine C_loop hN (X := Nat) (fun i => [(1, .pointer (some ⟨g1, 0, none⟩)), (2, .pointer (some ⟨g2, 0, none⟩)), (3, .pointer (some ⟨g3, 0, none⟩)), (4, .int .i64 i)])
      (fun i w1 => i ≤ 16 ∧ Tk [] w w1 [Ob.blk g3 84 (u8s (kB 16 r i)), Ob.blk g2 84 (List.replicate 16 (.int .u8 0)), Ob.blk g1 24 (u8s r)] []) (fun i => 16 - i) 0 ⟨rfl, rfl, rfl, rfl, trivial⟩ ⟨Nat.zero_le _, hT1⟩ ?_
    clear hN hT1
    rintro i a0 ww hN ⟨hi, hT⟩
    by_cases hi0 : i = 16
    · subst hi0
      rw [hk16] at hT
      generalize r.take 16 = s at *
      repeat' (first
        | (refine isT ?_; (first | (refine T_move hN rfl (by first | exact .inr trivial | exact .inl rfl) ?_) | (refine T_nil ?_) | (refine is_load ?_; (first | (refine T_loadn hN rfl (hT.has 0 rfl) (us := u8s s) (by rw [List.drop_zero, List.take_of_length_le (by rw [u8s_length, hl]; exact Nat.le_refl _)]) (by rw [u8s_length, hl]) (by first | exact .inl rfl | exact .inr ⟨by decide, trivial⟩) ?_))) | (refine is_binOp ?_; (first | (refine T_lss hN rfl rfl (by first | exact .inr trivial | exact .inl rfl) ?_))) | (refine is_store ?_; (first | (refine T_storeAll hN hT 1 (us := u8s s) rfl rfl rfl (by rw [u8s_length, hl]; rfl) rfl (List.all_eq_true.2 (u8s_all1 s)) (by decide) ?_; clear hT; intro ww hT; refine ⟨trivial, ?_⟩)))))
        | (refine isC ?_; (first | (refine C_seq ?_) | (refine C_rgn ?_) | (refine C_if hN rfl (fun hb => ?_) (fun hb => ?_) <;> ((first | (exfalso; omega) | (exfalso; exact hb rfl) | (exfalso; exact hb (fun h => h rfl)) | ((with_reducible refine absurd ?_ hb); (repeat' (first | exact trivial | refine And.intro rfl ?_)); done) | (replace hb := Classical.not_not.1 hb) | skip))) | (refine C_ret ?_) | (refine C_exit ?_)))
        | (refine isE ?_; (first | (refine E_ret hN Try.results42 (.cell rfl (run_loadAll (hT.has 1 rfl) (us := u8s s) (by rw [List.drop_zero, List.take_of_length_le (by rw [u8s_length, hl]; exact Nat.le_refl _)]) (by rw [u8s_length, hl])) .nil) ?_) | (refine E_thn ?_) | (refine E_thn_exit ?_) | (refine E_blk_hit ?_) | (refine E_lp_exit ?_))))
      all_goals exact ⟨rfl, hT.fr⟩
    · repeat' (first
   | (refine isT ?_; (first | (refine T_assign hN rfl (by first | exact .inr trivial | exact .inl rfl) ?_) | (refine T_move hN rfl (by first | exact .inr trivial | exact .inl rfl) ?_) | (refine T_nil ?_) | (refine is_load ?_; (first | (refine T_load hN rfl (hT.has 2 rfl) (by rw [u8s_get, Nat.zero_add, Nat.mul_one, gb_get (by omega)]; rfl) (by first | exact .inl rfl | exact .inr ⟨by decide, trivial⟩) ?_))) | (refine is_binOp ?_; (first | (refine T_addi64 hN rfl rfl (by omega) (by first | exact .inr trivial | exact .inl rfl) ?_) | (refine T_lss hN rfl rfl (by first | exact .inr trivial | exact .inl rfl) ?_))) | (refine is_store ?_; (first | (refine T_store hN hT 0 rfl rfl rfl (kB_hole (by omega) (by omega)) rfl (by decide) ?_; clear hT; intro ww hT; refine ⟨trivial, ?_⟩))) | (refine is_indexAddr ?_; (first | (refine T_indexAddrA hN rfl rfl (by omega) (by first | exact .inr trivial | exact .inl rfl) ?_)))))
   | (refine isC ?_; (first | (refine C_seq ?_) | (refine C_rgn ?_) | (refine C_if hN rfl (fun hb => ?_) (fun hb => ?_) <;> ((first | (exfalso; omega) | (exfalso; exact hb rfl) | (exfalso; exact hb (fun h => h rfl)) | ((with_reducible refine absurd ?_ hb); (repeat' (first | exact trivial | refine And.intro rfl ?_)); done) | (replace hb := Classical.not_not.1 hb) | skip))) | (refine C_skip ?_) | (refine C_block ?_)))
   | (refine isE ?_; (first | (refine E_thn ?_) | (refine E_blk ?_))))
      all_goals exact E_mk hN (i + 1) ⟨rfl, rfl, rfl, evI rfl (by omega), trivial⟩ ⟨⟨by omega, by rw [← kB_set (by omega) (by omega)]; exact hT⟩, by omega⟩
theorem ref_Mac (x : Option Addr) (n c : Nat) (k : List UInt8) (hkn : k.length = n) (hk : n ≤ 64) (y : Option Addr) (n2 d : Nat) (ps : List UInt8) (hpn : ps.length = n2) (hy : y = none → n2 = 0 ∧ d = 0) (hps : n2 ≤ 900000) (w : World) {m : List Ob} (hm1 : Ob.rd x n 1 (u8s k) ∈ m) (hm2 : Ob.rd y n2 1 (u8s ps) ∈ m) (hT : Tk [] w w [] m) :
    Calls Try.prog 43 #[.slice x n c, .slice y n2 d] w fun e w' => e = .returned (.agg (u8s (macP k ps)).toArray) ∧ Tk [] w w' [] m := by
  subst hkn hpn
  have hKl := kpad_len hk
  have hR : macP k ps = shaP ((kpad k).map (· ^^^ 0x5c) ++ shaP ((kpad k).map (· ^^^ 0x36) ++ ps)) := rfl
  rw [hR]
  have hka : kB 64 k k.length = kpad k := kB_kpad
  generalize kpad k = K at *
  refine enter [(0, _), (1, _)] Try.func43 rfl Try.ntmps43 (Nat.le_of_ble_eq_true rfl) rfl ?_; intro a0 hN
  repeat' (first
    | (refine isT ?_; (first | (refine T_assign hN rfl (by first | exact .inr trivial | exact .inl rfl) ?_) | (refine T_move hN rfl (by first | exact .inr trivial | exact .inl rfl) ?_) | (refine T_nil ?_) | (refine is_binOp ?_; (first | (refine T_gtr hN rfl rfl (by first | exact .inr trivial | exact .inl rfl) ?_))) | (refine is_call ?_; (first | (refine T_len hN rfl (by first | exact .inr trivial | exact .inl rfl) ?_))) | (refine is_alloc ?_; (first | (refine T_alloc (d := 4) hN hT (by decide) ?_; clear hT; intro g4 ww hT; refine ⟨trivial, ?_⟩) | (refine T_alloc (d := 5) hN hT (by decide) ?_; clear hT; intro g5 ww hT; refine ⟨trivial, ?_⟩)))))
    | (refine isC ?_; (first | (refine C_seq ?_) | (refine C_rgnk (id := 0) hN [(0, _), (1, _)] ⟨rfl, rfl, trivial⟩ ?_; clear hN; intro a0 hN) | (refine C_rgnk (id := 1) hN [(0, _), (1, _), (4, _)] ⟨rfl, rfl, rfl, trivial⟩ ?_; clear hN; intro a0 hN) | (refine C_rgnk (id := 2) hN [(0, _), (1, _), (4, _), (5, _)] ⟨rfl, rfl, rfl, rfl, trivial⟩ ?_; clear hN; intro a0 hN) | (refine C_rgnk (id := 8) hN [(0, _), (1, _), (4, _), (5, _), (15, _)] ⟨rfl, rfl, rfl, rfl, rfl, trivial⟩ ?_; clear hN; intro a0 hN) | (refine C_if hN rfl (fun hb => ?_) (fun hb => ?_) <;> ((first | (exfalso; omega) | (exfalso; exact hb rfl) | (exfalso; exact hb (fun h => h rfl)) | ((with_reducible refine absurd ?_ hb); (repeat' (first | exact trivial | refine And.intro rfl ?_)); done) | (replace hb := Classical.not_not.1 hb) | skip))) | (refine C_block ?_)))
    | (refine isE ?_; (first | (refine E_thn ?_))))
  all_goals
    have hT1 : Tk [] w ww [Ob.blk g5 120 (u8s (kB 64 k 0)), Ob.blk g4 24 z32] m := by rw [kB_zero]; exact hT
    clear hT
    refine C_loop hN (X := Nat) (fun i => [(0, .slice x k.length c), (1, .slice y ps.length d), (4, .pointer (some ⟨g4, 0, none⟩)), (5, .pointer (some ⟨g5, 0, none⟩)), (8, .int .i64 i)])
      (fun i w1 => i ≤ k.length ∧ Tk [] w w1 [Ob.blk g5 120 (u8s (kB 64 k i)), Ob.blk g4 24 z32] m) (fun i => k.length - i) 0 ⟨rfl, rfl, rfl, rfl, rfl, trivial⟩ ⟨Nat.zero_le _, hT1⟩ ?_
    clear hN hT1
    rintro i a0 ww hN ⟨hi, hT⟩
    by_cases hi0 : i = k.length
    · subst hi0
      rw [hka] at hT
      have hT1 : Tk [] w ww [Ob.own 5 1 (.slice none 0 0) 0 [], Ob.own 5 1 (.slice none 0 0) 0 [], Ob.blk g5 120 (u8s K), Ob.blk g4 24 z32] m := (hT.addnil 5 1).addnil 5 1
      clear hT
      have hT := hT1
      clear hT1
      repeat' (first
        | (refine isT ?_; (first | (refine T_assign hN rfl (by first | exact .inr trivial | exact .inl rfl) ?_) | (refine T_move hN rfl (by first | exact .inr trivial | exact .inl rfl) ?_) | (refine T_nil ?_) | (refine is_binOp ?_; (first | (refine T_lss hN rfl rfl (by first | exact .inr trivial | exact .inl rfl) ?_))) | (refine is_call ?_; (first | (refine T_len hN rfl (by first | exact .inr trivial | exact .inl rfl) ?_)))))
        | (refine isC ?_; (first | (refine C_seq ?_) | (refine C_rgn ?_) | (refine C_if hN rfl (fun hb => ?_) (fun hb => ?_) <;> ((first | (exfalso; omega) | (exfalso; exact hb rfl) | (exfalso; exact hb (fun h => h rfl)) | ((with_reducible refine absurd ?_ hb); (repeat' (first | exact trivial | refine And.intro rfl ?_)); done) | (replace hb := Classical.not_not.1 hb) | skip))) | (refine C_block ?_) | (refine C_exit ?_)))
        | (refine isE ?_; (first | (refine E_thn ?_) | (refine E_thn_exit ?_) | (refine E_blk_hit ?_) | (refine E_lp_exit ?_))))
      all_goals
        refine C_loop hN (X := Nat × (Option Addr × Nat) × (Option Addr × Nat)) (fun z => [(1, .slice y ps.length d), (4, .pointer (some ⟨g4, 0, none⟩)), (5, .pointer (some ⟨g5, 0, none⟩)), (9, .slice z.2.1.1 z.1 z.2.1.2), (10, .slice z.2.2.1 z.1 z.2.2.2), (11, .int .i64 z.1)])
          (fun z w1 => z.1 ≤ 64 ∧ Tk [] w w1 [Ob.own 5 1 (.slice z.2.1.1 z.1 z.2.1.2) z.1 (u8s ((K.map (· ^^^ 0x36)).take z.1)), Ob.own 5 1 (.slice z.2.2.1 z.1 z.2.2.2) z.1 (u8s ((K.map (· ^^^ 0x5c)).take z.1)), Ob.blk g5 120 (u8s K), Ob.blk g4 24 z32] m) (fun z => 64 - z.1) (0, (none, 0), (none, 0)) ⟨rfl, rfl, rfl, rfl, rfl, rfl, trivial⟩ ⟨Nat.zero_le _, hT⟩ ?_
        clear hN hT
        rintro ⟨i, ⟨xi, ci⟩, ⟨xo, co⟩⟩ a0 ww hN ⟨hi, hT⟩
        dsimp only at hi hT ⊢
        by_cases hi0 : i = 64
        · subst hi0
          have hl5 : (K.map (· ^^^ (0x5c : UInt8))).length = 64 := by rw [List.length_map]; exact hKl
          have hl3 : (K.map (· ^^^ (0x36 : UInt8))).length = 64 := by rw [List.length_map]; exact hKl
          rw [List.take_of_length_le (by omega), List.take_of_length_le (by omega)] at hT
          generalize K.map (· ^^^ (0x5c : UInt8)) = K5 at *
          generalize K.map (· ^^^ (0x36 : UInt8)) = K3 at *
          have hs1 := shaP_len (K3 ++ ps)
          have hs2 := shaP_len (K5 ++ shaP (K3 ++ ps))
          have hla : (K3 ++ ps).length = 64 + ps.length := by rw [List.length_append, hl3]
          have hua : u8s (K3 ++ ps) = u8s K3 ++ u8s ps := u8s_append _ _
          repeat' (first
            | (refine isT ?_; (first | (refine T_move hN rfl (by first | exact .inr trivial | exact .inl rfl) ?_) | (refine T_nil ?_) | (refine is_binOp ?_; (first | (refine T_lss hN rfl rfl (by first | exact .inr trivial | exact .inl rfl) ?_))) | (refine is_call ?_; (first | (refine T_append hN hT 0 (by rfl) (by rfl) rfl rfl rfl hy (hT.mrd hm2) (u8s_all1 _) (by unfold maxLen; omega) (by omega) (by decide) ?_; clear hT; intro x7 c7 ww hT; refine ⟨trivial, ?_⟩; rw [← hua] at hT; have hx7 := own_nil (hT.owns 0 rfl)) | (refine is_call ?_; obtain ⟨hP, hK⟩ := hT.call0 [Ob.rd x7 (64 + ps.length) 1 (u8s (K3 ++ ps))] (fun o' ho => by rw [List.mem_singleton] at ho; subst ho; exact ⟨_, List.mem_append_left _ (List.mem_of_getElem? (i := 0) rfl), Ent.own_rd _ _ _ _ _ _⟩); refine T_call (f := 56) hN rfl (by decide) (ref_Sum x7 (64 + ps.length) c7 (K3 ++ ps) hla hx7 (by omega) _ (List.mem_cons_self ..) hP) ?_; rintro e ww ⟨rfl, h1⟩; clear hT hP; replace hT := hK _ _ _ h1; clear hK h1; refine ⟨_, rfl, (by first | exact trivial | ((repeat' (first | exact hT.has 0 rfl | exact hT.has 1 rfl | exact hT.has 2 rfl | exact hT.has 3 rfl | exact hT.has 4 rfl | exact hT.has 5 rfl | exact hT.ord 0 rfl | exact hT.ord 1 rfl | exact hT.ord 2 rfl | exact hT.ord 3 rfl | exact hT.ord 4 rfl | exact hT.ord 5 rfl | exact hT.mrd (by assumption) | refine And.intro ?_ ?_)); done)), ?_⟩) | (refine T_append hN hT 2 (by rfl) (by rfl) rfl rfl rfl (fun h => by cases h) (blk_rdz (n := 32) (sz := 1) (hT.has 0 rfl) (by rw [u8s_length, hs1]) (by rw [List.drop_zero, List.take_of_length_le (by rw [u8s_length, hs1]; exact Nat.le_refl _)])) (u8s_all1 (shaP (K3 ++ ps))) (by unfold maxLen; omega) (by omega) (by decide) ?_; clear hT; intro x8 c8 ww hT; refine ⟨trivial, ?_⟩; rw [← u8s_append] at hT; have hx8 := own_nil (hT.owns 2 rfl)) | (refine is_call ?_; obtain ⟨hP, hK⟩ := hT.call0 [Ob.rd x8 (64 + 32) 1 (u8s (K5 ++ shaP (K3 ++ ps)))] (fun o' ho => by rw [List.mem_singleton] at ho; subst ho; exact ⟨_, List.mem_append_left _ (List.mem_of_getElem? (i := 2) rfl), Ent.own_rd _ _ _ _ _ _⟩); refine T_call (f := 56) hN rfl (by decide) (ref_Sum x8 (64 + 32) c8 (K5 ++ shaP (K3 ++ ps)) (by rw [List.length_append, hl5, hs1]) hx8 (by omega) _ (List.mem_cons_self ..) hP) ?_; rintro e ww ⟨rfl, h1⟩; clear hT hP; replace hT := hK _ _ _ h1; clear hK h1; refine ⟨_, rfl, (by first | exact trivial | ((repeat' (first | exact hT.has 0 rfl | exact hT.has 1 rfl | exact hT.has 2 rfl | exact hT.has 3 rfl | exact hT.has 4 rfl | exact hT.has 5 rfl | exact hT.ord 0 rfl | exact hT.ord 1 rfl | exact hT.ord 2 rfl | exact hT.ord 3 rfl | exact hT.ord 4 rfl | exact hT.ord 5 rfl | exact hT.mrd (by assumption) | refine And.intro ?_ ?_)); done)), ?_⟩))) | (refine is_store ?_; (first | (refine T_storeAll hN hT 0 (us := u8s (shaP (K3 ++ ps))) rfl rfl rfl (by rw [u8s_length, hs1]; rfl) rfl (List.all_eq_true.2 (u8s_all1 _)) (by decide) ?_; clear hT; intro ww hT; refine ⟨trivial, ?_⟩) | (refine T_storeAll hN hT 4 (us := u8s (shaP (K5 ++ shaP (K3 ++ ps)))) rfl rfl rfl (by rw [u8s_length, hs2]; rfl) rfl (List.all_eq_true.2 (u8s_all1 _)) (by decide) ?_; clear hT; intro ww hT; refine ⟨trivial, ?_⟩))) | (refine is_alloc ?_; (first | (refine T_alloc (d := 12) hN hT (by decide) ?_; clear hT; intro g12 ww hT; refine ⟨trivial, ?_⟩))) | (refine is_slice ?_; (first | (refine T_slcA hN rfl (by first | exact .inr trivial | exact .inl rfl) ?_)))))
            | (refine isC ?_; (first | (refine C_seq ?_) | (refine C_rgn ?_) | (refine C_if hN rfl (fun hb => ?_) (fun hb => ?_) <;> ((first | (exfalso; omega) | (exfalso; exact hb rfl) | (exfalso; exact hb (fun h => h rfl)) | ((with_reducible refine absurd ?_ hb); (repeat' (first | exact trivial | refine And.intro rfl ?_)); done) | (replace hb := Classical.not_not.1 hb) | skip))) | (refine C_ret ?_) | (refine C_exit ?_)))
            | (refine isE ?_; (first | (refine E_ret hN Try.results43 (.cell rfl (run_loadAll (hT.has 4 rfl) (us := u8s (shaP (K5 ++ shaP (K3 ++ ps)))) (by rw [List.drop_zero, List.take_of_length_le (by rw [u8s_length, hs2]; exact Nat.le_refl _)]) (by rw [u8s_length, hs2])) .nil) ?_) | (refine E_thn ?_) | (refine E_thn_exit ?_) | (refine E_blk_hit ?_) | (refine E_lp_exit ?_))))
          all_goals exact ⟨rfl, hT.sel [] rfl⟩
        · have hil : i < K.length := by omega
          have ht3 := map_take_succ (f := (· ^^^ (0x36 : UInt8))) hil
          have ht5 := map_take_succ (f := (· ^^^ (0x5c : UInt8))) hil
          repeat' (first
            | (refine isT ?_; (first | (refine T_assign hN rfl (by first | exact .inr trivial | exact .inl rfl) ?_) | (refine T_move hN rfl (by first | exact .inr trivial | exact .inl rfl) ?_) | (refine T_nil ?_) | (refine is_load ?_; (first | (refine T_load hN rfl (hT.has 2 rfl) (by rw [u8s_get, Nat.zero_add, Nat.mul_one, gb_get hil]; rfl) (by first | exact .inl rfl | exact .inr ⟨by decide, trivial⟩) ?_))) | (refine is_binOp ?_; (first | (refine T_xor (r := ((gb K i ^^^ 0x36 : UInt8).toNat : Int)) hN rfl rfl (b_xor (gb K i) 0x36) (by first | exact .inr trivial | exact .inl rfl) ?_) | (refine T_xor (r := ((gb K i ^^^ 0x5c : UInt8).toNat : Int)) hN rfl rfl (b_xor (gb K i) 0x5c) (by first | exact .inr trivial | exact .inl rfl) ?_) | (refine T_addi64 hN rfl rfl (by omega) (by first | exact .inr trivial | exact .inl rfl) ?_) | (refine T_lss hN rfl rfl (by first | exact .inr trivial | exact .inl rfl) ?_))) | (refine is_call ?_; (first | (refine T_append hN hT 1 (by rfl) (by rfl) rfl rfl rfl (fun h => by cases h) (blk_rdz (sz := 1) (hT.has 0 rfl) rfl rfl) (all1_sing rfl) (by unfold maxLen; omega) (by omega) (by decide) ?_; clear hT; intro x3 c3 ww hT; refine ⟨trivial, ?_⟩; replace hT := hT.drop) | (refine T_append hN hT 2 (by rfl) (by rfl) rfl rfl rfl (fun h => by cases h) (blk_rdz (sz := 1) (hT.has 0 rfl) rfl rfl) (all1_sing rfl) (by unfold maxLen; omega) (by omega) (by decide) ?_; clear hT; intro x5 c5 ww hT; refine ⟨trivial, ?_⟩; replace hT := hT.drop))) | (refine is_buildSlice ?_; (first | (refine T_slice1 hN hT rfl rfl (by decide) ?_; clear hT; intro g ww hT; refine ⟨(by first | exact trivial), ?_⟩))) | (refine is_indexAddr ?_; (first | (refine T_indexAddrA hN rfl rfl (by omega) (by first | exact .inr trivial | exact .inl rfl) ?_)))))
            | (refine isC ?_; (first | (refine C_seq ?_) | (refine C_rgn ?_) | (refine C_if hN rfl (fun hb => ?_) (fun hb => ?_) <;> ((first | (exfalso; omega) | (exfalso; exact hb rfl) | (exfalso; exact hb (fun h => h rfl)) | ((with_reducible refine absurd ?_ hb); (repeat' (first | exact trivial | refine And.intro rfl ?_)); done) | (replace hb := Classical.not_not.1 hb) | skip))) | (refine C_skip ?_) | (refine C_block ?_)))
            | (refine isE ?_; (first | (refine E_thn ?_) | (refine E_blk ?_))))
          all_goals first
            | exact E_mk hN (i + 1, (x3, c3), (x5, c5)) ⟨rfl, rfl, rfl, rfl, rfl, evI rfl (by dsimp only; omega), trivial⟩ ⟨⟨by dsimp only; omega, by dsimp only; rw [ht3, ht5, u8s_append, u8s_append]; exact hT⟩, by dsimp only; omega⟩
            | fail "U"
    · have hx0 := (hT.mrd hm1).addr (by omega)
      obtain ⟨B, off, rfl⟩ := hx0
      repeat' (first
        | (refine isT ?_; (first | (refine T_assign hN rfl (by first | exact .inr trivial | exact .inl rfl) ?_) | (refine T_move hN rfl (by first | exact .inr trivial | exact .inl rfl) ?_) | (refine T_nil ?_) | (refine is_load ?_; (first | (refine T_loadc hN rfl (byte_cell (hT.mrd hm1) (by omega)) (by first | exact .inl rfl | exact .inr ⟨by decide, trivial⟩) ?_))) | (refine is_binOp ?_; (first | (refine T_addi64 hN rfl rfl (by omega) (by first | exact .inr trivial | exact .inl rfl) ?_) | (refine T_lss hN rfl rfl (by first | exact .inr trivial | exact .inl rfl) ?_))) | (refine is_call ?_; (first | (refine T_len hN rfl (by first | exact .inr trivial | exact .inl rfl) ?_))) | (refine is_store ?_; (first | (refine T_store hN hT 0 rfl rfl rfl (kB_hole (by omega) (by omega)) rfl (by decide) ?_; clear hT; intro ww hT; refine ⟨trivial, ?_⟩))) | (refine is_indexAddr ?_; (first | (refine T_indexAddrA hN rfl rfl (by omega) (by first | exact .inr trivial | exact .inl rfl) ?_) | (refine T_indexAddr hN rfl rfl (by omega) (by first | exact .inr trivial | exact .inl rfl) ?_)))))
        | (refine isC ?_; (first | (refine C_seq ?_) | (refine C_rgn ?_) | (refine C_if hN rfl (fun hb => ?_) (fun hb => ?_) <;> ((first | (exfalso; omega) | (exfalso; exact hb rfl) | (exfalso; exact hb (fun h => h rfl)) | ((with_reducible refine absurd ?_ hb); (repeat' (first | exact trivial | refine And.intro rfl ?_)); done) | (replace hb := Classical.not_not.1 hb) | skip))) | (refine C_skip ?_) | (refine C_block ?_)))
        | (refine isE ?_; (first | (refine E_thn ?_) | (refine E_blk ?_))))
      all_goals exact E_mk hN (i + 1) ⟨rfl, rfl, rfl, rfl, evI rfl (by omega), trivial⟩ ⟨⟨by omega, by rw [← kB_set (by omega) (by omega)]; exact hT⟩, by omega⟩
attribute [local irreducible] macP
theorem ref_Tag (x : Option Addr) (n c : Nat) (k : List UInt8) (hkn : k.length = n) (hk : n ≤ 64) (y : Option Addr) (n2 d : Nat) (ps : List UInt8) (hpn : ps.length = n2) (hy : y = none → n2 = 0 ∧ d = 0) (hps : n2 ≤ 900000) (w : World) {m : List Ob} (hm1 : Ob.rd x n 1 (u8s k) ∈ m) (hm2 : Ob.rd y n2 1 (u8s ps) ∈ m) (hT : Tk [] w w [] m) :
    Calls Try.prog 29 #[.slice x n c, .slice y n2 d] w fun e w' => e = .returned (.agg (u8s (tagP k ps)).toArray) ∧ Tk [] w w' [] m := by
  have hl := tagP_len k ps
  have cM := fun ww h => ref_Mac x n c k hkn hk y n2 d ps hpn hy hps ww (m := m) hm1 hm2 h
  have cF := fun ww => ref_Half (macP k ps) (macP_len k ps) ww
  rw [show (macP k ps).take 16 = tagP k ps from rfl] at cF
  generalize tagP k ps = r at *
  refine enter [(0, _), (1, _)] Try.func29 rfl Try.ntmps29 (Nat.le_of_ble_eq_true rfl) rfl ?_; intro a0 hN
  repeat' (first
    | (refine isT ?_; (first | (refine T_move hN rfl (by first | exact .inr trivial | exact .inl rfl) ?_) | (refine T_nil ?_) | (refine is_call ?_; (first | (refine is_call ?_; obtain ⟨hP, hK⟩ := hT.call0m; refine T_call (f := 43) hN rfl (by decide) (cM _ hP) ?_; rintro e ww ⟨rfl, h1⟩; clear hT hP; replace hT := hK _ _ _ h1; clear hK h1; refine ⟨_, rfl, (by first | exact trivial | ((repeat' (first | exact hT.has 0 rfl | exact hT.has 1 rfl | exact hT.has 2 rfl | exact hT.has 3 rfl | exact hT.has 4 rfl | exact hT.has 5 rfl | exact hT.ord 0 rfl | exact hT.ord 1 rfl | exact hT.ord 2 rfl | exact hT.ord 3 rfl | exact hT.ord 4 rfl | exact hT.ord 5 rfl | exact hT.mrd (by assumption) | refine And.intro ?_ ?_)); done)), ?_⟩) | (refine is_call ?_; refine T_call (f := 42) hN rfl (by decide) (cF _) ?_; rintro e ww ⟨rfl, hf⟩; replace hT := hT.same hf; clear hf; refine ⟨_, rfl, (by first | exact trivial | ((repeat' (first | exact hT.has 0 rfl | exact hT.has 1 rfl | exact hT.has 2 rfl | exact hT.has 3 rfl | exact hT.has 4 rfl | exact hT.has 5 rfl | exact hT.ord 0 rfl | exact hT.ord 1 rfl | exact hT.ord 2 rfl | exact hT.ord 3 rfl | exact hT.ord 4 rfl | exact hT.ord 5 rfl | exact hT.mrd (by assumption) | refine And.intro ?_ ?_)); done)), ?_⟩))) | (refine is_store ?_; (first | (refine T_storeAll hN hT 0 (us := u8s r) rfl rfl rfl (by rw [u8s_length, hl]; rfl) rfl (List.all_eq_true.2 (u8s_all1 r)) (by decide) ?_; clear hT; intro ww hT; refine ⟨trivial, ?_⟩))) | (refine is_alloc ?_; (first | (refine T_alloc hN hT (by decide) ?_; clear hT; intro g ww hT; refine ⟨(by first | exact trivial), ?_⟩)))))
    | (refine isC ?_; (first | (refine C_seq ?_) | (refine C_rgnk (id := 0) hN [(0, _), (1, _)] ⟨rfl, rfl, trivial⟩ ?_; clear hN; intro a0 hN) | (refine C_rgnk (id := 1) hN [(0, _), (1, _), (4, _)] ⟨rfl, rfl, rfl, trivial⟩ ?_; clear hN; intro a0 hN) | (refine C_ret ?_)))
    | (refine isE ?_; (first | (refine E_ret hN Try.results29 (.cell rfl (run_loadAll (hT.has 0 rfl) (us := u8s r) (by rw [List.drop_zero, List.take_of_length_le (by rw [u8s_length, hl]; exact Nat.le_refl _)]) (by rw [u8s_length, hl])) .nil) ?_) | (refine E_thn ?_))))
  all_goals exact ⟨rfl, hT.sel [] rfl⟩
end Go.Proofs.Ytemhcflaldeakaa
