/- BODIES: plainly, in memory; the WALKS of both Bodies. -/
import Derived.Test.YteikjachfafadaaPB13
namespace Go.Fp
open Go Go.RowKit
/-- What was built of parts may grow. -/
theorem Ent.blk_own {g e n sz : Nat} {vs : List Value} (hl : vs.length = n * sz) (hn : n ≤ maxLen) : Ob.Ent (Ob.blk g e vs) (Ob.own e sz (.slice (some ⟨g, 0, none⟩) n n) n vs) := by
  rintro f w ⟨rfl, h⟩
  exact ⟨[g], ⟨rfl, hl, .inr ⟨g, n, vs.toArray, rfl, Nat.zero_le _, h, Nat.le_refl _, hn, by simpa using hl, by rw [List.take_of_length_le (by simp; omega)]⟩⟩, fun _ hk => hk⟩
theorem own_le {w : World} {e : TypeId} {sz n c : Nat} {x : Option Addr} {xs : List Value} (h : w.ownsRow 0 e sz (.slice x n c) n xs) : n ≤ c := by
  rcases h.2 with ⟨h1, h2⟩ | ⟨g, cap, cur, h0, _, _, h3, _⟩
  · cases h1; omega
  · cases h0; exact h3
theorem Tk.blkOwn {S : List Nat} {w0 w : World} {l m : List Ob} {g e n sz : Nat} {vs : List Value} (h : Tk S w0 w (Ob.blk g e vs :: l) m) (hl : vs.length = n * sz) (hn : n ≤ maxLen) : Tk S w0 w (Ob.own e sz (.slice (some ⟨g, 0, none⟩) n n) n vs :: l) m :=
  h.ent (Ob.Ent.sep (Ent.blk_own hl hn) (Ob.Ent.refl _))
end Go.Fp
namespace Go.Proofs.Yteikjachfafadaa
open Go.RowKit Go.Fp
attribute [local irreducible] Go.Calls
set_option maxRecDepth 100000
set_option maxHeartbeats 8000000
theorem pr_load2 {w : World} {B off n : Nat} {ps : List Pr} (h : Rdz w (some ⟨B, off, none⟩) n 4 (ps.map Pr.cells).flatten) {j : Nat} {r : Pr} (hj : ps[j]? = some r) (i : Nat) (v : Value) (hv : r.cells[i]? = some v) : w.cell? ⟨B, off + j * 4 + i, none⟩ = some v :=
  h.row (prs_len ps) (by rw [List.getElem?_map, hj]; rfl) i v hv
theorem Tk.mnilO {S : List Nat} {w0 w : World} {l m : List Ob} (h : Tk S w0 w l m) {r : Pr} (ho : r.ob ∈ m) : r.x = none → r.p.part.length = 0 ∧ r.c = 0 := by
  obtain ⟨i, hi⟩ := List.getElem?_of_mem ho
  obtain ⟨f, _, h⟩ := h.ro i hi
  exact own_nil h
/-- A body as it lies in memory. -/
structure Bd where
  k : Int
  x : Option Addr
  c : Nat
  bs : List UInt8
def Bd.cells (b : Bd) : List Value := [.int .i64 b.k, .slice b.x b.bs.length b.c]
def Bd.kv (b : Bd) : Int × List UInt8 := (b.k, b.bs)
def Bd.rd (b : Bd) : Ob := Ob.rd b.x b.bs.length 1 (u8s b.bs)
def Bd.ob (b : Bd) : Ob := Ob.own 5 1 (.slice b.x b.bs.length b.c) b.bs.length (u8s b.bs)
theorem split_get {id sz k j : Nat} {bs : List UInt8} (h : j < k) : (splitP id bs sz k)[j]? = some ⟨id, (j : Nat), (manyP bs.length sz : Nat), cutP bs sz j⟩ := by simp [splitP, h]
theorem bds_len (bs : List Bd) : ∀ l, l ∈ bs.map Bd.cells → l.length = 2 := fun l hl => by obtain ⟨r, _, rfl⟩ := List.mem_map.1 hl; rfl
theorem bd_load {w : World} {B off n : Nat} {ps : List Bd} (h : Rdz w (some ⟨B, off, none⟩) n 2 (ps.map Bd.cells).flatten) {j : Nat} {r : Bd} (hj : ps[j]? = some r) (i : Nat) (v : Value) (hv : r.cells[i]? = some v) : w.cell? ⟨B, off + j * 2 + i, none⟩ = some v :=
  h.row (bds_len ps) (by rw [List.getElem?_map, hj]; rfl) i v hv
theorem bd_one (a : Int) (x : Option Addr) (n k : Nat) : Value.all1 [.int .i64 a, .slice x n k] := fun u hu => by
  simp only [List.mem_cons, List.not_mem_nil, or_false] at hu; rcases hu with rfl | rfl <;> rfl
def pcB (p : Pc) : List UInt8 := (putO p.id p.at_.toNat p.many.toNat p.part).1
/-- What a body comes to. -/
def bodsP (id : Nat) (al : List UInt8) (sz : Nat) : List (Int × List UInt8) := (splitP id al sz (manyP al.length sz)).map fun p => (4, pcB p)
def BdPost (T : Nat) (w : World) (m : List Ob) (ls : List (Int × List UInt8)) (E : Int) (e : Ending) (w' : World) : Prop :=
  ∃ (x' : Option Addr) (c' : Nat) (bds : List Bd) (os : List Ob), e = .returned (.tuple #[.slice x' bds.length c', .int .i64 E]) ∧ bds.map Bd.kv = ls ∧ Tk [] w w' [Ob.own T 2 (.slice x' bds.length c') bds.length (bds.map Bd.cells).flatten, Ob.all os] m ∧ ∀ b, b ∈ bds → ∃ o, o ∈ os ++ m ∧ Ob.Ent o b.rd
theorem cutP_le (bs : List UInt8) (sz j : Nat) : (cutP bs sz j).length ≤ sz := by unfold cutP; rw [List.length_take]; omega
section
variable (id : Nat) (kb : UInt8) (hkb : 1 ≤ kb.toNat ∧ kb.toNat ≤ 3) (x : Option Addr) (c : Nat) (bs : List UInt8) (hx : x = none → bs.length = 0 ∧ c = 0) (w : World) {m : List Ob} (hT : Tk [] w w [] (Ob.rd x bs.length 1 (u8s bs) :: m))
include hkb hx hT
theorem bld_short (most : Int) (hm : 16 ≤ most ∧ most ≤ 4096) (hs : (bs.length : Int) ≤ most) : Calls Try.prog 7 #[.int .i64 (kb.toNat : Nat), .int .u32 id, .slice x bs.length c, .int .i64 most] w (BdPost 33 w (Ob.rd x bs.length 1 (u8s bs) :: m) [((kb.toNat : Nat), bs)] 0) := by
  refine enter [(0, _), (1, _), (2, _), (3, _)] Try.func7 rfl Try.ntmps7 (Nat.le_of_ble_eq_true rfl) rfl ?_; intro a0 hN
  repeat' (first
    | (refine isT ?_; (first | (refine isGuard ?_; (first | (refine T_yes hN rfl rfl rfl ?_) | (refine T_guardD hN rfl rfl rfl (fun hb => ?_) (fun hb => ?_) <;> ((first | (exfalso; omega) | (exfalso; exact hb rfl) | (exfalso; exact hb (fun h => h rfl)) | ((with_reducible refine absurd ?_ hb); (repeat' (first | exact trivial | refine And.intro rfl ?_)); done) | (replace hb := Classical.not_not.1 hb) | skip))))) | (refine T_assign hN rfl (by first | exact .inr trivial | exact .inl rfl) ?_) | (refine T_move hN rfl (by first | exact .inr trivial | exact .inl rfl) ?_) | (refine T_nil ?_) | (refine is_binOp ?_; (first | (refine T_gtr hN rfl rfl (by first | exact .inr trivial | exact .inl rfl) ?_) | (refine T_leq hN rfl rfl (by first | exact .inr trivial | exact .inl rfl) ?_) | (refine T_lss hN rfl rfl (by first | exact .inr trivial | exact .inl rfl) ?_))) | (refine is_pick ?_; (first | (refine T_pick0 hN rfl rfl (by first | exact .inr trivial | exact .inl rfl) ?_))) | (refine is_call ?_; (first | (refine T_append hN hT 0 (by rfl) (by rfl) rfl rfl rfl hx (hT.rrd 0 rfl) (u8s_all1 bs) (by unfold maxLen; omega) (by omega) (by decide) ?_; clear hT; intro x1 c1 ww hT; refine ⟨trivial, ?_⟩; simp only [Nat.zero_add, List.nil_append] at hT ⊢) | (refine T_len hN rfl (by first | exact .inr trivial | exact .inl rfl) ?_))) | (refine is_buildSlice ?_; (first | (refine T_slicen (n := 2) hN hT (us := [_, _]) (by rfl) (by rfl) (by rfl) (by rfl) rfl (by decide) ?_; clear hT; intro g ww hT; refine ⟨trivial, ?_⟩) | (refine T_slice0 hN hT (by decide) ?_; clear hT; intro g ww hT; refine ⟨(by first | exact trivial), ?_⟩))) | (refine is_build ?_; (first | (refine T_build (t := 33) (us := [_, _]) hN rfl rfl (by first | exact .inr trivial | exact .inl rfl) ?_)))))
    | (refine isC ?_; (first | (refine C_seq ?_) | (refine C_rgnk (id := 0) hN [(0, _), (1, _), (2, _), (3, _)] ⟨rfl, rfl, rfl, rfl, trivial⟩ ?_; clear hN; intro a0 hN) | (refine C_rgnk (id := 1) hN [(0, _), (1, _), (2, _), (3, _), (8, _), (9, _)] ⟨rfl, rfl, rfl, rfl, rfl, rfl, trivial⟩ ?_; clear hN; intro a0 hN) | (refine C_rgnk (id := 3) hN [(0, _), (1, _), (2, _), (3, _), (8, _), (9, _), (30, _)] ⟨rfl, rfl, rfl, rfl, rfl, rfl, rfl, trivial⟩ ?_; clear hN; intro a0 hN) | (refine C_rgnk (id := 4) hN [(0, _), (1, _), (2, _), (3, _), (8, _), (9, _), (30, _), (34, _)] ⟨rfl, rfl, rfl, rfl, rfl, rfl, rfl, rfl, trivial⟩ ?_; clear hN; intro a0 hN) | (refine C_if hN rfl (fun hb => ?_) (fun hb => ?_) <;> ((first | (exfalso; omega) | (exfalso; exact hb rfl) | (exfalso; exact hb (fun h => h rfl)) | ((with_reducible refine absurd ?_ hb); (repeat' (first | exact trivial | refine And.intro rfl ?_)); done) | (replace hb := Classical.not_not.1 hb) | skip))) | (refine C_skip ?_) | (refine C_ret ?_)))
    | (refine isE ?_; (first | (refine E_thn ?_) | (refine E_thn_ret ?_) | (refine E_ret hN Try.results7 (.tmp rfl (.tmp rfl .nil)) ?_))))
  all_goals
    have h1 := (((hT.blkOwn (sz := 2) (n := 1) rfl (by decide)).swap.nilAll).swap.snocAll).swap
    exact ⟨some ⟨g, 0, none⟩, 1, [⟨(kb.toNat : Nat), x1, c1, bs⟩], [Ob.own 5 1 (.slice x1 bs.length c1) bs.length (u8s bs)], rfl, rfl, h1, fun b hb => by
      rw [List.mem_singleton] at hb; subst hb
      exact ⟨_, List.mem_append_left _ (List.mem_singleton.2 rfl), Ent.own_rd _ _ _ _ _ _⟩⟩
end
section
variable (id : Nat) (kb : UInt8) (hkb : 1 ≤ kb.toNat ∧ kb.toNat ≤ 3) (x : Option Addr) (c : Nat) (bs : List UInt8) (w : World) {m : List Ob} (hT : Tk [] w w [] (Ob.rd x bs.length 1 (u8s bs) :: m))
include hkb hT
theorem ref_short (most : Int) (hm : 16 ≤ most ∧ most ≤ 4096) (hs : (bs.length : Int) ≤ most) : Calls Try.prog 8 #[.int .i64 (kb.toNat : Nat), .int .u32 id, .slice x bs.length c, .int .i64 most] w (BdPost 34 w (Ob.rd x bs.length 1 (u8s bs) :: m) [((kb.toNat : Nat), bs)] 0) := by
  refine enter [(0, _), (1, _), (2, _), (3, _)] Try.func8 rfl Try.ntmps8 (Nat.le_of_ble_eq_true rfl) rfl ?_; intro a0 hN
  repeat' (first
    | (refine isT ?_; (first | (refine isGuard ?_; (first | (refine T_yes hN rfl rfl rfl ?_) | (refine T_guardD hN rfl rfl rfl (fun hb => ?_) (fun hb => ?_) <;> ((first | (exfalso; omega) | (exfalso; exact hb rfl) | (exfalso; exact hb (fun h => h rfl)) | ((with_reducible refine absurd ?_ hb); (repeat' (first | exact trivial | refine And.intro rfl ?_)); done) | (replace hb := Classical.not_not.1 hb) | skip))))) | (refine T_assign hN rfl (by first | exact .inr trivial | exact .inl rfl) ?_) | (refine T_move hN rfl (by first | exact .inr trivial | exact .inl rfl) ?_) | (refine T_nil ?_) | (refine is_binOp ?_; (first | (refine T_gtr hN rfl rfl (by first | exact .inr trivial | exact .inl rfl) ?_) | (refine T_leq hN rfl rfl (by first | exact .inr trivial | exact .inl rfl) ?_) | (refine T_lss hN rfl rfl (by first | exact .inr trivial | exact .inl rfl) ?_))) | (refine is_pick ?_; (first | (refine T_pick0 hN rfl rfl (by first | exact .inr trivial | exact .inl rfl) ?_))) | (refine is_call ?_; (first | (refine T_len hN rfl (by first | exact .inr trivial | exact .inl rfl) ?_))) | (refine is_buildSlice ?_; (first | (refine T_slicen (n := 2) hN hT (us := [_, _]) (by rfl) (by rfl) (by rfl) (by rfl) rfl (by decide) ?_; clear hT; intro g ww hT; refine ⟨trivial, ?_⟩))) | (refine is_build ?_; (first | (refine T_build (t := 34) (us := [_, _]) hN rfl rfl (by first | exact .inr trivial | exact .inl rfl) ?_)))))
    | (refine isC ?_; (first | (refine C_seq ?_) | (refine C_rgnk (id := 0) hN [(0, _), (1, _), (2, _), (3, _)] ⟨rfl, rfl, rfl, rfl, trivial⟩ ?_; clear hN; intro a0 hN) | (refine C_rgnk (id := 1) hN [(0, _), (1, _), (2, _), (3, _), (8, _), (9, _)] ⟨rfl, rfl, rfl, rfl, rfl, rfl, trivial⟩ ?_; clear hN; intro a0 hN) | (refine C_rgnk (id := 3) hN [(0, _), (1, _), (2, _), (3, _), (8, _), (9, _), (30, _)] ⟨rfl, rfl, rfl, rfl, rfl, rfl, rfl, trivial⟩ ?_; clear hN; intro a0 hN) | (refine C_rgnk (id := 4) hN [(0, _), (1, _), (2, _), (3, _), (8, _), (9, _), (30, _), (34, _)] ⟨rfl, rfl, rfl, rfl, rfl, rfl, rfl, rfl, trivial⟩ ?_; clear hN; intro a0 hN) | (refine C_if hN rfl (fun hb => ?_) (fun hb => ?_) <;> ((first | (exfalso; omega) | (exfalso; exact hb rfl) | (exfalso; exact hb (fun h => h rfl)) | ((with_reducible refine absurd ?_ hb); (repeat' (first | exact trivial | refine And.intro rfl ?_)); done) | (replace hb := Classical.not_not.1 hb) | skip))) | (refine C_skip ?_) | (refine C_ret ?_)))
    | (refine isE ?_; (first | (refine E_thn ?_) | (refine E_thn_ret ?_) | (refine E_ret hN Try.results8 (.tmp rfl (.tmp rfl .nil)) ?_))))
  all_goals
    have h1 := ((hT.blkOwn (sz := 2) (n := 1) rfl (by decide)).nilAll).swap
    exact ⟨some ⟨g, 0, none⟩, 1, [⟨(kb.toNat : Nat), x, c, bs⟩], [], rfl, rfl, h1, fun b hb => by
      rw [List.mem_singleton] at hb; subst hb
      exact ⟨_, List.mem_append_right _ (List.mem_cons_self ..), Ob.Ent.refl _⟩⟩
end
section
variable (id : Nat) (hid : id < 4294967296) (kb : UInt8) (hkb : 1 ≤ kb.toNat ∧ kb.toNat ≤ 3) (x : Option Addr) (c : Nat) (bs : List UInt8) (hx : x = none → bs.length = 0 ∧ c = 0) (w : World) {m : List Ob} (hT : Tk [] w w [] (Ob.rd x bs.length 1 (u8s bs) :: m))
include hid hkb hx hT
theorem bld_cut (sz : Nat) (hsz : 8 ≤ sz ∧ sz ≤ 4088) (hs : sz + 8 < bs.length) (hb : (kb :: bs).length ≤ 16384) (hl : (kb :: bs).length ≤ sz * 32) (most : Int) (hm : most = (sz : Int) + 8) : Calls Try.prog 7 #[.int .i64 (kb.toNat : Nat), .int .u32 id, .slice x bs.length c, .int .i64 most] w (BdPost 33 w (Ob.rd x bs.length 1 (u8s bs) :: m) (bodsP id (kb :: bs) sz) 0) := by
  have hsub : IntKind.i64.wrap (most - 8) = (sz : Int) := by rw [hm]; refine (Go.IntWalk.i64_in _ (by omega)).trans (by omega)
  have hbl : bs.length + 1 ≤ 16384 := by simpa using hb
  have hu8 : u8s (kb :: bs) = [Value.int .u8 (kb.toNat : Nat)] ++ u8s bs := rfl
  have hcl : (kb :: bs).length = 1 + bs.length := by simp; omega
  have cS := fun (x1 : Option Addr) (c1 : Nat) (h1 : (x1 = none → (kb :: bs).length = 0 ∧ c1 = 0) ∧ (kb :: bs).length ≤ c1) ww h => pce_Split id x1 c1 (kb :: bs) h1.1 h1.2 sz (by omega) hb hl ww (m := []) h
  have hM1 := manyP_le (n := (kb :: bs).length) (sz := sz) (by omega) hl
  have hcut := cutP_le (kb :: bs) sz
  unfold bodsP
  generalize hMe : manyP (kb :: bs).length sz = M at *
  rw [hcl] at cS
  generalize hal : kb :: bs = al at *
  have hkl := kb.toNat_lt
  refine enter [(0, _), (1, _), (2, _), (3, _)] Try.func7 rfl Try.ntmps7 (Nat.le_of_ble_eq_true rfl) rfl ?_; intro a0 hN
  repeat' (first
    | (refine isT ?_; (first | (refine isGuard ?_; (first | (refine T_yes hN rfl rfl rfl ?_) | (refine T_guardD hN rfl rfl rfl (fun hb => ?_) (fun hb => ?_) <;> ((first | (exfalso; omega) | (exfalso; exact hb rfl) | (exfalso; exact hb (fun h => h rfl)) | ((with_reducible refine absurd ?_ hb); (repeat' (first | exact trivial | refine And.intro rfl ?_)); done) | (replace hb := Classical.not_not.1 hb) | skip))))) | (refine T_assign hN rfl (by first | exact .inr trivial | exact .inl rfl) ?_) | (refine T_extract hN rfl rfl (by first | exact .inr trivial | exact .inl rfl) ?_) | (refine T_move hN rfl (by first | exact .inr trivial | exact .inl rfl) ?_) | (refine T_nil ?_) | (refine is_binOp ?_; (first | (refine T_sub (r := (sz : Int)) hN rfl rfl hsub (by first | exact .inr trivial | exact .inl rfl) ?_) | (refine T_gtr hN rfl rfl (by first | exact .inr trivial | exact .inl rfl) ?_) | (refine T_leq hN rfl rfl (by first | exact .inr trivial | exact .inl rfl) ?_) | (refine T_lss hN rfl rfl (by first | exact .inr trivial | exact .inl rfl) ?_) | (refine T_neq hN rfl rfl (by first | exact .inr trivial | exact .inl rfl) ?_))) | (refine is_pick ?_; (first | (refine T_pick0 hN rfl rfl (by first | exact .inr trivial | exact .inl rfl) ?_))) | (refine is_call ?_; (first | (refine T_append hN hT 0 (by rfl) (by rfl) rfl rfl rfl hx (hT.rrd 0 rfl) (u8s_all1 bs) (by unfold maxLen; omega) (by omega) (by decide) ?_; clear hT; intro x1 c1 ww hT; refine ⟨trivial, ?_⟩; simp only [List.set_cons_zero] at hT; rw [← hu8] at hT) | (refine is_call ?_; obtain ⟨hP, hK⟩ := hT.call0 [Ob.rd x1 (1 + bs.length) 1 (u8s al)] (fun o' ho => by rw [List.mem_singleton] at ho; subst ho; exact ⟨_, List.mem_append_left _ (List.mem_of_getElem? (i := 0) rfl), Ent.own_rd _ _ _ _ _ _⟩); refine T_call (f := 19) hN rfl (by decide) (cS x1 c1 ⟨own_nil (hT.owns 0 rfl), own_le (hT.owns 0 rfl)⟩ _ hP) ?_; rintro e ww ⟨x2, c2, ps, rfl, hp1, hp2, h1⟩; clear hT hP; replace hT := hK _ _ _ h1; clear hK h1; refine ⟨_, rfl, (by first | exact trivial | ((repeat' (first | exact hT.has 0 rfl | exact hT.has 1 rfl | exact hT.has 2 rfl | exact hT.has 3 rfl | exact hT.has 4 rfl | exact hT.has 5 rfl | exact hT.ord 0 rfl | exact hT.ord 1 rfl | exact hT.ord 2 rfl | exact hT.ord 3 rfl | exact hT.ord 4 rfl | exact hT.ord 5 rfl | exact hT.mrd (by assumption) | refine And.intro ?_ ?_)); done)), ?_⟩) | (refine T_len hN rfl (by first | exact .inr trivial | exact .inl rfl) ?_))) | (refine is_buildSlice ?_; (first | (refine T_slice1 hN hT rfl rfl (by decide) ?_; clear hT; intro g ww hT; refine ⟨trivial, ?_⟩; replace hT := hT.blkOwn (sz := 1) (n := 1) rfl (by decide)))) | (refine is_convert ?_; (first | (refine T_conv (r := ?_) hN rfl ?_ (by first | exact .inr trivial | exact .inl rfl) ?_; rotate_left; (focus (first | (refine Eq.trans (Go.IntWalk.i64_in _ (by omega)) ?_; (first | (simp only [Int.reduceAdd, Int.reduceSub, Int.reduceMul, Int.reduceNeg, Int.reduceDiv, Int.reduceMod]; rfl) | rfl)) | (refine Eq.trans (Go.IntWalk.u64_in _ (by omega)) ?_; (first | (simp only [Int.reduceAdd, Int.reduceSub, Int.reduceMul, Int.reduceNeg, Int.reduceDiv, Int.reduceMod]; rfl) | rfl)) | (refine Go.IntWalk.u32_in _ ?_; omega) | (refine Go.IntWalk.u8_in _ ?_; omega) | exact rfl)))))))
    | (refine isC ?_; (first | (refine C_seq ?_) | (refine C_rgnk (id := 0) hN [(0, _), (1, _), (2, _), (3, _)] ⟨rfl, rfl, rfl, rfl, trivial⟩ ?_; clear hN; intro a0 hN) | (refine C_rgnk (id := 1) hN [(0, _), (1, _), (2, _), (3, _), (8, _), (9, _)] ⟨rfl, rfl, rfl, rfl, rfl, rfl, trivial⟩ ?_; clear hN; intro a0 hN) | (refine C_rgnk (id := 3) hN [(0, _), (1, _), (2, _), (3, _), (8, _), (9, _), (30, _)] ⟨rfl, rfl, rfl, rfl, rfl, rfl, rfl, trivial⟩ ?_; clear hN; intro a0 hN) | (refine C_rgnk (id := 5) hN [(0, _), (1, _), (2, _), (3, _), (8, _), (9, _), (30, _), (34, _)] ⟨rfl, rfl, rfl, rfl, rfl, rfl, rfl, rfl, trivial⟩ ?_; clear hN; intro a0 hN) | (refine C_rgnk (id := 6) hN [(0, _), (1, _), (2, _), (3, _), (8, _), (9, _), (10, _), (11, _), (30, _), (34, _)] ⟨rfl, rfl, rfl, rfl, rfl, rfl, rfl, rfl, rfl, rfl, trivial⟩ ?_; clear hN; intro a0 hN) | (refine C_rgnk (id := 8) hN [(0, _), (1, _), (2, _), (3, _), (8, _), (9, _), (10, _), (11, _), (30, _), (34, _), (54, _)] ⟨rfl, rfl, rfl, rfl, rfl, rfl, rfl, rfl, rfl, rfl, rfl, trivial⟩ ?_; clear hN; intro a0 hN) | (refine C_rgnk (id := 9) hN [(0, _), (1, _), (2, _), (3, _), (8, _), (9, _), (10, _), (11, _), (12, _), (30, _), (34, _), (54, _)] ⟨rfl, rfl, rfl, rfl, rfl, rfl, rfl, rfl, rfl, rfl, rfl, rfl, trivial⟩ ?_; clear hN; intro a0 hN) | (refine C_if hN rfl (fun hb => ?_) (fun hb => ?_) <;> ((first | (exfalso; omega) | (exfalso; exact hb rfl) | (exfalso; exact hb (fun h => h rfl)) | ((with_reducible refine absurd ?_ hb); (repeat' (first | exact trivial | refine And.intro rfl ?_)); done) | (replace hb := Classical.not_not.1 hb) | skip))) | (refine C_skip ?_) | (refine C_block ?_)))
    | (refine isE ?_; (first | (refine E_thn ?_))))
  all_goals
    have hT2 : Tk [] w ww [Ob.own 70 4 (.slice x2 M c2) M (ps.map Pr.cells).flatten] (ps.map Pr.ob ++ (Ob.rd x bs.length 1 (u8s bs) :: m)) := hT.swap.freezeAll.sel [0] rfl
    clear hT
    refine C_loop hN (X := Nat × List Bd × Option Addr × Nat) (fun y => [(12, .slice y.2.2.1 y.1 y.2.2.2), (56, .slice x2 M c2), (57, .int .i64 M), (58, .int .i64 y.1)])
      (fun y w1 => y.1 ≤ M ∧ y.2.1.length = y.1 ∧ y.2.1.map Bd.kv = (splitP id al sz y.1).map (fun p => (4, pcB p)) ∧ Tk [] w w1 [Ob.own 33 2 (.slice y.2.2.1 y.1 y.2.2.2) y.1 (y.2.1.map Bd.cells).flatten, Ob.all (y.2.1.map Bd.ob), Ob.own 70 4 (.slice x2 M c2) M (ps.map Pr.cells).flatten] (ps.map Pr.ob ++ (Ob.rd x bs.length 1 (u8s bs) :: m))) (fun y => M - y.1) (0, [], none, 0) ⟨rfl, rfl, rfl, rfl, trivial⟩ ⟨Nat.zero_le _, rfl, rfl, hT2.nilAll.addnil 33 2⟩ ?_
    clear hN hT2
    rintro ⟨j, bds, x9, c9⟩ a0 ww hN ⟨hj, hjl, hjk, hT⟩
    dsimp only at hj hjl hjk hT ⊢
    by_cases hj0 : j = M
    · subst hj0
      repeat' (first
        | (refine isT ?_; (first | (refine T_assign hN rfl (by first | exact .inr trivial | exact .inl rfl) ?_) | (refine T_move hN rfl (by first | exact .inr trivial | exact .inl rfl) ?_) | (refine T_nil ?_) | (refine is_binOp ?_; (first | (refine T_lss hN rfl rfl (by first | exact .inr trivial | exact .inl rfl) ?_)))))
        | (refine isC ?_; (first | (refine C_seq ?_) | (refine C_rgn ?_) | (refine C_if hN rfl (fun hb => ?_) (fun hb => ?_) <;> ((first | (exfalso; omega) | (exfalso; exact hb rfl) | (exfalso; exact hb (fun h => h rfl)) | ((with_reducible refine absurd ?_ hb); (repeat' (first | exact trivial | refine And.intro rfl ?_)); done) | (replace hb := Classical.not_not.1 hb) | skip))) | (refine C_ret ?_) | (refine C_exit ?_)))
        | (refine isE ?_; (first | (refine E_thn ?_) | (refine E_thn_exit ?_) | (refine E_blk_hit ?_) | (refine E_lp_exit ?_) | (refine E_ret hN Try.results7 (.tmp rfl (.tmp rfl .nil)) ?_))))
      all_goals
        subst hjl
        have h8 := (hT.meq (m' := Ob.rd x bs.length 1 (u8s bs) :: m) fun o ho => ⟨o, List.mem_append_right _ ho, Ob.Ent.refl _⟩).sel [0, 0] rfl
        exact ⟨x9, c9, bds, bds.map Bd.ob, rfl, hjk, h8, fun b hb => ⟨b.ob, List.mem_append_left _ (List.mem_map.2 ⟨b, hb, rfl⟩), Ent.own_rd _ _ _ _ _ _⟩⟩
    · obtain ⟨B, rfl⟩ := hT.own_addr 2 rfl (by omega)
      obtain ⟨r, hr⟩ : ∃ r, ps[j]? = some r := ⟨_, List.getElem?_eq_getElem (by omega)⟩
      have hrm : r.ob ∈ ps.map Pr.ob ++ (Ob.rd x bs.length 1 (u8s bs) :: m) := List.mem_append_left _ (List.mem_map.2 ⟨r, List.mem_of_getElem? hr, rfl⟩)
      have hrn := Tk.mnilO hT hrm
      have hpe : r.p = ⟨id, (j : Nat), (M : Nat), cutP al sz j⟩ := by
        have e1 : (ps.map Pr.p)[j]? = some r.p := by rw [List.getElem?_map, hr]; rfl
        rw [hp2, split_get (by omega), hMe] at e1
        exact (Option.some.inj e1).symm
      have hcj := hcut j
      have hsj : splitP id al sz (j + 1) = splitP id al sz j ++ [⟨id, (j : Nat), (M : Nat), cutP al sz j⟩] := by rw [splitP_succ, hMe]
      generalize cutP al sz j = cut at *
      have hright : rightP ⟨id, (j : Nat), (M : Nat), cut⟩ := ⟨by dsimp only; omega, by dsimp only; omega, by dsimp only; omega, by dsimp only; omega, by dsimp only; omega⟩
      have hpl := putO_eq (id := id) (a := j) (k := M) (part := cut) hid (by omega) (by omega) (by omega)
      have hpcb : pcB ⟨id, (j : Nat), (M : Nat), cut⟩ = (putO id j M cut).1 := rfl
      have hpl2 : (putO id j M cut).1.length ≤ 5000 := by rw [hpl]; simp [be_length]; omega
      obtain ⟨rp, px, pc⟩ := r
      dsimp only at hpe hrn
      subst hpe
      have hc : ∀ {w : World}, Rdz w (some ⟨B, 0, none⟩) M 4 (ps.map Pr.cells).flatten → ∀ (i : Nat) (v : Value), (Pr.cells ⟨⟨id, (j : Nat), (M : Nat), cut⟩, px, pc⟩)[i]? = some v → w.cell? ⟨B, 0 + j * 4 + i, none⟩ = some v := fun h => pr_load2 h hr
      have cP := fun ww h => pce_Put id j M cut px pc hrn hid hright ww (m := []) h
      generalize (putO id j M cut).1 = ys at *
      clear hpl
      repeat' (first
        | (refine isT ?_; (first | (refine T_assign hN rfl (by first | exact .inr trivial | exact .inl rfl) ?_) | (refine T_extract hN rfl rfl (by first | exact .inr trivial | exact .inl rfl) ?_) | (refine T_move hN rfl (by first | exact .inr trivial | exact .inl rfl) ?_) | (refine T_nil ?_) | (refine is_load ?_; (first | (refine T_loadnc hN rfl (us := [.int .u32 id, .int .i64 j, .int .i64 M, .slice px cut.length pc]) rfl (hc (hT.ord 2 rfl)) (by first | exact .inl rfl | exact .inr ⟨by decide, trivial⟩) ?_) | (refine T_loadn (t := 70) (us := [_, _, _, _]) hN rfl (hT.has 0 rfl) rfl rfl (by first | exact .inl rfl | exact .inr ⟨by decide, trivial⟩) ?_))) | (refine is_binOp ?_; (first | (refine T_addi64 hN rfl rfl (by omega) (by first | exact .inr trivial | exact .inl rfl) ?_) | (refine T_lss hN rfl rfl (by first | exact .inr trivial | exact .inl rfl) ?_))) | (refine is_call ?_; (first | (refine is_call ?_; obtain ⟨hP, hK⟩ := hT.call0 [Ob.rd px cut.length 1 (u8s cut)] (fun o' ho => by rw [List.mem_singleton] at ho; subst ho; exact ⟨_, List.mem_append_right _ hrm, Ent.own_rd _ _ _ _ _ _⟩); refine T_call (f := 20) hN rfl (by decide) (cP _ hP) ?_; rintro e ww ⟨x3, c3, rfl, h1⟩; clear hT hP; replace hT := hK _ _ _ h1; clear hK h1; refine ⟨_, rfl, (by first | exact trivial | ((repeat' (first | exact hT.has 0 rfl | exact hT.has 1 rfl | exact hT.has 2 rfl | exact hT.has 3 rfl | exact hT.has 4 rfl | exact hT.has 5 rfl | exact hT.ord 0 rfl | exact hT.ord 1 rfl | exact hT.ord 2 rfl | exact hT.ord 3 rfl | exact hT.ord 4 rfl | exact hT.ord 5 rfl | exact hT.mrd (by assumption) | refine And.intro ?_ ?_)); done)), ?_⟩) | (refine T_append hN hT 3 (by rfl) (by rfl) rfl rfl rfl (fun h => by cases h) (blk_rdz (sz := 2) (hT.has 0 rfl) rfl rfl) (bd_one _ _ _ _) (by unfold maxLen; omega) (by omega) (by decide) ?_; clear hT; intro x4 c4 ww hT; refine ⟨trivial, ?_⟩))) | (refine is_store ?_; (first | (refine T_storen hN hT 0 rfl rfl rfl rfl rfl rfl (by decide) ?_; clear hT; intro ww hT; refine ⟨(by first | exact trivial), ?_⟩))) | (refine is_buildSlice ?_; (first | (refine T_slicen (n := 2) hN hT (us := [_, _]) (by rfl) (by rfl) (by rfl) (by rfl) rfl (by decide) ?_; clear hT; intro g ww hT; refine ⟨trivial, ?_⟩))) | (refine is_alloc ?_; (first | (refine T_alloc hN hT (by decide) ?_; clear hT; intro g ww hT; refine ⟨(by first | exact trivial), ?_⟩))) | (refine is_build ?_; (first | (refine T_build (t := 33) (us := [_, _]) hN rfl rfl (by first | exact .inr trivial | exact .inl rfl) ?_))) | (refine is_indexAddr ?_; (first | (refine T_indexAddr hN rfl rfl (by omega) (by first | exact .inr trivial | exact .inl rfl) ?_)))))
        | (refine isC ?_; (first | (refine C_seq ?_) | (refine C_rgn ?_) | (refine C_if hN rfl (fun hb => ?_) (fun hb => ?_) <;> ((first | (exfalso; omega) | (exfalso; exact hb rfl) | (exfalso; exact hb (fun h => h rfl)) | ((with_reducible refine absurd ?_ hb); (repeat' (first | exact trivial | refine And.intro rfl ?_)); done) | (replace hb := Classical.not_not.1 hb) | skip))) | (refine C_skip ?_) | (refine C_block ?_)))
        | (refine isE ?_; (first | (refine E_thn ?_) | (refine E_blk ?_))))
      all_goals
        have h8 := hT.sel [1, 3, 2, 2] rfl
        have h9 := (h8.snocAll (o := Bd.ob ⟨4, x3, c3, ys⟩)).swap
        refine E_mk hN (j + 1, bds ++ [⟨4, x3, c3, ys⟩], x4, c4) ⟨rfl, rfl, rfl, evI rfl (by omega), trivial⟩ ⟨⟨by omega, by simp [hjl], ?_, ?_⟩, by omega⟩
        · dsimp only; rw [List.map_append, hjk, hsj, List.map_append, List.map_cons, List.map_nil, List.map_cons, List.map_nil, hpcb]; rfl
        · dsimp only; rw [List.map_append, List.map_append, List.flatten_append]; exact h9
theorem ref_cut (sz : Nat) (hsz : 8 ≤ sz ∧ sz ≤ 4088) (hs : sz + 8 < bs.length) (hb : (kb :: bs).length ≤ 16384) (hl : (kb :: bs).length ≤ sz * 32) (most : Int) (hm : most = (sz : Int) + 8) : Calls Try.prog 8 #[.int .i64 (kb.toNat : Nat), .int .u32 id, .slice x bs.length c, .int .i64 most] w (BdPost 34 w (Ob.rd x bs.length 1 (u8s bs) :: m) (bodsP id (kb :: bs) sz) 0) := by
  have hsub : IntKind.i64.wrap (most - 8) = (sz : Int) := by rw [hm]; refine (Go.IntWalk.i64_in _ (by omega)).trans (by omega)
  have hbl : bs.length + 1 ≤ 16384 := by simpa using hb
  have hu8 : u8s (kb :: bs) = [Value.int .u8 (kb.toNat : Nat)] ++ u8s bs := rfl
  have hcl : (kb :: bs).length = 1 + bs.length := by simp; omega
  have cS := fun (x1 : Option Addr) (c1 : Nat) (h1 : True) ww h => rpc_Split id x1 c1 (kb :: bs) sz (by omega) hb hl ww (m := []) h
  have hM1 := manyP_le (n := (kb :: bs).length) (sz := sz) (by omega) hl
  have hcut := cutP_le (kb :: bs) sz
  unfold bodsP
  generalize hMe : manyP (kb :: bs).length sz = M at *
  rw [hcl] at cS
  generalize hal : kb :: bs = al at *
  have hkl := kb.toNat_lt
  refine enter [(0, _), (1, _), (2, _), (3, _)] Try.func8 rfl Try.ntmps8 (Nat.le_of_ble_eq_true rfl) rfl ?_; intro a0 hN
  repeat' (first
    | (refine isT ?_; (first | (refine isGuard ?_; (first | (refine T_yes hN rfl rfl rfl ?_) | (refine T_guardD hN rfl rfl rfl (fun hb => ?_) (fun hb => ?_) <;> ((first | (exfalso; omega) | (exfalso; exact hb rfl) | (exfalso; exact hb (fun h => h rfl)) | ((with_reducible refine absurd ?_ hb); (repeat' (first | exact trivial | refine And.intro rfl ?_)); done) | (replace hb := Classical.not_not.1 hb) | skip))))) | (refine T_assign hN rfl (by first | exact .inr trivial | exact .inl rfl) ?_) | (refine T_extract hN rfl rfl (by first | exact .inr trivial | exact .inl rfl) ?_) | (refine T_move hN rfl (by first | exact .inr trivial | exact .inl rfl) ?_) | (refine T_nil ?_) | (refine is_binOp ?_; (first | (refine T_sub (r := (sz : Int)) hN rfl rfl hsub (by first | exact .inr trivial | exact .inl rfl) ?_) | (refine T_gtr hN rfl rfl (by first | exact .inr trivial | exact .inl rfl) ?_) | (refine T_leq hN rfl rfl (by first | exact .inr trivial | exact .inl rfl) ?_) | (refine T_lss hN rfl rfl (by first | exact .inr trivial | exact .inl rfl) ?_) | (refine T_neq hN rfl rfl (by first | exact .inr trivial | exact .inl rfl) ?_))) | (refine is_pick ?_; (first | (refine T_pick0 hN rfl rfl (by first | exact .inr trivial | exact .inl rfl) ?_))) | (refine is_call ?_; (first | (refine T_append hN hT 0 (by rfl) (by rfl) rfl rfl rfl hx (hT.rrd 0 rfl) (u8s_all1 bs) (by unfold maxLen; omega) (by omega) (by decide) ?_; clear hT; intro x1 c1 ww hT; refine ⟨trivial, ?_⟩; simp only [List.set_cons_zero] at hT; rw [← hu8] at hT) | (refine is_call ?_; obtain ⟨hP, hK⟩ := hT.call0 [Ob.rd x1 (1 + bs.length) 1 (u8s al)] (fun o' ho => by rw [List.mem_singleton] at ho; subst ho; exact ⟨_, List.mem_append_left _ (List.mem_of_getElem? (i := 0) rfl), Ent.own_rd _ _ _ _ _ _⟩); refine T_call (f := 21) hN rfl (by decide) (cS x1 c1 trivial _ hP) ?_; rintro e ww ⟨x2, c2, ps, rfl, hp1, hp2, h1⟩; clear hT hP; replace hT := hK _ _ _ h1; clear hK h1; refine ⟨_, rfl, (by first | exact trivial | ((repeat' (first | exact hT.has 0 rfl | exact hT.has 1 rfl | exact hT.has 2 rfl | exact hT.has 3 rfl | exact hT.has 4 rfl | exact hT.has 5 rfl | exact hT.ord 0 rfl | exact hT.ord 1 rfl | exact hT.ord 2 rfl | exact hT.ord 3 rfl | exact hT.ord 4 rfl | exact hT.ord 5 rfl | exact hT.mrd (by assumption) | refine And.intro ?_ ?_)); done)), ?_⟩) | (refine T_len hN rfl (by first | exact .inr trivial | exact .inl rfl) ?_))) | (refine is_buildSlice ?_; (first | (refine T_slice1 hN hT rfl rfl (by decide) ?_; clear hT; intro g ww hT; refine ⟨trivial, ?_⟩; replace hT := hT.blkOwn (sz := 1) (n := 1) rfl (by decide)))) | (refine is_convert ?_; (first | (refine T_conv (r := ?_) hN rfl ?_ (by first | exact .inr trivial | exact .inl rfl) ?_; rotate_left; (focus (first | (refine Eq.trans (Go.IntWalk.i64_in _ (by omega)) ?_; (first | (simp only [Int.reduceAdd, Int.reduceSub, Int.reduceMul, Int.reduceNeg, Int.reduceDiv, Int.reduceMod]; rfl) | rfl)) | (refine Eq.trans (Go.IntWalk.u64_in _ (by omega)) ?_; (first | (simp only [Int.reduceAdd, Int.reduceSub, Int.reduceMul, Int.reduceNeg, Int.reduceDiv, Int.reduceMod]; rfl) | rfl)) | (refine Go.IntWalk.u32_in _ ?_; omega) | (refine Go.IntWalk.u8_in _ ?_; omega) | exact rfl)))))))
    | (refine isC ?_; (first | (refine C_seq ?_) | (refine C_rgnk (id := 0) hN [(0, _), (1, _), (2, _), (3, _)] ⟨rfl, rfl, rfl, rfl, trivial⟩ ?_; clear hN; intro a0 hN) | (refine C_rgnk (id := 1) hN [(0, _), (1, _), (2, _), (3, _), (8, _), (9, _)] ⟨rfl, rfl, rfl, rfl, rfl, rfl, trivial⟩ ?_; clear hN; intro a0 hN) | (refine C_rgnk (id := 3) hN [(0, _), (1, _), (2, _), (3, _), (8, _), (9, _), (30, _)] ⟨rfl, rfl, rfl, rfl, rfl, rfl, rfl, trivial⟩ ?_; clear hN; intro a0 hN) | (refine C_rgnk (id := 5) hN [(0, _), (1, _), (2, _), (3, _), (8, _), (9, _), (30, _), (34, _)] ⟨rfl, rfl, rfl, rfl, rfl, rfl, rfl, rfl, trivial⟩ ?_; clear hN; intro a0 hN) | (refine C_rgnk (id := 6) hN [(0, _), (1, _), (2, _), (3, _), (8, _), (9, _), (10, _), (30, _), (34, _)] ⟨rfl, rfl, rfl, rfl, rfl, rfl, rfl, rfl, rfl, trivial⟩ ?_; clear hN; intro a0 hN) | (refine C_rgnk (id := 7) hN [(0, _), (1, _), (2, _), (3, _), (8, _), (9, _), (10, _), (11, _), (12, _), (30, _), (34, _)] ⟨rfl, rfl, rfl, rfl, rfl, rfl, rfl, rfl, rfl, rfl, rfl, trivial⟩ ?_; clear hN; intro a0 hN) | (refine C_rgnk (id := 9) hN [(0, _), (1, _), (2, _), (3, _), (8, _), (9, _), (10, _), (11, _), (12, _), (30, _), (34, _), (53, _)] ⟨rfl, rfl, rfl, rfl, rfl, rfl, rfl, rfl, rfl, rfl, rfl, rfl, trivial⟩ ?_; clear hN; intro a0 hN) | (refine C_rgnk (id := 10) hN [(0, _), (1, _), (2, _), (3, _), (8, _), (9, _), (10, _), (11, _), (12, _), (13, _), (30, _), (34, _), (53, _)] ⟨rfl, rfl, rfl, rfl, rfl, rfl, rfl, rfl, rfl, rfl, rfl, rfl, rfl, trivial⟩ ?_; clear hN; intro a0 hN) | (refine C_if hN rfl (fun hb => ?_) (fun hb => ?_) <;> ((first | (exfalso; omega) | (exfalso; exact hb rfl) | (exfalso; exact hb (fun h => h rfl)) | ((with_reducible refine absurd ?_ hb); (repeat' (first | exact trivial | refine And.intro rfl ?_)); done) | (replace hb := Classical.not_not.1 hb) | skip))) | (refine C_skip ?_) | (refine C_block ?_)))
    | (refine isE ?_; (first | (refine E_thn ?_))))
  all_goals
    have hT2 : Tk [] w ww [Ob.own 77 4 (.slice x2 M c2) M (ps.map Pr.cells).flatten] (ps.map Pr.ob ++ (Ob.rd x bs.length 1 (u8s bs) :: m)) := hT.swap.freezeAll.sel [0] rfl
    clear hT
    refine C_loop hN (X := Nat × List Bd × Option Addr × Nat) (fun y => [(11, .slice x2 M c2), (13, .slice y.2.2.1 y.1 y.2.2.2), (14, .int .i64 y.1)])
      (fun y w1 => y.1 ≤ M ∧ y.2.1.length = y.1 ∧ y.2.1.map Bd.kv = (splitP id al sz y.1).map (fun p => (4, pcB p)) ∧ Tk [] w w1 [Ob.own 34 2 (.slice y.2.2.1 y.1 y.2.2.2) y.1 (y.2.1.map Bd.cells).flatten, Ob.all (y.2.1.map Bd.ob), Ob.own 77 4 (.slice x2 M c2) M (ps.map Pr.cells).flatten] (ps.map Pr.ob ++ (Ob.rd x bs.length 1 (u8s bs) :: m))) (fun y => M - y.1) (0, [], none, 0) ⟨rfl, rfl, rfl, trivial⟩ ⟨Nat.zero_le _, rfl, rfl, hT2.nilAll.addnil 34 2⟩ ?_
    clear hN hT2
    rintro ⟨j, bds, x9, c9⟩ a0 ww hN ⟨hj, hjl, hjk, hT⟩
    dsimp only at hj hjl hjk hT ⊢
    by_cases hj0 : j = M
    · subst hj0
      repeat' (first
        | (refine isT ?_; (first | (refine T_assign hN rfl (by first | exact .inr trivial | exact .inl rfl) ?_) | (refine T_move hN rfl (by first | exact .inr trivial | exact .inl rfl) ?_) | (refine T_nil ?_) | (refine is_binOp ?_; (first | (refine T_lss hN rfl rfl (by first | exact .inr trivial | exact .inl rfl) ?_))) | (refine is_call ?_; (first | (refine T_len hN rfl (by first | exact .inr trivial | exact .inl rfl) ?_)))))
        | (refine isC ?_; (first | (refine C_seq ?_) | (refine C_rgn ?_) | (refine C_if hN rfl (fun hb => ?_) (fun hb => ?_) <;> ((first | (exfalso; omega) | (exfalso; exact hb rfl) | (exfalso; exact hb (fun h => h rfl)) | ((with_reducible refine absurd ?_ hb); (repeat' (first | exact trivial | refine And.intro rfl ?_)); done) | (replace hb := Classical.not_not.1 hb) | skip))) | (refine C_ret ?_) | (refine C_exit ?_)))
        | (refine isE ?_; (first | (refine E_thn ?_) | (refine E_thn_exit ?_) | (refine E_blk_hit ?_) | (refine E_lp_exit ?_) | (refine E_ret hN Try.results8 (.tmp rfl (.tmp rfl .nil)) ?_))))
      all_goals
        subst hjl
        have h8 := (hT.meq (m' := Ob.rd x bs.length 1 (u8s bs) :: m) fun o ho => ⟨o, List.mem_append_right _ ho, Ob.Ent.refl _⟩).sel [0, 0] rfl
        exact ⟨x9, c9, bds, bds.map Bd.ob, rfl, hjk, h8, fun b hb => ⟨b.ob, List.mem_append_left _ (List.mem_map.2 ⟨b, hb, rfl⟩), Ent.own_rd _ _ _ _ _ _⟩⟩
    · obtain ⟨B, rfl⟩ := hT.own_addr 2 rfl (by omega)
      obtain ⟨r, hr⟩ : ∃ r, ps[j]? = some r := ⟨_, List.getElem?_eq_getElem (by omega)⟩
      have hrm : r.ob ∈ ps.map Pr.ob ++ (Ob.rd x bs.length 1 (u8s bs) :: m) := List.mem_append_left _ (List.mem_map.2 ⟨r, List.mem_of_getElem? hr, rfl⟩)
      have hrn := Tk.mnilO hT hrm
      have hpe : r.p = ⟨id, (j : Nat), (M : Nat), cutP al sz j⟩ := by
        have e1 : (ps.map Pr.p)[j]? = some r.p := by rw [List.getElem?_map, hr]; rfl
        rw [hp2, split_get (by omega), hMe] at e1
        exact (Option.some.inj e1).symm
      have hcj := hcut j
      have hsj : splitP id al sz (j + 1) = splitP id al sz j ++ [⟨id, (j : Nat), (M : Nat), cutP al sz j⟩] := by rw [splitP_succ, hMe]
      generalize cutP al sz j = cut at *
      have hright : rightP ⟨id, (j : Nat), (M : Nat), cut⟩ := ⟨by dsimp only; omega, by dsimp only; omega, by dsimp only; omega, by dsimp only; omega, by dsimp only; omega⟩
      have hpl := putO_eq (id := id) (a := j) (k := M) (part := cut) hid (by omega) (by omega) (by omega)
      have hpcb : pcB ⟨id, (j : Nat), (M : Nat), cut⟩ = (putO id j M cut).1 := rfl
      have hpl2 : (putO id j M cut).1.length ≤ 5000 := by rw [hpl]; simp [be_length]; omega
      obtain ⟨rp, px, pc⟩ := r
      dsimp only at hpe hrn
      subst hpe
      have hc : ∀ {w : World}, Rdz w (some ⟨B, 0, none⟩) M 4 (ps.map Pr.cells).flatten → ∀ (i : Nat) (v : Value), (Pr.cells ⟨⟨id, (j : Nat), (M : Nat), cut⟩, px, pc⟩)[i]? = some v → w.cell? ⟨B, 0 + j * 4 + i, none⟩ = some v := fun h => pr_load2 h hr
      have cP := fun ww h => rpc_Put id j M cut px pc hrn hid hright ww (m := []) h
      generalize (putO id j M cut).1 = ys at *
      clear hpl
      repeat' (first
        | (refine isT ?_; (first | (refine T_assign hN rfl (by first | exact .inr trivial | exact .inl rfl) ?_) | (refine T_extract hN rfl rfl (by first | exact .inr trivial | exact .inl rfl) ?_) | (refine T_move hN rfl (by first | exact .inr trivial | exact .inl rfl) ?_) | (refine T_nil ?_) | (refine is_load ?_; (first | (refine T_loadnc hN rfl (us := [.int .u32 id, .int .i64 j, .int .i64 M, .slice px cut.length pc]) rfl (hc (hT.ord 2 rfl)) (by first | exact .inl rfl | exact .inr ⟨by decide, trivial⟩) ?_))) | (refine is_binOp ?_; (first | (refine T_addi64 hN rfl rfl (by omega) (by first | exact .inr trivial | exact .inl rfl) ?_) | (refine T_lss hN rfl rfl (by first | exact .inr trivial | exact .inl rfl) ?_))) | (refine is_call ?_; (first | (refine is_call ?_; obtain ⟨hP, hK⟩ := hT.call0 [Ob.rd px cut.length 1 (u8s cut)] (fun o' ho => by rw [List.mem_singleton] at ho; subst ho; exact ⟨_, List.mem_append_right _ hrm, Ent.own_rd _ _ _ _ _ _⟩); refine T_call (f := 22) hN rfl (by decide) (cP _ hP) ?_; rintro e ww ⟨x3, c3, rfl, h1⟩; clear hT hP; replace hT := hK _ _ _ h1; clear hK h1; refine ⟨_, rfl, (by first | exact trivial | ((repeat' (first | exact hT.has 0 rfl | exact hT.has 1 rfl | exact hT.has 2 rfl | exact hT.has 3 rfl | exact hT.has 4 rfl | exact hT.has 5 rfl | exact hT.ord 0 rfl | exact hT.ord 1 rfl | exact hT.ord 2 rfl | exact hT.ord 3 rfl | exact hT.ord 4 rfl | exact hT.ord 5 rfl | exact hT.mrd (by assumption) | refine And.intro ?_ ?_)); done)), ?_⟩) | (refine T_append hN hT 2 (by rfl) (by rfl) rfl rfl rfl (fun h => by cases h) (blk_rdz (sz := 2) (hT.has 0 rfl) rfl rfl) (bd_one _ _ _ _) (by unfold maxLen; omega) (by omega) (by decide) ?_; clear hT; intro x4 c4 ww hT; refine ⟨trivial, ?_⟩) | (refine T_len hN rfl (by first | exact .inr trivial | exact .inl rfl) ?_))) | (refine is_buildSlice ?_; (first | (refine T_slicen (n := 2) hN hT (us := [_, _]) (by rfl) (by rfl) (by rfl) (by rfl) rfl (by decide) ?_; clear hT; intro g ww hT; refine ⟨trivial, ?_⟩))) | (refine is_build ?_; (first | (refine T_build (t := 34) (us := [_, _]) hN rfl rfl (by first | exact .inr trivial | exact .inl rfl) ?_))) | (refine is_indexAddr ?_; (first | (refine T_indexAddr hN rfl rfl (by omega) (by first | exact .inr trivial | exact .inl rfl) ?_)))))
        | (refine isC ?_; (first | (refine C_seq ?_) | (refine C_rgn ?_) | (refine C_if hN rfl (fun hb => ?_) (fun hb => ?_) <;> ((first | (exfalso; omega) | (exfalso; exact hb rfl) | (exfalso; exact hb (fun h => h rfl)) | ((with_reducible refine absurd ?_ hb); (repeat' (first | exact trivial | refine And.intro rfl ?_)); done) | (replace hb := Classical.not_not.1 hb) | skip))) | (refine C_skip ?_) | (refine C_block ?_)))
        | (refine isE ?_; (first | (refine E_thn ?_) | (refine E_blk ?_))))
      all_goals
        have h8 := hT.sel [1, 2, 1, 1] rfl
        have h9 := (h8.snocAll (o := Bd.ob ⟨4, x3, c3, ys⟩)).swap
        refine E_mk hN (j + 1, bds ++ [⟨4, x3, c3, ys⟩], x4, c4) ⟨rfl, rfl, evI rfl (by omega), trivial⟩ ⟨⟨by omega, by simp [hjl], ?_, ?_⟩, by omega⟩
        · dsimp only; rw [List.map_append, hjk, hsj, List.map_append, List.map_cons, List.map_nil, List.map_cons, List.map_nil, hpcb]; rfl
        · dsimp only; rw [List.map_append, List.map_append, List.flatten_append]; exact h9
end
end Go.Proofs.Yteikjachfafadaa
