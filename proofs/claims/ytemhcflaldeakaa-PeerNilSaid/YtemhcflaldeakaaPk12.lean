/- THE WALK of Peek. -/
import Derived.Test.YtemhcflaldeakaaOpen12
import Derived.Test.YtemhcflaldeakaaPrK18
import Derived.Test.YtemhcflaldeakaaCst12
namespace Go.Proofs.Ytemhcflaldeakaa
open Go.RowKit Go.Fp
attribute [local irreducible] Go.Calls
set_option maxRecDepth 100000
set_option maxHeartbeats 16000000
attribute [local irreducible] hdP
def PeekPost (w : World) (m : List Ob) (bs : List UInt8) (e : Ending) (w' : World) : Prop :=
  ∃ (x' : Option Addr) (c' : Nat), e = .returned (.tuple #[.agg ((hdP bs).1.cells x' c').toArray, .int .i64 (hdP bs).2.2]) ∧ Tk [] w w' [Ob.own 5 1 (.slice x' (hdP bs).1.body.length c') (hdP bs).1.body.length (u8s (hdP bs).1.body)] m
theorem frm_Peek (x : Option Addr) (c : Nat) (bs : List UInt8) (hx : x = none → bs.length = 0 ∧ c = 0) (hn : bs.length ≤ 140737488355328) (w : World) {m : List Ob} (hm : Ob.rd x bs.length 1 (u8s bs) ∈ m) (hT : Tk [] w w [] m) :
    Calls Try.prog 30 #[.slice x bs.length c] w (PeekPost w m bs) := by
  have cH := fun ww h => frm_headM x c bs hx hn ww (m := m) hm h
  unfold HdPost at cH
  unfold PeekPost
  generalize hdP bs = hp at *
  obtain ⟨⟨fr, to, bt, ct, kd, body⟩, n, E⟩ := hp
  dsimp only at cH ⊢
  simp only [Fm.cells_mk] at cH ⊢
  refine enter [(0, _)] Try.func30 rfl Try.ntmps30 (Nat.le_of_ble_eq_true rfl) rfl ?_; intro a0 hN
  repeat' (first
    | (refine isT ?_; (first | (refine T_assign hN rfl (by first | exact .inr trivial | exact .inl rfl) ?_) | (refine T_extract hN rfl rfl (by first | exact .inr trivial | exact .inl rfl) ?_) | (refine T_move hN rfl (by first | exact .inr trivial | exact .inl rfl) ?_) | (refine T_nil ?_) | (refine is_load ?_; (first | (refine T_loadn (t := 46) (us := [_, _, _, _, _, _]) hN rfl (hT.has 0 rfl) rfl rfl (by first | exact .inl rfl | exact .inr ⟨by decide, trivial⟩) ?_))) | (refine is_call ?_; (first | (refine is_call ?_; obtain ⟨hP, hK⟩ := hT.call0m; refine T_call (f := 44) hN rfl (by decide) (cH _ hP) ?_; rintro e ww ⟨x1, c1, rfl, h1⟩; clear hT hP; replace hT := hK _ _ _ h1; clear hK h1; refine ⟨_, rfl, (by first | exact trivial | ((repeat' (first | exact hT.has 0 rfl | exact hT.has 1 rfl | exact hT.has 2 rfl | exact hT.has 3 rfl | exact hT.has 4 rfl | exact hT.has 5 rfl | exact hT.ord 0 rfl | exact hT.ord 1 rfl | exact hT.ord 2 rfl | exact hT.ord 3 rfl | exact hT.ord 4 rfl | exact hT.ord 5 rfl | exact hT.mrd (by assumption) | refine And.intro ?_ ?_)); done)), ?_⟩))) | (refine is_store ?_; (first | (refine T_storen hN hT 0 rfl rfl rfl rfl rfl rfl (by decide) ?_; clear hT; intro ww hT; refine ⟨(by first | exact trivial), ?_⟩) | (refine T_storen hN hT 2 rfl rfl rfl rfl rfl rfl (by decide) ?_; clear hT; intro ww hT; refine ⟨(by first | exact trivial), ?_⟩))) | (refine is_alloc ?_; (first | (refine T_alloc hN hT (by decide) ?_; clear hT; intro g ww hT; refine ⟨(by first | exact trivial), ?_⟩)))))
    | (refine isC ?_; (first | (refine C_seq ?_) | (refine C_rgnk (id := 0) hN [(0, _)] ⟨rfl, trivial⟩ ?_; clear hN; intro a0 hN) | (refine C_rgnk (id := 1) hN [(0, _), (2, _), (3, _)] ⟨rfl, rfl, rfl, trivial⟩ ?_; clear hN; intro a0 hN) | (refine C_rgnk (id := 2) hN [(0, _), (2, _), (3, _), (4, _), (6, _)] ⟨rfl, rfl, rfl, rfl, rfl, trivial⟩ ?_; clear hN; intro a0 hN) | (refine C_ret ?_)))
    | (refine isE ?_; (first | (refine E_thn ?_) | (refine E_ret hN Try.results30 (.cell rfl (run_loadAll (hT.has 2 rfl) rfl rfl) (.tmp rfl .nil)) ?_))))
  all_goals first
    | exact ⟨x1, c1, rfl, hT.sel [1] rfl⟩
    | fail "P"
end Go.Proofs.Ytemhcflaldeakaa
/- A NEIGHBOUR, A TABLE of neighbours, plainly, and as memory. -/
namespace Go.Proofs.Ytemhcflaldeakaa
open Go.RowKit Go.Fp
set_option maxHeartbeats 4000000
/-- A neighbour's cells. -/
def oneC (key : List UInt8) (gw gt : Nat) (hd : Int) (hs lv : Bool) : List Value := u8s key ++ [.pointer (some ⟨gw, 0, none⟩), .pointer (some ⟨gt, 0, none⟩), .int .i64 hd, .bool hs, .bool lv]
/-- A table's cells; ps: who its neighbours are. -/
def tabC (self dead win : Int) (r : RatesS) (gc : Nat) (ps : List Value) (now : Int) : List Value :=
  [.int .i64 self, .int .i64 dead, .int .i64 win, .int .i64 r.f, .int .i64 r.ft, .int .i64 r.b, .int .i64 r.bt, .pointer (some ⟨gc, 0, none⟩)] ++ (ps ++ [.int .i64 now])
section
variable {key : List UInt8} (hk : key.length = 32) {gw gt : Nat} {hd : Int} {hs lv : Bool}
include hk
theorem oneC_len : (oneC key gw gt hd hs lv).length = 37 := by simp [oneC, u8s_length, hk]
theorem oneC_at (j : Nat) : (oneC key gw gt hd hs lv)[32 + j]? = [Value.pointer (some ⟨gw, 0, none⟩), .pointer (some ⟨gt, 0, none⟩), .int .i64 hd, .bool hs, .bool lv][j]? := by
  unfold oneC
  rw [List.getElem?_append_right (by rw [u8s_length]; omega), u8s_length, hk, Nat.add_sub_cancel_left]
theorem oneC_set (j : Nat) (v : Value) : (oneC key gw gt hd hs lv).set (32 + j) v = u8s key ++ [Value.pointer (some ⟨gw, 0, none⟩), .pointer (some ⟨gt, 0, none⟩), .int .i64 hd, .bool hs, .bool lv].set j v := by
  unfold oneC
  rw [List.set_append_right _ _ (by rw [u8s_length]; omega), u8s_length, hk, Nat.add_sub_cancel_left]
theorem oneC_key : ((oneC key gw gt hd hs lv).drop 0).take 32 = u8s key := by
  unfold oneC
  rw [List.drop_zero, List.take_append_of_le_length (by rw [u8s_length]; omega), List.take_of_length_le (by rw [u8s_length]; omega)]
theorem oneC_w : (oneC key gw gt hd hs lv)[32]? = some (.pointer (some ⟨gw, 0, none⟩)) := oneC_at hk 0
theorem oneC_t : (oneC key gw gt hd hs lv)[33]? = some (.pointer (some ⟨gt, 0, none⟩)) := oneC_at hk 1
theorem oneC_h : (oneC key gw gt hd hs lv)[34]? = some (.int .i64 hd) := oneC_at hk 2
theorem oneC_hs : (oneC key gw gt hd hs lv)[35]? = some (.bool hs) := oneC_at hk 3
theorem oneC_lv : (oneC key gw gt hd hs lv)[36]? = some (.bool lv) := oneC_at hk 4
theorem oneC_sh (v : Int) : (oneC key gw gt hd hs lv).set 34 (.int .i64 v) = oneC key gw gt v hs lv := oneC_set hk 2 _
theorem oneC_shs (v : Bool) : (oneC key gw gt hd hs lv).set 35 (.bool v) = oneC key gw gt hd v lv := oneC_set hk 3 _
theorem oneC_slv (v : Bool) : (oneC key gw gt hd hs lv).set 36 (.bool v) = oneC key gw gt hd hs v := oneC_set hk 4 _
end
section
variable {self dead win : Int} {r : RatesS} {gc : Nat} {ps : List Value} (hp : ps.length = 8) {now : Int}
include hp
theorem tabC_len : (tabC self dead win r gc ps now).length = 17 := by simp [tabC, hp]
theorem tabC_by (j : Nat) (h : j < 8) {v : Value} (hv : ps[j]? = some v) : (tabC self dead win r gc ps now)[8 + j * 1]? = some v := by
  unfold tabC
  rw [List.getElem?_append_right (by simp), List.getElem?_append_left (by simp; omega), Nat.mul_one]
  rw [show 8 + j - List.length [Value.int IntKind.i64 self, .int .i64 dead, .int .i64 win, .int .i64 r.f, .int .i64 r.ft, .int .i64 r.b, .int .i64 r.bt, .pointer (some ⟨gc, 0, none⟩)] = j from Nat.add_sub_cancel_left ..]
  exact hv
theorem tabC_all : ((tabC self dead win r gc ps now).drop 8).take 8 = ps := by
  show (ps ++ [Value.int IntKind.i64 now]).take 8 = ps
  exact List.take_left' hp
theorem tabC_now : (tabC self dead win r gc ps now)[16]? = some (.int .i64 now) := by
  unfold tabC
  rw [List.getElem?_append_right (by simp), List.getElem?_append_right (by simp; omega)]
  simp [hp]
theorem tabC_snow (v : Int) : (tabC self dead win r gc ps now).set 16 (.int .i64 v) = tabC self dead win r gc ps v := by
  unfold tabC
  rw [List.set_append_right _ _ (by simp), List.set_append_right _ _ (by simp; omega)]
  simp [hp]
theorem tabC_sby (j : Nat) (h : j < 8) (v : Value) : (tabC self dead win r gc ps now).set (8 + j * 1) v = tabC self dead win r gc (ps.set j v) now := by
  unfold tabC
  rw [List.set_append_right _ _ (by simp), List.set_append_left _ _ (by simp; omega), Nat.mul_one]
  rw [show 8 + j - List.length [Value.int IntKind.i64 self, .int .i64 dead, .int .i64 win, .int .i64 r.f, .int .i64 r.ft, .int .i64 r.b, .int .i64 r.bt, .pointer (some ⟨gc, 0, none⟩)] = j from Nat.add_sub_cancel_left ..]
end
theorem tabC_self {self dead win : Int} {r : RatesS} {gc : Nat} {ps : List Value} {now : Int} : (tabC self dead win r gc ps now)[0]? = some (.int .i64 self) := rfl
theorem tabC_dead {self dead win : Int} {r : RatesS} {gc : Nat} {ps : List Value} {now : Int} : (tabC self dead win r gc ps now)[1]? = some (.int .i64 dead) := rfl
theorem tabC_win {self dead win : Int} {r : RatesS} {gc : Nat} {ps : List Value} {now : Int} : (tabC self dead win r gc ps now)[2]? = some (.int .i64 win) := rfl
theorem tabC_gc {self dead win : Int} {r : RatesS} {gc : Nat} {ps : List Value} {now : Int} : (tabC self dead win r gc ps now)[7]? = some (.pointer (some ⟨gc, 0, none⟩)) := rfl
theorem tabC_rates {self dead win : Int} {r : RatesS} {gc : Nat} {ps : List Value} {now : Int} : ((tabC self dead win r gc ps now).drop 3).take 4 = r.cl := rfl
theorem hdP_ok {bs : List UInt8} (h : (hdP bs).2.2 = 0) : (hdP bs).1.ok ∧ (hdP bs).1.wf := by
  have hE : hdE bs = 0 := by
    apply Classical.byContradiction; intro hE
    unfold hdP at h
    rw [if_pos hE] at h
    exact hE h
  have hok : (hdF bs).ok := by
    apply Classical.byContradiction; intro hok
    unfold hdP at h
    rw [if_neg (fun h => h hE), if_neg hok] at h
    cases h
  have hp : hdP bs = (hdF bs, bs.length - (hd7 bs).1.length, 0) := by
    unfold hdP; rw [if_neg (fun h => h hE), if_pos hok]
  rw [hp]
  exact ⟨hok, nm_lt 8 _, nm_lt 8 _⟩
/-- A neighbour's state. -/
structure NbS where
  w : WinS
  t : TollS
  hd : Int
/-- What comes of a frame that came, of a neighbour. -/
noncomputable def admF (key : List UInt8) (self now : Int) (s : NbS) (bs : List UInt8) : (Fm × Int) × NbS :=
  let f := (hdP bs).1
  if ¬ f.to = self then ((noF, 29), s)
  else let t := frameF s.t (shaB (22 + f.body.length) + 3)
    if ¬ t.1 = 0 then ((noF, t.1), { s with t := t.2 })
    else if ¬ (opP key bs).2 = 0 then ((noF, (opP key bs).2), { s with t := t.2 })
    else let k := takeF s.w f.bt f.ct
      if ¬ k.1 = 0 then ((noF, k.1), { s with t := t.2, w := k.2 })
      else ((f, 0), { s with t := t.2, w := k.2, hd := now })
end Go.Proofs.Ytemhcflaldeakaa
