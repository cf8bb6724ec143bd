/- FROM CONTRACTS OF BLOCKS to contracts of objects: windows, counters, tolls. -/
import Derived.Test.YtfcmjlbfoindaaaWin
import Derived.Test.YtfcmjlbfoindaaaBase
import Derived.Test.YtfcmjlbfoindaaaSl3
import Derived.Test.YtfcmjlbfoindaaaFc
import Derived.Test.YtfcmjlbfoindaaaPk12
import Derived.Test.YtfcmjlbfoindaaaCst12
namespace Go.Fp
open Go Go.RowKit
section
variable {S f : List Nat} {w0 w w' : World} {l m : List Ob} {g T : Nat} {cs cs' : List Value}
/-- A block was turned, by whoever knows it. -/
theorem Tk.old1 (hT : Tk f w w [Ob.blk g T cs] m) (hh : Has w' g T cs'.toArray) (hf : Fr [g] w w') : Tk f w w' [Ob.blk g T cs'] m :=
  hT.turn 0 rfl fun f' ⟨e, _⟩ => ⟨f', ⟨e, hh⟩, by rw [e]; exact hf, fun k hk => .inl hk⟩
theorem Tk.old0 (hT : Tk S w0 w l m) (hf : Fr [] w w') : Tk S w0 w' l m := hT.same hf
/-- A call is handed the first two, three, four. -/
theorem Tk.frame2 {a b : Ob} {l2 : List Ob} (m' : List Ob) (h : Tk S w0 w (a :: b :: l2) m) (hm : ∀ o, o ∈ m' → ∃ o', o' ∈ l2 ++ m ∧ Ob.Ent o' o) : ∃ f, Tk f w w [a, b] m' ∧ ∀ w' l1' m1, Tk f w w' l1' m1 → Tk S w0 w' (l1' ++ l2) m := Tk.frame (l1 := [a, b]) h hm
theorem Tk.frame3 {a b c : Ob} {l2 : List Ob} (m' : List Ob) (h : Tk S w0 w (a :: b :: c :: l2) m) (hm : ∀ o, o ∈ m' → ∃ o', o' ∈ l2 ++ m ∧ Ob.Ent o' o) : ∃ f, Tk f w w [a, b, c] m' ∧ ∀ w' l1' m1, Tk f w w' l1' m1 → Tk S w0 w' (l1' ++ l2) m := Tk.frame (l1 := [a, b, c]) h hm
theorem Tk.frame4 {a b c d : Ob} {l2 : List Ob} (m' : List Ob) (h : Tk S w0 w (a :: b :: c :: d :: l2) m) (hm : ∀ o, o ∈ m' → ∃ o', o' ∈ l2 ++ m ∧ Ob.Ent o' o) : ∃ f, Tk f w w [a, b, c, d] m' ∧ ∀ w' l1' m1, Tk f w w' l1' m1 → Tk S w0 w' (l1' ++ l2) m := Tk.frame (l1 := [a, b, c, d]) h hm
/-- A new block. -/
theorem Tk.oldN (hT : Tk S w0 w l m) (hh : Has w' g T cs'.toArray) (hg : w.heap.size ≤ g) (hf : Fr [] w w') : Tk S w0 w' (Ob.blk g T cs' :: l) m :=
  (hT.call0 [] (fun o ho => (by cases ho))).2 w' [Ob.blk g T cs'] [] ⟨hf, [g], ⟨[g], [], rfl, ⟨rfl, hh⟩, rfl, fun k _ hk => (by cases hk)⟩, fun k hk => (by simp at hk; subst hk; exact .inr hg), fun o ho => (by cases ho)⟩
end
end Go.Fp
namespace Go.Proofs.Ytfcmjlbfoindaaa
open Go.RowKit Go.Fp
def WinS.cl (s : WinS) : List Value := [.int .i64 s.size, .int .u64 s.boot, .int .u64 s.top, .int .u64 s.seen, .bool s.any]
def CtrS.cl (s : CtrS) : List Value := [.int .u64 s.boot, .int .u64 s.last]
def TollS.cl (s : TollS) : List Value := [.int .i64 s.r.f, .int .i64 s.r.ft, .int .i64 s.r.b, .int .i64 s.r.bt, .int .i64 s.fr, .int .i64 s.bl, .int .i64 s.ow]
instance ratesDec (r : RatesS) : Decidable r.ok := by unfold RatesS.ok; infer_instance
def RatesS.cl (r : RatesS) : List Value := [.int .i64 r.f, .int .i64 r.ft, .int .i64 r.b, .int .i64 r.bt]
section
variable {f : List Nat} {w : World} {m : List Ob}
theorem w_Take (g : Nat) (s : WinS) (b c : Int) (hs : s.ok) (b0 : 0 ≤ b) (c0 : 0 ≤ c) (c1 : c < 18446744073709551616) (hT : Tk f w w [Ob.blk g 167 s.cl] m) :
    Calls Try.prog 67 #[.pointer (some ⟨g, 0, none⟩), .int .u64 b, .int .u64 c] w fun e w' => e = .returned (.int .i64 (takeF s b c).1) ∧ Tk f w w' [Ob.blk g 167 (takeF s b c).2.cl] m :=
  Calls.mono (win_Take g s b c w (hT.has 0 rfl) hs b0 c0 c1) fun _ _ ⟨h1, h2, h3⟩ => ⟨h1, hT.old1 h2 h3⟩
theorem w_New (n : Int) (h1 : 1 ≤ n) (h2 : n ≤ 64) (hT : Tk [] w w [] m) :
    Calls Try.prog 57 #[.int .i64 n] w fun e w' => ∃ g, e = .returned (.tuple #[.pointer (some ⟨g, 0, none⟩), .int .i64 0]) ∧ Tk [] w w' [Ob.blk g 167 (⟨n, 0, 0, 0, false⟩ : WinS).cl] m :=
  Calls.mono (win_New_ok n w h1 h2) fun _ _ ⟨g, h1, h2, h3, h4⟩ => ⟨g, h1, hT.oldN h3 h2 h4⟩
theorem w_Begin (b : Int) (hb : ¬ b = 0) (hT : Tk [] w w [] m) :
    Calls Try.prog 56 #[.int .u64 b] w fun e w' => ∃ g, e = .returned (.tuple #[.pointer (some ⟨g, 0, none⟩), .int .i64 0]) ∧ Tk [] w w' [Ob.blk g 165 (⟨b, 0⟩ : CtrS).cl] m :=
  Calls.mono (win_Begin b w (by simpa using hb)) fun _ _ ⟨g, h1, h2, h3, h4⟩ => ⟨g, h1, hT.oldN h3 h2 h4⟩
theorem t_New (r : RatesS) (hr : r.ok) (hT : Tk [] w w [] m) :
    Calls Try.prog 58 #[.agg r.cl.toArray] w fun e w' => ∃ g, e = .returned (.tuple #[.pointer (some ⟨g, 0, none⟩), .int .i64 0]) ∧ Tk [] w w' [Ob.blk g 153 (⟨r, r.f, r.b, 0⟩ : TollS).cl] m :=
  Calls.mono (toll_New_ok r w hr) fun _ _ ⟨g, h1, h2, h3, h4⟩ => ⟨g, h1, hT.oldN h3 h2 h4⟩
theorem t_Right (r : RatesS) (hT : Tk [] w w [] m) :
    Calls Try.prog 71 #[.agg r.cl.toArray] w fun e w' => e = .returned (.bool (bdec r.ok)) ∧ Tk [] w w' [] m := by
  refine Calls.mono (toll_Right r w) fun _ w' => ?_
  rintro ⟨v, rfl, hv, hf⟩
  refine ⟨?_, hT.same hf⟩
  by_cases hr : r.ok
  · rw [hv.2 hr, bdec_true' hr]
  · have : v = false := by cases v; rfl; exact absurd (hv.1 rfl) hr
    rw [this, bdec_false' hr]
theorem t_Frame (g : Nat) (s : TollS) (n : Int) (hs : s.ok) (hT : Tk f w w [Ob.blk g 153 s.cl] m) :
    Calls Try.prog 65 #[.pointer (some ⟨g, 0, none⟩), .int .i64 n] w fun e w' => e = .returned (.int .i64 (frameF s n).1) ∧ Tk f w w' [Ob.blk g 153 (frameF s n).2.cl] m :=
  Calls.mono (toll_Frame g s n w hs (hT.has 0 rfl)) fun _ _ ⟨h1, h2, h3⟩ => ⟨h1, hT.old1 h2 h3⟩
theorem t_Left (g : Nat) (s : TollS) (hT : Tk f w w [Ob.blk g 153 s.cl] m) :
    Calls Try.prog 34 #[.pointer (some ⟨g, 0, none⟩)] w fun e w' => e = .returned (.tuple #[.int .i64 s.fr, .int .i64 s.bl]) ∧ Tk f w w' [Ob.blk g 153 s.cl] m :=
  Calls.mono (toll_Left g s w (hT.has 0 rfl)) fun _ _ ⟨h1, h2⟩ => ⟨h1, hT.same h2⟩
end
end Go.Proofs.Ytfcmjlbfoindaaa
/- A NEIGHBOUR, A TABLE of neighbours, plainly, and as memory. -/
namespace Go.Proofs.Ytfcmjlbfoindaaa
open Go.RowKit Go.Fp
set_option maxHeartbeats 4000000
/-- A neighbour's cells. -/
def oneC (key : List UInt8) (gw gt : Nat) (hd : Int) (hs lv : Bool) : List Value := u8s key ++ [.pointer (some ⟨gw, 0, none⟩), .pointer (some ⟨gt, 0, none⟩), .int .i64 hd, .bool hs, .bool lv]
/-- A table's cells; ps: who its neighbours are. -/
def tabC (self dead win : Int) (r : RatesS) (gc : Nat) (ps : List Value) (now : Int) : List Value :=
  [.int .i64 self, .int .i64 dead, .int .i64 win, .int .i64 r.f, .int .i64 r.ft, .int .i64 r.b, .int .i64 r.bt, .pointer (some ⟨gc, 0, none⟩)] ++ (ps ++ [.int .i64 now])
section
variable {key : List UInt8} (hk : key.length = 32) {gw gt : Nat} {hd : Int} {hs lv : Bool}
include hk
theorem oneC_len : (oneC key gw gt hd hs lv).length = 37 := by simp [oneC, u8s_length, hk]
theorem oneC_at (j : Nat) : (oneC key gw gt hd hs lv)[32 + j]? = [Value.pointer (some ⟨gw, 0, none⟩), .pointer (some ⟨gt, 0, none⟩), .int .i64 hd, .bool hs, .bool lv][j]? := by
  unfold oneC
  rw [List.getElem?_append_right (by rw [u8s_length]; omega), u8s_length, hk, Nat.add_sub_cancel_left]
theorem oneC_set (j : Nat) (v : Value) : (oneC key gw gt hd hs lv).set (32 + j) v = u8s key ++ [Value.pointer (some ⟨gw, 0, none⟩), .pointer (some ⟨gt, 0, none⟩), .int .i64 hd, .bool hs, .bool lv].set j v := by
  unfold oneC
  rw [List.set_append_right _ _ (by rw [u8s_length]; omega), u8s_length, hk, Nat.add_sub_cancel_left]
theorem oneC_key : ((oneC key gw gt hd hs lv).drop 0).take 32 = u8s key := by
  unfold oneC
  rw [List.drop_zero, List.take_append_of_le_length (by rw [u8s_length]; omega), List.take_of_length_le (by rw [u8s_length]; omega)]
theorem oneC_w : (oneC key gw gt hd hs lv)[32]? = some (.pointer (some ⟨gw, 0, none⟩)) := oneC_at hk 0
theorem oneC_t : (oneC key gw gt hd hs lv)[33]? = some (.pointer (some ⟨gt, 0, none⟩)) := oneC_at hk 1
theorem oneC_h : (oneC key gw gt hd hs lv)[34]? = some (.int .i64 hd) := oneC_at hk 2
theorem oneC_hs : (oneC key gw gt hd hs lv)[35]? = some (.bool hs) := oneC_at hk 3
theorem oneC_lv : (oneC key gw gt hd hs lv)[36]? = some (.bool lv) := oneC_at hk 4
theorem oneC_sh (v : Int) : (oneC key gw gt hd hs lv).set 34 (.int .i64 v) = oneC key gw gt v hs lv := oneC_set hk 2 _
theorem oneC_shs (v : Bool) : (oneC key gw gt hd hs lv).set 35 (.bool v) = oneC key gw gt hd v lv := oneC_set hk 3 _
theorem oneC_slv (v : Bool) : (oneC key gw gt hd hs lv).set 36 (.bool v) = oneC key gw gt hd hs v := oneC_set hk 4 _
end
section
variable {self dead win : Int} {r : RatesS} {gc : Nat} {ps : List Value} (hp : ps.length = 8) {now : Int}
include hp
theorem tabC_len : (tabC self dead win r gc ps now).length = 17 := by simp [tabC, hp]
theorem tabC_by (j : Nat) (h : j < 8) {v : Value} (hv : ps[j]? = some v) : (tabC self dead win r gc ps now)[8 + j * 1]? = some v := by
  unfold tabC
  rw [List.getElem?_append_right (by simp), List.getElem?_append_left (by simp; omega), Nat.mul_one]
  rw [show 8 + j - List.length [Value.int IntKind.i64 self, .int .i64 dead, .int .i64 win, .int .i64 r.f, .int .i64 r.ft, .int .i64 r.b, .int .i64 r.bt, .pointer (some ⟨gc, 0, none⟩)] = j from Nat.add_sub_cancel_left ..]
  exact hv
theorem tabC_all : ((tabC self dead win r gc ps now).drop 8).take 8 = ps := by
  show (ps ++ [Value.int IntKind.i64 now]).take 8 = ps
  exact List.take_left' hp
theorem tabC_now : (tabC self dead win r gc ps now)[16]? = some (.int .i64 now) := by
  unfold tabC
  rw [List.getElem?_append_right (by simp), List.getElem?_append_right (by simp; omega)]
  simp [hp]
theorem tabC_snow (v : Int) : (tabC self dead win r gc ps now).set 16 (.int .i64 v) = tabC self dead win r gc ps v := by
  unfold tabC
  rw [List.set_append_right _ _ (by simp), List.set_append_right _ _ (by simp; omega)]
  simp [hp]
theorem tabC_sby (j : Nat) (h : j < 8) (v : Value) : (tabC self dead win r gc ps now).set (8 + j * 1) v = tabC self dead win r gc (ps.set j v) now := by
  unfold tabC
  rw [List.set_append_right _ _ (by simp), List.set_append_left _ _ (by simp; omega), Nat.mul_one]
  rw [show 8 + j - List.length [Value.int IntKind.i64 self, .int .i64 dead, .int .i64 win, .int .i64 r.f, .int .i64 r.ft, .int .i64 r.b, .int .i64 r.bt, .pointer (some ⟨gc, 0, none⟩)] = j from Nat.add_sub_cancel_left ..]
end
theorem tabC_self {self dead win : Int} {r : RatesS} {gc : Nat} {ps : List Value} {now : Int} : (tabC self dead win r gc ps now)[0]? = some (.int .i64 self) := rfl
theorem tabC_dead {self dead win : Int} {r : RatesS} {gc : Nat} {ps : List Value} {now : Int} : (tabC self dead win r gc ps now)[1]? = some (.int .i64 dead) := rfl
theorem tabC_win {self dead win : Int} {r : RatesS} {gc : Nat} {ps : List Value} {now : Int} : (tabC self dead win r gc ps now)[2]? = some (.int .i64 win) := rfl
theorem tabC_gc {self dead win : Int} {r : RatesS} {gc : Nat} {ps : List Value} {now : Int} : (tabC self dead win r gc ps now)[7]? = some (.pointer (some ⟨gc, 0, none⟩)) := rfl
theorem tabC_rates {self dead win : Int} {r : RatesS} {gc : Nat} {ps : List Value} {now : Int} : ((tabC self dead win r gc ps now).drop 3).take 4 = r.cl := rfl
theorem hdP_ok {bs : List UInt8} (h : (hdP bs).2.2 = 0) : (hdP bs).1.ok ∧ (hdP bs).1.wf := by
  have hE : hdE bs = 0 := by
    apply Classical.byContradiction; intro hE
    unfold hdP at h
    rw [if_pos hE] at h
    exact hE h
  have hok : (hdF bs).ok := by
    apply Classical.byContradiction; intro hok
    unfold hdP at h
    rw [if_neg (fun h => h hE), if_neg hok] at h
    cases h
  have hp : hdP bs = (hdF bs, bs.length - (hd7 bs).1.length, 0) := by
    unfold hdP; rw [if_neg (fun h => h hE), if_pos hok]
  rw [hp]
  exact ⟨hok, nm_lt 8 _, nm_lt 8 _⟩
/-- A neighbour's state. -/
structure NbS where
  w : WinS
  t : TollS
  hd : Int
/-- What comes of a frame that came, of a neighbour. -/
noncomputable def admF (key : List UInt8) (self now : Int) (s : NbS) (bs : List UInt8) : (Fm × Int) × NbS :=
  let f := (hdP bs).1
  if ¬ f.to = self then ((noF, 29), s)
  else let t := frameF s.t (shaB (22 + f.body.length) + 3)
    if ¬ t.1 = 0 then ((noF, t.1), { s with t := t.2 })
    else if ¬ (opP key bs).2 = 0 then ((noF, (opP key bs).2), { s with t := t.2 })
    else let k := takeF s.w f.bt f.ct
      if ¬ k.1 = 0 then ((noF, k.1), { s with t := t.2, w := k.2 })
      else ((f, 0), { s with t := t.2, w := k.2, hd := now })
end Go.Proofs.Ytfcmjlbfoindaaa
/- THE WALKS of a table: who a neighbour is; a frame that came. -/
namespace Go.Proofs.Ytfcmjlbfoindaaa
open Go.RowKit Go.Fp
attribute [local irreducible] Go.Calls
set_option maxRecDepth 100000
set_option maxHeartbeats 16000000
section
variable {self dead win : Int} {r : RatesS} {gc g : Nat} {ps : List Value} (hp : ps.length = 8) {now : Int} {f : List Nat} {w : World} {m : List Ob} (hT : Tk f w w [Ob.blk g 139 (tabC self dead win r gc ps now)] m)
include hT
theorem find_out (j : Int) (h : j < 0 ∨ 8 ≤ j) : Calls Try.prog 63 #[.pointer (some ⟨g, 0, none⟩), .int .i64 j] w fun e w' => e = .returned (.pointer none) ∧ Tk f w w' [Ob.blk g 139 (tabC self dead win r gc ps now)] m := by
  refine enter [(0, _), (1, _)] Try.func63 rfl Try.ntmps63 (Nat.le_of_ble_eq_true rfl) rfl ?_; intro a0 hN
  repeat' (first
    | (refine isT ?_; (first | (refine isGuard ?_; (first | (refine T_yes hN rfl rfl rfl ?_) | (refine T_no hN rfl rfl rfl rfl ?_) | (refine T_guardD hN rfl rfl rfl (fun hb => ?_) (fun hb => ?_) <;> ((first | (exfalso; omega) | (exfalso; exact hb rfl) | (exfalso; exact hb (fun h => h rfl)) | ((with_reducible refine absurd ?_ hb); (repeat' (first | exact trivial | refine And.intro rfl ?_)); done) | (replace hb := Classical.not_not.1 hb) | skip))))) | (refine T_assign hN rfl (by first | exact .inr trivial | exact .inl rfl) ?_) | (refine T_move hN rfl (by first | exact .inr trivial | exact .inl rfl) ?_) | (refine T_nil ?_) | (refine is_binOp ?_; (first | (refine T_eqlnil hN rfl rfl (by first | exact .inr trivial | exact .inl rfl) ?_) | (refine T_geq hN rfl rfl (by first | exact .inr trivial | exact .inl rfl) ?_) | (refine T_lss hN rfl rfl (by first | exact .inr trivial | exact .inl rfl) ?_))) | (refine is_pick ?_; (first | (refine T_pick1 hN rfl rfl (by first | exact .inr trivial | exact .inl rfl) ?_) | (refine T_pick0 hN rfl rfl (by first | exact .inr trivial | exact .inl rfl) ?_)))))
    | (refine isC ?_; (first | (refine C_seq ?_) | (refine C_rgnk (id := 0) hN [(0, _), (1, _)] ⟨rfl, rfl, trivial⟩ ?_; clear hN; intro a0 hN) | (refine C_rgnk (id := 1) hN [(0, _), (1, _), (4, _)] ⟨rfl, rfl, rfl, trivial⟩ ?_; clear hN; intro a0 hN) | (refine C_rgnk (id := 2) hN [(0, _), (1, _), (4, _), (14, _)] ⟨rfl, rfl, rfl, rfl, trivial⟩ ?_; clear hN; intro a0 hN) | (refine C_true hN rfl ?_) | (refine C_if hN rfl (fun hb => ?_) (fun hb => ?_) <;> ((first | (exfalso; omega) | (exfalso; exact hb rfl) | (exfalso; exact hb (fun h => h rfl)) | ((with_reducible refine absurd ?_ hb); (repeat' (first | exact trivial | refine And.intro rfl ?_)); done) | (replace hb := Classical.not_not.1 hb) | skip))) | (refine C_ret ?_)))
    | (refine isE ?_; (first | (refine E_thn ?_) | (refine E_thn_ret ?_) | (refine E_ret hN Try.results63 (.tmp rfl .nil) ?_))))
  all_goals first
    | (exfalso; omega)
    | exact ⟨rfl, hT⟩
    | fail "F"
include hp
theorem find_in (j : Nat) (h : j < 8) {v : Value} (hv : ps[j]? = some v) : Calls Try.prog 63 #[.pointer (some ⟨g, 0, none⟩), .int .i64 j] w fun e w' => e = .returned v ∧ Tk f w w' [Ob.blk g 139 (tabC self dead win r gc ps now)] m := by
  refine enter [(0, _), (1, _)] Try.func63 rfl Try.ntmps63 (Nat.le_of_ble_eq_true rfl) rfl ?_; intro a0 hN
  repeat' (first
    | (refine isT ?_; (first | (refine isGuard ?_; (first | (refine T_yes hN rfl rfl rfl ?_) | (refine T_guardD hN rfl rfl rfl (fun hb => ?_) (fun hb => ?_) <;> ((first | (exfalso; omega) | (exfalso; exact hb rfl) | (exfalso; exact hb (fun h => h rfl)) | ((with_reducible refine absurd ?_ hb); (repeat' (first | exact trivial | refine And.intro rfl ?_)); done) | (replace hb := Classical.not_not.1 hb) | skip))))) | (refine T_assign hN rfl (by first | exact .inr trivial | exact .inl rfl) ?_) | (refine T_fieldAddr hN rfl (by first | exact .inr trivial | exact .inl rfl) ?_) | (refine T_move hN rfl (by first | exact .inr trivial | exact .inl rfl) ?_) | (refine T_nilCheck hN rfl (by first | exact .inr trivial | exact .inl rfl) ?_) | (refine T_nil ?_) | (refine is_load ?_; (first | (refine T_load (d := 20) hN rfl (hT.has 0 rfl) (tabC_by hp j h hv) (by first | exact .inl rfl | exact .inr ⟨by decide, trivial⟩) ?_))) | (refine is_binOp ?_; (first | (refine T_eqlnil hN rfl rfl (by first | exact .inr trivial | exact .inl rfl) ?_) | (refine T_geq hN rfl rfl (by first | exact .inr trivial | exact .inl rfl) ?_) | (refine T_lss hN rfl rfl (by first | exact .inr trivial | exact .inl rfl) ?_))) | (refine is_pick ?_; (first | (refine T_pick0 hN rfl rfl (by first | exact .inr trivial | exact .inl rfl) ?_))) | (refine is_indexAddr ?_; (first | (refine T_indexAddrA hN rfl rfl (by omega) (by first | exact .inr trivial | exact .inl rfl) ?_)))))
    | (refine isC ?_; (first | (refine C_seq ?_) | (refine C_rgnk (id := 0) hN [(0, _), (1, _)] ⟨rfl, rfl, trivial⟩ ?_; clear hN; intro a0 hN) | (refine C_rgnk (id := 1) hN [(0, _), (1, _), (4, _)] ⟨rfl, rfl, rfl, trivial⟩ ?_; clear hN; intro a0 hN) | (refine C_rgnk (id := 3) hN [(0, _), (1, _), (4, _), (14, _)] ⟨rfl, rfl, rfl, rfl, trivial⟩ ?_; clear hN; intro a0 hN) | (refine C_if hN rfl (fun hb => ?_) (fun hb => ?_) <;> ((first | (exfalso; omega) | (exfalso; exact hb rfl) | (exfalso; exact hb (fun h => h rfl)) | ((with_reducible refine absurd ?_ hb); (repeat' (first | exact trivial | refine And.intro rfl ?_)); done) | (replace hb := Classical.not_not.1 hb) | skip))) | (refine C_skip ?_) | (refine C_ret ?_)))
    | (refine isE ?_; (first | (refine E_thn ?_) | (refine E_ret hN Try.results63 (.tmp rfl .nil) ?_))))
  all_goals first
    | (exfalso; omega)
    | exact ⟨rfl, hT⟩
    | fail "F"
end
end Go.Proofs.Ytfcmjlbfoindaaa
