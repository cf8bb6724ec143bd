/- FROM CONTRACTS OF BLOCKS to contracts of objects: windows, counters, tolls. -/
import Derived.Test.YtemhcflaldeakaaBase
import Derived.Test.YtemhcflaldeakaaFb
import Derived.Test.YtemhcflaldeakaaFc
import Derived.Test.YtemhcflaldeakaaPk12
import Derived.Test.YtemhcflaldeakaaCst12
import Derived.Test.YtemhcflaldeakaaWinInv
import Derived.Test.YtemhcflaldeakaaBackP12
namespace Go.Fp
open Go Go.RowKit
section
variable {S f : List Nat} {w0 w w' : World} {l m : List Ob} {g T : Nat} {cs cs' : List Value}
/-- A block was turned, by whoever knows it. -/
theorem Tk.old1 (hT : Tk f w w [Ob.blk g T cs] m) (hh : Has w' g T cs'.toArray) (hf : Fr [g] w w') : Tk f w w' [Ob.blk g T cs'] m :=
  hT.turn 0 rfl fun f' ⟨e, _⟩ => ⟨f', ⟨e, hh⟩, by rw [e]; exact hf, fun k hk => .inl hk⟩
theorem Tk.old0 (hT : Tk S w0 w l m) (hf : Fr [] w w') : Tk S w0 w' l m := hT.same hf
/-- A call is handed the first two, three, four. -/
theorem Tk.frame2 {a b : Ob} {l2 : List Ob} (m' : List Ob) (h : Tk S w0 w (a :: b :: l2) m) (hm : ∀ o, o ∈ m' → ∃ o', o' ∈ l2 ++ m ∧ Ob.Ent o' o) : ∃ f, Tk f w w [a, b] m' ∧ ∀ w' l1' m1, Tk f w w' l1' m1 → Tk S w0 w' (l1' ++ l2) m := Tk.frame (l1 := [a, b]) h hm
theorem Tk.frame3 {a b c : Ob} {l2 : List Ob} (m' : List Ob) (h : Tk S w0 w (a :: b :: c :: l2) m) (hm : ∀ o, o ∈ m' → ∃ o', o' ∈ l2 ++ m ∧ Ob.Ent o' o) : ∃ f, Tk f w w [a, b, c] m' ∧ ∀ w' l1' m1, Tk f w w' l1' m1 → Tk S w0 w' (l1' ++ l2) m := Tk.frame (l1 := [a, b, c]) h hm
theorem Tk.frame4 {a b c d : Ob} {l2 : List Ob} (m' : List Ob) (h : Tk S w0 w (a :: b :: c :: d :: l2) m) (hm : ∀ o, o ∈ m' → ∃ o', o' ∈ l2 ++ m ∧ Ob.Ent o' o) : ∃ f, Tk f w w [a, b, c, d] m' ∧ ∀ w' l1' m1, Tk f w w' l1' m1 → Tk S w0 w' (l1' ++ l2) m := Tk.frame (l1 := [a, b, c, d]) h hm
/-- A new block. -/
theorem Tk.oldN (hT : Tk S w0 w l m) (hh : Has w' g T cs'.toArray) (hg : w.heap.size ≤ g) (hf : Fr [] w w') : Tk S w0 w' (Ob.blk g T cs' :: l) m :=
  (hT.call0 [] (fun o ho => (by cases ho))).2 w' [Ob.blk g T cs'] [] ⟨hf, [g], ⟨[g], [], rfl, ⟨rfl, hh⟩, rfl, fun k _ hk => (by cases hk)⟩, fun k hk => (by simp at hk; subst hk; exact .inr hg), fun o ho => (by cases ho)⟩
end
end Go.Fp
namespace Go.Proofs.Ytemhcflaldeakaa
open Go.RowKit Go.Fp
def WinS.cl (s : WinS) : List Value := [.int .i64 s.size, .int .u64 s.boot, .int .u64 s.top, .int .u64 s.seen, .bool s.any]
def CtrS.cl (s : CtrS) : List Value := [.int .u64 s.boot, .int .u64 s.last]
def TollS.cl (s : TollS) : List Value := [.int .i64 s.r.f, .int .i64 s.r.ft, .int .i64 s.r.b, .int .i64 s.r.bt, .int .i64 s.fr, .int .i64 s.bl, .int .i64 s.ow]
instance ratesDec (r : RatesS) : Decidable r.ok := by unfold RatesS.ok; infer_instance
def RatesS.cl (r : RatesS) : List Value := [.int .i64 r.f, .int .i64 r.ft, .int .i64 r.b, .int .i64 r.bt]
section
variable {f : List Nat} {w : World} {m : List Ob}
theorem w_Take (g : Nat) (s : WinS) (b c : Int) (hs : s.ok) (b0 : 0 ≤ b) (c0 : 0 ≤ c) (c1 : c < 18446744073709551616) (hT : Tk f w w [Ob.blk g 97 s.cl] m) :
    Calls Try.prog 34 #[.pointer (some ⟨g, 0, none⟩), .int .u64 b, .int .u64 c] w fun e w' => e = .returned (.int .i64 (takeF s b c).1) ∧ Tk f w w' [Ob.blk g 97 (takeF s b c).2.cl] m :=
  Calls.mono (win_Take g s b c w (hT.has 0 rfl) hs b0 c0 c1) fun _ _ ⟨h1, h2, h3⟩ => ⟨h1, hT.old1 h2 h3⟩
theorem w_New (n : Int) (h1 : 1 ≤ n) (h2 : n ≤ 64) (hT : Tk [] w w [] m) :
    Calls Try.prog 24 #[.int .i64 n] w fun e w' => ∃ g, e = .returned (.tuple #[.pointer (some ⟨g, 0, none⟩), .int .i64 0]) ∧ Tk [] w w' [Ob.blk g 97 (⟨n, 0, 0, 0, false⟩ : WinS).cl] m :=
  Calls.mono (win_New_ok n w h1 h2) fun _ _ ⟨g, h1, h2, h3, h4⟩ => ⟨g, h1, hT.oldN h3 h2 h4⟩
theorem w_Begin (b : Int) (hb : ¬ b = 0) (hT : Tk [] w w [] m) :
    Calls Try.prog 23 #[.int .u64 b] w fun e w' => ∃ g, e = .returned (.tuple #[.pointer (some ⟨g, 0, none⟩), .int .i64 0]) ∧ Tk [] w w' [Ob.blk g 95 (⟨b, 0⟩ : CtrS).cl] m :=
  Calls.mono (win_Begin b w (by simpa using hb)) fun _ _ ⟨g, h1, h2, h3, h4⟩ => ⟨g, h1, hT.oldN h3 h2 h4⟩
theorem w_Next (g : Nat) (s : CtrS) (h0 : 0 ≤ s.last) (h1 : s.last < 18446744073709551615) (hT : Tk f w w [Ob.blk g 95 s.cl] m) :
    Calls Try.prog 37 #[.pointer (some ⟨g, 0, none⟩)] w fun e w' => e = .returned (.tuple #[.int .u64 s.boot, .int .u64 (s.last + 1), .int .i64 0]) ∧ Tk f w w' [Ob.blk g 95 (⟨s.boot, s.last + 1⟩ : CtrS).cl] m :=
  Calls.mono (win_Next g s w (hT.has 0 rfl) h0 h1) fun _ _ ⟨h1, h2, h3⟩ => ⟨h1, hT.old1 h2 h3⟩
theorem w_Next_no (g : Nat) (s : CtrS) (h1 : s.last = 18446744073709551615) (hT : Tk f w w [Ob.blk g 95 s.cl] m) :
    Calls Try.prog 37 #[.pointer (some ⟨g, 0, none⟩)] w fun e w' => e = .returned (.tuple #[.int .u64 0, .int .u64 0, .int .i64 21]) ∧ Tk f w w' [Ob.blk g 95 s.cl] m :=
  Calls.mono (win_Next_no g s w (hT.has 0 rfl) h1) fun _ _ ⟨h1, h2⟩ => ⟨h1, h2 ▸ hT⟩
theorem t_New (r : RatesS) (hr : r.ok) (hT : Tk [] w w [] m) :
    Calls Try.prog 25 #[.agg r.cl.toArray] w fun e w' => ∃ g, e = .returned (.tuple #[.pointer (some ⟨g, 0, none⟩), .int .i64 0]) ∧ Tk [] w w' [Ob.blk g 99 (⟨r, r.f, r.b, 0⟩ : TollS).cl] m :=
  Calls.mono (toll_New_ok r w hr) fun _ _ ⟨g, h1, h2, h3, h4⟩ => ⟨g, h1, hT.oldN h3 h2 h4⟩
theorem t_Right (r : RatesS) (hT : Tk [] w w [] m) :
    Calls Try.prog 36 #[.agg r.cl.toArray] w fun e w' => e = .returned (.bool (bdec r.ok)) ∧ Tk [] w w' [] m := by
  refine Calls.mono (toll_Right r w) fun _ w' => ?_
  rintro ⟨v, rfl, hv, hf⟩
  refine ⟨?_, hT.same hf⟩
  by_cases hr : r.ok
  · rw [hv.2 hr, bdec_true' hr]
  · have : v = false := by cases v; rfl; exact absurd (hv.1 rfl) hr
    rw [this, bdec_false' hr]
theorem t_Frame (g : Nat) (s : TollS) (n : Int) (hs : s.ok) (hT : Tk f w w [Ob.blk g 99 s.cl] m) :
    Calls Try.prog 32 #[.pointer (some ⟨g, 0, none⟩), .int .i64 n] w fun e w' => e = .returned (.int .i64 (frameF s n).1) ∧ Tk f w w' [Ob.blk g 99 (frameF s n).2.cl] m :=
  Calls.mono (toll_Frame g s n w hs (hT.has 0 rfl)) fun _ _ ⟨h1, h2, h3⟩ => ⟨h1, hT.old1 h2 h3⟩
theorem t_Tick (g : Nat) (s : TollS) (n : Int) (hs : s.ok) (hT : Tk f w w [Ob.blk g 99 s.cl] m) :
    Calls Try.prog 26 #[.pointer (some ⟨g, 0, none⟩), .int .i64 n] w fun e w' => e = .returned (.int .i64 (tickF s n).1) ∧ Tk f w w' [Ob.blk g 99 (tickF s n).2.cl] m :=
  Calls.mono (toll_Tick g s n w hs (hT.has 0 rfl)) fun _ _ ⟨h1, h2, h3⟩ => ⟨h1, hT.old1 h2 h3⟩
end
end Go.Proofs.Ytemhcflaldeakaa
/- A NEIGHBOUR, A TABLE of neighbours, plainly, and as memory. -/
namespace Go.Proofs.Ytemhcflaldeakaa
open Go.RowKit Go.Fp
set_option maxHeartbeats 4000000
/-- A neighbour's cells. -/
def oneC (key : List UInt8) (gw gt : Nat) (hd : Int) (hs lv : Bool) : List Value := u8s key ++ [.pointer (some ⟨gw, 0, none⟩), .pointer (some ⟨gt, 0, none⟩), .int .i64 hd, .bool hs, .bool lv]
/-- A table's cells; ps: who its neighbours are. -/
def tabC (self dead win : Int) (r : RatesS) (gc : Nat) (ps : List Value) (now : Int) : List Value :=
  [.int .i64 self, .int .i64 dead, .int .i64 win, .int .i64 r.f, .int .i64 r.ft, .int .i64 r.b, .int .i64 r.bt, .pointer (some ⟨gc, 0, none⟩)] ++ (ps ++ [.int .i64 now])
section
variable {key : List UInt8} (hk : key.length = 32) {gw gt : Nat} {hd : Int} {hs lv : Bool}
include hk
theorem oneC_len : (oneC key gw gt hd hs lv).length = 37 := by simp [oneC, u8s_length, hk]
theorem oneC_at (j : Nat) : (oneC key gw gt hd hs lv)[32 + j]? = [Value.pointer (some ⟨gw, 0, none⟩), .pointer (some ⟨gt, 0, none⟩), .int .i64 hd, .bool hs, .bool lv][j]? := by
  unfold oneC
  rw [List.getElem?_append_right (by rw [u8s_length]; omega), u8s_length, hk, Nat.add_sub_cancel_left]
theorem oneC_set (j : Nat) (v : Value) : (oneC key gw gt hd hs lv).set (32 + j) v = u8s key ++ [Value.pointer (some ⟨gw, 0, none⟩), .pointer (some ⟨gt, 0, none⟩), .int .i64 hd, .bool hs, .bool lv].set j v := by
  unfold oneC
  rw [List.set_append_right _ _ (by rw [u8s_length]; omega), u8s_length, hk, Nat.add_sub_cancel_left]
theorem oneC_key : ((oneC key gw gt hd hs lv).drop 0).take 32 = u8s key := by
  unfold oneC
  rw [List.drop_zero, List.take_append_of_le_length (by rw [u8s_length]; omega), List.take_of_length_le (by rw [u8s_length]; omega)]
theorem oneC_w : (oneC key gw gt hd hs lv)[32]? = some (.pointer (some ⟨gw, 0, none⟩)) := oneC_at hk 0
theorem oneC_t : (oneC key gw gt hd hs lv)[33]? = some (.pointer (some ⟨gt, 0, none⟩)) := oneC_at hk 1
theorem oneC_h : (oneC key gw gt hd hs lv)[34]? = some (.int .i64 hd) := oneC_at hk 2
theorem oneC_hs : (oneC key gw gt hd hs lv)[35]? = some (.bool hs) := oneC_at hk 3
theorem oneC_lv : (oneC key gw gt hd hs lv)[36]? = some (.bool lv) := oneC_at hk 4
theorem oneC_sh (v : Int) : (oneC key gw gt hd hs lv).set 34 (.int .i64 v) = oneC key gw gt v hs lv := oneC_set hk 2 _
theorem oneC_shs (v : Bool) : (oneC key gw gt hd hs lv).set 35 (.bool v) = oneC key gw gt hd v lv := oneC_set hk 3 _
theorem oneC_slv (v : Bool) : (oneC key gw gt hd hs lv).set 36 (.bool v) = oneC key gw gt hd hs v := oneC_set hk 4 _
end
section
variable {self dead win : Int} {r : RatesS} {gc : Nat} {ps : List Value} (hp : ps.length = 8) {now : Int}
include hp
theorem tabC_len : (tabC self dead win r gc ps now).length = 17 := by simp [tabC, hp]
theorem tabC_by (j : Nat) (h : j < 8) {v : Value} (hv : ps[j]? = some v) : (tabC self dead win r gc ps now)[8 + j * 1]? = some v := by
  unfold tabC
  rw [List.getElem?_append_right (by simp), List.getElem?_append_left (by simp; omega), Nat.mul_one]
  rw [show 8 + j - List.length [Value.int IntKind.i64 self, .int .i64 dead, .int .i64 win, .int .i64 r.f, .int .i64 r.ft, .int .i64 r.b, .int .i64 r.bt, .pointer (some ⟨gc, 0, none⟩)] = j from Nat.add_sub_cancel_left ..]
  exact hv
theorem tabC_all : ((tabC self dead win r gc ps now).drop 8).take 8 = ps := by
  show (ps ++ [Value.int IntKind.i64 now]).take 8 = ps
  exact List.take_left' hp
theorem tabC_now : (tabC self dead win r gc ps now)[16]? = some (.int .i64 now) := by
  unfold tabC
  rw [List.getElem?_append_right (by simp), List.getElem?_append_right (by simp; omega)]
  simp [hp]
theorem tabC_snow (v : Int) : (tabC self dead win r gc ps now).set 16 (.int .i64 v) = tabC self dead win r gc ps v := by
  unfold tabC
  rw [List.set_append_right _ _ (by simp), List.set_append_right _ _ (by simp; omega)]
  simp [hp]
theorem tabC_sby (j : Nat) (h : j < 8) (v : Value) : (tabC self dead win r gc ps now).set (8 + j * 1) v = tabC self dead win r gc (ps.set j v) now := by
  unfold tabC
  rw [List.set_append_right _ _ (by simp), List.set_append_left _ _ (by simp; omega), Nat.mul_one]
  rw [show 8 + j - List.length [Value.int IntKind.i64 self, .int .i64 dead, .int .i64 win, .int .i64 r.f, .int .i64 r.ft, .int .i64 r.b, .int .i64 r.bt, .pointer (some ⟨gc, 0, none⟩)] = j from Nat.add_sub_cancel_left ..]
end
theorem tabC_self {self dead win : Int} {r : RatesS} {gc : Nat} {ps : List Value} {now : Int} : (tabC self dead win r gc ps now)[0]? = some (.int .i64 self) := rfl
theorem tabC_dead {self dead win : Int} {r : RatesS} {gc : Nat} {ps : List Value} {now : Int} : (tabC self dead win r gc ps now)[1]? = some (.int .i64 dead) := rfl
theorem tabC_win {self dead win : Int} {r : RatesS} {gc : Nat} {ps : List Value} {now : Int} : (tabC self dead win r gc ps now)[2]? = some (.int .i64 win) := rfl
theorem tabC_gc {self dead win : Int} {r : RatesS} {gc : Nat} {ps : List Value} {now : Int} : (tabC self dead win r gc ps now)[7]? = some (.pointer (some ⟨gc, 0, none⟩)) := rfl
theorem tabC_rates {self dead win : Int} {r : RatesS} {gc : Nat} {ps : List Value} {now : Int} : ((tabC self dead win r gc ps now).drop 3).take 4 = r.cl := rfl
theorem hdP_ok {bs : List UInt8} (h : (hdP bs).2.2 = 0) : (hdP bs).1.ok ∧ (hdP bs).1.wf := by
  have hE : hdE bs = 0 := by
    apply Classical.byContradiction; intro hE
    unfold hdP at h
    rw [if_pos hE] at h
    exact hE h
  have hok : (hdF bs).ok := by
    apply Classical.byContradiction; intro hok
    unfold hdP at h
    rw [if_neg (fun h => h hE), if_neg hok] at h
    cases h
  have hp : hdP bs = (hdF bs, bs.length - (hd7 bs).1.length, 0) := by
    unfold hdP; rw [if_neg (fun h => h hE), if_pos hok]
  rw [hp]
  exact ⟨hok, nm_lt 8 _, nm_lt 8 _⟩
/-- A neighbour's state. -/
structure NbS where
  w : WinS
  t : TollS
  hd : Int
/-- What comes of a frame that came, of a neighbour. -/
noncomputable def admF (key : List UInt8) (self now : Int) (s : NbS) (bs : List UInt8) : (Fm × Int) × NbS :=
  let f := (hdP bs).1
  if ¬ f.to = self then ((noF, 29), s)
  else let t := frameF s.t (shaB (22 + f.body.length) + 3)
    if ¬ t.1 = 0 then ((noF, t.1), { s with t := t.2 })
    else if ¬ (opP key bs).2 = 0 then ((noF, (opP key bs).2), { s with t := t.2 })
    else let k := takeF s.w f.bt f.ct
      if ¬ k.1 = 0 then ((noF, k.1), { s with t := t.2, w := k.2 })
      else ((f, 0), { s with t := t.2, w := k.2, hd := now })
end Go.Proofs.Ytemhcflaldeakaa
/- PLAIN LAWS of what a frame that came costs. -/
namespace Go.Proofs.Ytemhcflaldeakaa
open Go.RowKit Go.Fp
/-- A frame's bytes, whatever stands in its tag's place. -/
theorem hdP_tagged {r : Fm} (hr : r.ok) (hw : r.wf) {t : List UInt8} (ht : t.length = 16) : hdP (r.bytes ++ t) = (r, r.bytes.length, 0) := by
  obtain ⟨h1, h2, h3⟩ := hd_fwd hr hw ht
  unfold hdP
  rw [h1, h2, if_neg (fun h => h rfl), if_pos hr, h3, List.length_append, ht, Nat.add_sub_cancel]
theorem or64 (x y : Int) : 0 ≤ bits .or .u64 (IntKind.u64.wrap x) (IntKind.u64.wrap y) ∧ bits .or .u64 (IntKind.u64.wrap x) (IntKind.u64.wrap y) < 18446744073709551616 := by
  rw [wrap_u64, wrap_u64]
  obtain ⟨a, ha⟩ : ∃ a : Nat, x % 18446744073709551616 = a := ⟨(x % 18446744073709551616).toNat, by omega⟩
  obtain ⟨b, hb⟩ : ∃ b : Nat, y % 18446744073709551616 = b := ⟨(y % 18446744073709551616).toNat, by omega⟩
  rw [ha, hb]
  have := or_nat a b (by omega) (by omega)
  rw [this.1]
  omega
theorem wrap_id {n : Int} (h0 : 0 ≤ n) (h1 : n < 18446744073709551616) : IntKind.u64.wrap n = n := by rw [wrap_u64]; omega
theorem take_ok {s : WinS} (h : s.ok) {b c : Int} (b0 : 0 ≤ b) (b1 : b < 18446744073709551616) (c0 : 0 ≤ c) (c1 : c < 18446744073709551616) : (takeF s b c).2.ok := by
  unfold WinS.ok at h
  unfold takeF
  split
  · exact h
  split
  · exact h
  split
  · unfold WinS.ok; dsimp only; omega
  split
  · unfold WinS.ok
    dsimp only
    split
    · have := or64 (s.seen * 2 ^ (c - s.top).toNat) 1
      rw [wrap_id (n := 1) (by decide) (by decide)] at this
      omega
    · omega
  · unfold WinS.ok
    dsimp only
    have := or64 s.seen (2 ^ min (s.top - c).toNat 64)
    rw [wrap_id (n := s.seen) (by omega) (by omega)] at this
    omega
theorem frame_ok {s : TollS} (h : s.ok) {n : Int} (h0 : 0 ≤ n) : (frameF s n).2.ok ∧ (frameF s n).2.r = s.r ∧ ((frameF s n).1 = 0 ∧ (frameF s n).2.bl = s.bl - n ∨ (frameF s n).1 = 26 ∧ (frameF s n).2 = s) := by
  unfold frameF
  rw [if_neg (by omega)]
  unfold TollS.ok RatesS.ok at *
  split
  · exact ⟨h, rfl, .inr ⟨rfl, rfl⟩⟩
  split
  · exact ⟨h, rfl, .inr ⟨rfl, rfl⟩⟩
  · exact ⟨by dsimp only; omega, rfl, .inl ⟨rfl, rfl⟩⟩
/-- What a frame that came costs: all, or it was refused for want of tokens. -/
theorem adm_pays (key : List UInt8) (self now : Int) (s : NbS) (bs : List UInt8) (hE : (hdP bs).2.2 = 0) (hto : (hdP bs).1.to = self) (hw : s.w.ok) (ht : s.t.ok) :
    (admF key self now s bs).2.w.ok ∧ (admF key self now s bs).2.t.ok ∧ (admF key self now s bs).2.t.r = s.t.r ∧
      ((admF key self now s bs).2.t.bl = s.t.bl - (shaB (22 + (hdP bs).1.body.length) + 3) ∨ (admF key self now s bs).1.2 = 26 ∧ (admF key self now s bs).2.t.bl = s.t.bl) := by
  have hwf := (hdP_ok hE).2
  unfold Fm.wf at hwf
  have hZ := (shaB_bd (n := 22 + ((hdP bs).1.body.length : Int)) (by omega)).1
  obtain ⟨f1, f2, f3⟩ := frame_ok ht (n := shaB (22 + (hdP bs).1.body.length) + 3) (by omega)
  have hk := take_ok hw (b := (hdP bs).1.bt) (c := (hdP bs).1.ct) (by omega) (by omega) (by omega) (by omega)
  unfold admF
  rw [if_neg (fun h => h hto)]
  dsimp only
  rcases f3 with ⟨e, hb⟩ | ⟨e, hs⟩
  · rw [if_neg (fun h => h e)]
    split
    · exact ⟨hw, f1, f2, .inl hb⟩
    split
    · exact ⟨hk, f1, f2, .inl hb⟩
    · exact ⟨hk, f1, f2, .inl hb⟩
  · rw [if_pos (by rw [e]; decide)]
    exact ⟨hw, f1, f2, .inr ⟨e, congrArg TollS.bl hs⟩⟩
theorem tick_bl {s : TollS} (h : s.ok) : (tickF s 1).2.ok ∧ (tickF s 1).2.r = s.r ∧ (tickF s 1).2.bl ≤ s.bl + s.r.bt := by
  unfold TollS.ok RatesS.ok at h
  have h1 := fill_in (a := s.fr) (b := s.r.ft) (c := s.r.f) (d := 1) (by omega) (by omega) (by omega)
  have h2 := fill_in (a := s.bl) (b := s.r.bt) (c := s.r.b) (d := 1) (by omega) (by omega) (by omega)
  have h3 : fillF s.bl s.r.bt s.r.b 1 ≤ s.bl + s.r.bt := by
    unfold fillF
    split
    · rename_i hb
      split
      · rename_i hq
        have h4 := Int.lt_ediv_add_one_mul_self (s.r.b - s.bl + s.r.bt - 1) hb
        have h5 : ((s.r.b - s.bl + s.r.bt - 1) / s.r.bt + 1) * s.r.bt ≤ 2 * s.r.bt := Int.mul_le_mul_of_nonneg_right (by omega) (by omega)
        omega
      · omega
    · omega
  unfold tickF
  rw [if_neg (by decide)]
  refine ⟨?_, rfl, h3⟩
  unfold TollS.ok RatesS.ok
  dsimp only
  omega
def mostI (r : RatesS) (t : Int) : Int := r.b + r.bt * t
theorem mostF_succ (r : RatesS) (t : Int) : mostI r (t + 1) = mostI r t + r.bt := by unfold mostI; rw [Int.mul_add]; omega
end Go.Proofs.Ytemhcflaldeakaa
/- STEPS of a script, as memory. -/
namespace Go.Proofs.Ytemhcflaldeakaa
open Go.ChangeShapes Go.RowKit Go.Fp
set_option maxHeartbeats 4000000
structure Stp where
  kd : Int
  id : Int
  n : Int
  key : List UInt8
  bx : Option Addr
  bc : Nat
  body : List UInt8
  hd : Nat
  bt : Nat
  ct : Nat
  pos : Int
  turn : UInt8
def Stp.tail (o : Stp) : List Value := [.slice o.bx o.body.length o.bc, .int .u8 o.hd, .int .u64 o.bt, .int .u64 o.ct, .int .i64 o.pos, u8 o.turn]
def Stp.cells (o : Stp) : List Value := [.int .i64 o.kd, .int .i64 o.id, .int .i64 o.n] ++ (u8s o.key ++ o.tail)
def Stp.Ok (o : Stp) : Prop := o.key.length = 32 ∧ (o.bx = none → o.body.length = 0 ∧ o.bc = 0) ∧ o.hd < 256 ∧ o.bt < 18446744073709551616 ∧ o.ct < 18446744073709551616
def Stp.ob (o : Stp) : Ob := Ob.rd o.bx o.body.length 1 (u8s o.body)
theorem Stp.len {o : Stp} (h : o.Ok) : o.cells.length = 41 := by
  unfold Stp.cells Stp.tail
  rw [List.length_append, List.length_append, u8s_length, h.1]; rfl
theorem Stp.all1 (o : Stp) : o.cells.all (·.oneCell') = true := by
  unfold Stp.cells Stp.tail
  rw [List.all_append, List.all_append]
  have : (u8s o.key).all (·.oneCell') = true := List.all_eq_true.2 (u8s_all1 _)
  rw [this]; rfl
theorem Stp.at {o : Stp} (h : o.Ok) (j : Nat) : o.cells[35 + j]? = o.tail[j]? := by
  unfold Stp.cells
  rw [List.getElem?_append_right (by simp; omega), List.getElem?_append_right (by simp [u8s_length, h.1]; omega)]
  congr 1
  simp [u8s_length, h.1]; omega
theorem Stp.c0 (o : Stp) : o.cells[0]? = some (.int .i64 o.kd) := rfl
theorem Stp.cB {o : Stp} (h : o.Ok) : o.cells[35]? = some (.slice o.bx o.body.length o.bc) := o.at h 0
theorem Stp.cT {o : Stp} (h : o.Ok) : o.cells[40]? = some (u8 o.turn) := o.at h 5
theorem stps_len {os : List Stp} (h : ∀ o, o ∈ os → o.Ok) : ∀ l, l ∈ os.map Stp.cells → l.length = 41 := fun l hl => by
  obtain ⟨o, ho, rfl⟩ := List.mem_map.1 hl
  exact Stp.len (h o ho)
section
variable {H : Type} {enc : TypeId × Value → H} {w : World} {m : Nat}
def stpKs : List Ck := [.int .i64, .int .i64, .int .i64] ++ (List.replicate 32 (.int .u8) ++ [.slc 5, .int .u8, .int .u64, .int .u64, .int .i64, .int .u8])
theorem stps_open {v : Value} (h : CellIs enc Try.prog w m (.slc 39) v) :
    ∃ (x : Option Addr) (c : Nat) (os : List Stp), v = .slice x os.length c ∧ os.length ≤ c ∧ c ≤ maxLen ∧ Rdz w x os.length 41 (os.map Stp.cells).flatten ∧ ∀ o, o ∈ os → o.Ok ∧ Rdz w o.bx o.body.length 1 (u8s o.body) := by
  obtain ⟨x, c, os, h1, h2, h3, h4, h5, h6, h7⟩ := rows_open 6 (ks := stpKs) Stp.cells (fun o => o.Ok ∧ Rdz w o.bx o.body.length 1 (u8s o.body)) (by kernel_rfl) (by kernel_rfl) (by decide) (fun cs h => by
    obtain ⟨a, b, rfl, h1, h2⟩ := All2.split (ks := [.int .i64, .int .i64, .int .i64]) (ks' := List.replicate 32 (.int .u8) ++ [.slc 5, .int .u8, .int .u64, .int .u64, .int .i64, .int .u8]) h
    obtain ⟨a1, a2, rfl, h3, h4⟩ := h2.split
    obtain ⟨k1, c1, rfl, ⟨kd, rfl, _⟩, h5⟩ := h1.cons
    obtain ⟨k2, c2, rfl, ⟨id, rfl, _⟩, h6⟩ := h5.cons
    obtain ⟨k3, c3, rfl, ⟨n, rfl, _⟩, h7⟩ := h6.cons
    obtain rfl := h7.nil
    obtain ⟨key, hkey, rfl⟩ := h3.bytes
    obtain ⟨k4, c4, rfl, hb, h8⟩ := h4.cons
    obtain ⟨k5, c5, rfl, h9, h10⟩ := h8.cons
    obtain ⟨k6, c6, rfl, ⟨bt, rfl, wbt⟩, h11⟩ := h10.cons
    obtain ⟨k7, c7, rfl, ⟨ct, rfl, wct⟩, h12⟩ := h11.cons
    obtain ⟨k8, c8, rfl, ⟨pos, rfl, _⟩, h13⟩ := h12.cons
    obtain ⟨k9, c9, rfl, h14, h15⟩ := h13.cons
    obtain rfl := h15.nil
    obtain ⟨hd, rfl⟩ := h9.u8
    obtain ⟨turn, rfl⟩ := h14.u8
    obtain ⟨bx, bc, body, rfl, _, _, _, b5, b6⟩ := bytes_open (by kernel_rfl) (by kernel_rfl) hb
    have wbt := wf_u64 wbt
    have wct := wf_u64 wct
    refine ⟨⟨kd, id, n, key, bx, bc, body, hd.toNat, bt.toNat, ct.toNat, pos, turn⟩, ?_, ⟨⟨hkey, b5, hd.toNat_lt, by dsimp only; omega, by dsimp only; omega⟩, b6⟩⟩
    have e1 : ((bt.toNat : Nat) : Int) = bt := by omega
    have e2 : ((ct.toNat : Nat) : Int) = ct := by omega
    simp [Stp.cells, Stp.tail, u8, e1, e2]) h
  exact ⟨x, c, os, h1, h2, h3, h6, h7⟩
end
end Go.Proofs.Ytemhcflaldeakaa
