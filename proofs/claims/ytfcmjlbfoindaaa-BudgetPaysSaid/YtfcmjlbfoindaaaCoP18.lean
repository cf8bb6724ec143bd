/- PLAIN LAWS of what a frame that came costs. -/
import Derived.Test.YtfcmjlbfoindaaaPrK18
import Derived.Test.YtfcmjlbfoindaaaWinInv
import Derived.Test.YtfcmjlbfoindaaaBackP12
namespace Go.Proofs.Ytfcmjlbfoindaaa
open Go.RowKit Go.Fp
/-- A frame's bytes, whatever stands in its tag's place. -/
theorem hdP_tagged {r : Fm} (hr : r.ok) (hw : r.wf) {t : List UInt8} (ht : t.length = 16) : hdP (r.bytes ++ t) = (r, r.bytes.length, 0) := by
  obtain ⟨h1, h2, h3⟩ := hd_fwd hr hw ht
  unfold hdP
  rw [h1, h2, if_neg (fun h => h rfl), if_pos hr, h3, List.length_append, ht, Nat.add_sub_cancel]
theorem or64 (x y : Int) : 0 ≤ bits .or .u64 (IntKind.u64.wrap x) (IntKind.u64.wrap y) ∧ bits .or .u64 (IntKind.u64.wrap x) (IntKind.u64.wrap y) < 18446744073709551616 := by
  rw [wrap_u64, wrap_u64]
  obtain ⟨a, ha⟩ : ∃ a : Nat, x % 18446744073709551616 = a := ⟨(x % 18446744073709551616).toNat, by omega⟩
  obtain ⟨b, hb⟩ : ∃ b : Nat, y % 18446744073709551616 = b := ⟨(y % 18446744073709551616).toNat, by omega⟩
  rw [ha, hb]
  have := or_nat a b (by omega) (by omega)
  rw [this.1]
  omega
theorem wrap_id {n : Int} (h0 : 0 ≤ n) (h1 : n < 18446744073709551616) : IntKind.u64.wrap n = n := by rw [wrap_u64]; omega
theorem take_ok {s : WinS} (h : s.ok) {b c : Int} (b0 : 0 ≤ b) (b1 : b < 18446744073709551616) (c0 : 0 ≤ c) (c1 : c < 18446744073709551616) : (takeF s b c).2.ok := by
  unfold WinS.ok at h
  unfold takeF
  split
  · exact h
  split
  · exact h
  split
  · unfold WinS.ok; dsimp only; omega
  split
  · unfold WinS.ok
    dsimp only
    split
    · have := or64 (s.seen * 2 ^ (c - s.top).toNat) 1
      rw [wrap_id (n := 1) (by decide) (by decide)] at this
      omega
    · omega
  · unfold WinS.ok
    dsimp only
    have := or64 s.seen (2 ^ min (s.top - c).toNat 64)
    rw [wrap_id (n := s.seen) (by omega) (by omega)] at this
    omega
theorem frame_ok {s : TollS} (h : s.ok) {n : Int} (h0 : 0 ≤ n) : (frameF s n).2.ok ∧ (frameF s n).2.r = s.r ∧ ((frameF s n).1 = 0 ∧ (frameF s n).2.bl = s.bl - n ∨ (frameF s n).1 = 26 ∧ (frameF s n).2 = s) := by
  unfold frameF
  rw [if_neg (by omega)]
  unfold TollS.ok RatesS.ok at *
  split
  · exact ⟨h, rfl, .inr ⟨rfl, rfl⟩⟩
  split
  · exact ⟨h, rfl, .inr ⟨rfl, rfl⟩⟩
  · exact ⟨by dsimp only; omega, rfl, .inl ⟨rfl, rfl⟩⟩
/-- What a frame that came costs: all, or it was refused for want of tokens. -/
theorem adm_pays (key : List UInt8) (self now : Int) (s : NbS) (bs : List UInt8) (hE : (hdP bs).2.2 = 0) (hto : (hdP bs).1.to = self) (hw : s.w.ok) (ht : s.t.ok) :
    (admF key self now s bs).2.w.ok ∧ (admF key self now s bs).2.t.ok ∧ (admF key self now s bs).2.t.r = s.t.r ∧
      ((admF key self now s bs).2.t.bl = s.t.bl - (shaB (22 + (hdP bs).1.body.length) + 3) ∨ (admF key self now s bs).1.2 = 26 ∧ (admF key self now s bs).2.t.bl = s.t.bl) := by
  have hwf := (hdP_ok hE).2
  unfold Fm.wf at hwf
  have hZ := (shaB_bd (n := 22 + ((hdP bs).1.body.length : Int)) (by omega)).1
  obtain ⟨f1, f2, f3⟩ := frame_ok ht (n := shaB (22 + (hdP bs).1.body.length) + 3) (by omega)
  have hk := take_ok hw (b := (hdP bs).1.bt) (c := (hdP bs).1.ct) (by omega) (by omega) (by omega) (by omega)
  unfold admF
  rw [if_neg (fun h => h hto)]
  dsimp only
  rcases f3 with ⟨e, hb⟩ | ⟨e, hs⟩
  · rw [if_neg (fun h => h e)]
    split
    · exact ⟨hw, f1, f2, .inl hb⟩
    split
    · exact ⟨hk, f1, f2, .inl hb⟩
    · exact ⟨hk, f1, f2, .inl hb⟩
  · rw [if_pos (by rw [e]; decide)]
    exact ⟨hw, f1, f2, .inr ⟨e, congrArg TollS.bl hs⟩⟩
theorem tick_bl {s : TollS} (h : s.ok) : (tickF s 1).2.ok ∧ (tickF s 1).2.r = s.r ∧ (tickF s 1).2.bl ≤ s.bl + s.r.bt := by
  unfold TollS.ok RatesS.ok at h
  have h1 := fill_in (a := s.fr) (b := s.r.ft) (c := s.r.f) (d := 1) (by omega) (by omega) (by omega)
  have h2 := fill_in (a := s.bl) (b := s.r.bt) (c := s.r.b) (d := 1) (by omega) (by omega) (by omega)
  have h3 : fillF s.bl s.r.bt s.r.b 1 ≤ s.bl + s.r.bt := by
    unfold fillF
    split
    · rename_i hb
      split
      · rename_i hq
        have h4 := Int.lt_ediv_add_one_mul_self (s.r.b - s.bl + s.r.bt - 1) hb
        have h5 : ((s.r.b - s.bl + s.r.bt - 1) / s.r.bt + 1) * s.r.bt ≤ 2 * s.r.bt := Int.mul_le_mul_of_nonneg_right (by omega) (by omega)
        omega
      · omega
    · omega
  unfold tickF
  rw [if_neg (by decide)]
  refine ⟨?_, rfl, h3⟩
  unfold TollS.ok RatesS.ok
  dsimp only
  omega
def mostI (r : RatesS) (t : Int) : Int := r.b + r.bt * t
theorem mostF_succ (r : RatesS) (t : Int) : mostI r (t + 1) = mostI r t + r.bt := by unfold mostI; rw [Int.mul_add]; omega
end Go.Proofs.Ytfcmjlbfoindaaa
/- THE WALK of Toll; what an admitted frame costs, where there is enough. -/
namespace Go.Proofs.Ytfcmjlbfoindaaa
open Go.RowKit Go.Fp
attribute [local irreducible] Go.Calls
set_option maxRecDepth 100000
set_option maxHeartbeats 4000000
attribute [local irreducible] oneC tabC
theorem peer_Toll (self dead win : Int) (r : RatesS) (gc g : Nat) (ps : List Value) (hp : ps.length = 8) (now : Int) (j go gw gt : Nat) (hj : j < 8) (hv : ps[j]? = some (.pointer (some ⟨go, 0, none⟩))) (key : List UInt8) (hk : key.length = 32) (hd : Int) (a b : Bool) (f : List Nat) (w : World) {m : List Ob}
    (hT : Tk f w w [Ob.blk g 139 (tabC self dead win r gc ps now), Ob.blk go 147 (oneC key gw gt hd a b)] m) :
    Calls Try.prog 33 #[.pointer (some ⟨g, 0, none⟩), .int .i64 j] w fun e w' => e = .returned (.pointer (some ⟨gt, 0, none⟩)) ∧ Tk f w w' [Ob.blk g 139 (tabC self dead win r gc ps now), Ob.blk go 147 (oneC key gw gt hd a b)] m := by
  refine enter [(0, _), (1, _)] Try.func33 rfl Try.ntmps33 (Nat.le_of_ble_eq_true rfl) rfl ?_; intro a0 hN
  repeat' (first
    | (refine isT ?_; (first | (refine T_assign hN rfl (by first | exact .inr trivial | exact .inl rfl) ?_) | (refine T_fieldAddr hN rfl (by first | exact .inr trivial | exact .inl rfl) ?_) | (refine T_move hN rfl (by first | exact .inr trivial | exact .inl rfl) ?_) | (refine T_nilCheck hN rfl (by first | exact .inr trivial | exact .inl rfl) ?_) | (refine T_nil ?_) | (refine is_load ?_; (first | (refine T_load (d := 14) hN rfl (hT.has 1 rfl) (oneC_t hk) (by first | exact .inl rfl | exact .inr ⟨by decide, trivial⟩) ?_))) | (refine is_binOp ?_; (first | (refine T_eqlnil hN rfl rfl (by first | exact .inr trivial | exact .inl rfl) ?_))) | (refine is_call ?_; (first | ((refine is_call ?_; obtain ⟨f1, hP, hK⟩ := hT.call1m 0 rfl; refine T_call (f := 63) hN rfl (by decide) (find_in hp hP j hj hv) ?_; rintro e ww ⟨rfl, h1⟩; clear hT hP; replace hT := hK _ _ _ _ h1; clear hK h1; refine ⟨_, rfl, (by first | exact trivial | ((repeat' (first | exact hT.has 0 rfl | exact hT.has 1 rfl | exact hT.has 2 rfl | exact hT.has 3 rfl | exact hT.has 4 rfl | exact hT.has 5 rfl | exact hT.ord 0 rfl | exact hT.ord 1 rfl | exact hT.ord 2 rfl | exact hT.ord 3 rfl | exact hT.ord 4 rfl | exact hT.ord 5 rfl | exact hT.mrd (by assumption) | refine And.intro ?_ ?_)); done)), ?_⟩); replace hT := hT.sel [0, 0] rfl)))))
    | (refine isC ?_; (first | (refine C_seq ?_) | (refine C_rgnk (id := 0) hN [(0, _), (1, _)] ⟨rfl, rfl, trivial⟩ ?_; clear hN; intro a0 hN) | (refine C_rgnk (id := 1) hN [(0, _), (1, _), (4, _)] ⟨rfl, rfl, rfl, trivial⟩ ?_; clear hN; intro a0 hN) | (refine C_rgnk (id := 2) hN [(0, _), (1, _), (4, _), (5, _)] ⟨rfl, rfl, rfl, rfl, trivial⟩ ?_; clear hN; intro a0 hN) | (refine C_rgnk (id := 4) hN [(0, _), (1, _), (4, _), (5, _), (10, _)] ⟨rfl, rfl, rfl, rfl, rfl, trivial⟩ ?_; clear hN; intro a0 hN) | (refine C_false hN rfl ?_) | (refine C_skip ?_) | (refine C_ret ?_)))
    | (refine isE ?_; (first | (refine E_thn ?_) | (refine E_ret hN Try.results33 (.tmp rfl .nil) ?_))))
  all_goals first
    | exact ⟨rfl, hT⟩
    | fail "T"
theorem op_err {key bs : List UInt8} (h : (hdP bs).2.2 = 0) : (opP key bs).2 = 0 ∨ (opP key bs).2 = 24 := by
  unfold opP
  rw [if_neg (fun hn => hn h)]
  split
  · exact .inl rfl
  · exact .inr rfl
theorem take_err {s : WinS} {b c : Int} (hb : ¬ b = 0) (hc : ¬ c = 0) : (takeF s b c).1 = 0 ∨ (takeF s b c).1 = 25 := by
  unfold takeF
  rw [if_neg (fun h => h.elim hb hc)]
  split
  · exact .inr rfl
  split
  · exact .inl rfl
  split
  · exact .inl rfl
  · exact .inl rfl
theorem adm_enough (key : List UInt8) (self now : Int) (s : NbS) (bs : List UInt8) (hE : (hdP bs).2.2 = 0) (hto : (hdP bs).1.to = self) (hf : 1 ≤ s.t.fr) (hb : shaB (22 + (hdP bs).1.body.length) + 3 ≤ s.t.bl) :
    (admF key self now s bs).2.t.bl = s.t.bl - (shaB (22 + (hdP bs).1.body.length) + 3) ∧ (admF key self now s bs).2.t.fr = s.t.fr - 1 ∧ ((admF key self now s bs).1.2 = 0 ∨ (admF key self now s bs).1.2 = 24 ∨ (admF key self now s bs).1.2 = 25) := by
  have hok := (hdP_ok hE).1
  unfold Fm.ok at hok
  have hZ := (shaB_bd (n := 22 + ((hdP bs).1.body.length : Int)) (by omega)).1
  have hfr : frameF s.t (shaB (22 + (hdP bs).1.body.length) + 3) = (0, { s.t with fr := s.t.fr - 1, bl := s.t.bl - (shaB (22 + (hdP bs).1.body.length) + 3) }) := by
    unfold frameF
    rw [if_neg (by omega), if_neg (by omega), if_neg (by omega)]
  have ho := op_err (key := key) hE
  have ht := take_err (s := s.w) (b := (hdP bs).1.bt) (c := (hdP bs).1.ct) (by omega) (by omega)
  unfold admF
  rw [if_neg (fun h => h hto)]
  dsimp only
  rw [hfr]
  dsimp only
  rw [if_neg (fun h => h rfl)]
  split
  · rename_i h
    exact ⟨rfl, rfl, .inr (.inl (ho.resolve_left h))⟩
  split
  · rename_i h
    exact ⟨rfl, rfl, .inr (.inr (ht.resolve_left h))⟩
  · exact ⟨rfl, rfl, .inl rfl⟩
end Go.Proofs.Ytfcmjlbfoindaaa
