/- THE WALK of WindowOnce. -/
import Derived.Test.YtbjopppgiklfkaaWinOnceP
import Derived.Test.YtbjopppgiklfkaaLaw02a
import Derived.Maps.RangeWalk
import Derived.Deep.DeepCutAuto
namespace Go.Proofs.Ytbjopppgiklfkaa
open Go.RowKit Go.Fp Go.WideMaps

def WonceRel (len : Nat) (g mb : Nat) (w : World) (s8 s31 : Value) (wr : World) : Prop :=
  ∃ (k : Nat) (s : WinS) (l : List Int) (D : DataW Unit) (hi : Int), k ≤ len ∧ s31 = .int .i64 k ∧ s8 = .int .u64 hi ∧ 0 ≤ hi ∧ hi ≤ s.boot ∧ WInv s l ∧ TakenOk D s l ∧
    wr.ownsMap Try.prog 32 (plainElem Try.prog 3) mb k D ∧ w.heap.size ≤ mb ∧ Trk w wr [(g, 54, s.cs)]

set_option maxHeartbeats 4000000 in
set_option maxRecDepth 100000 in
theorem law02_Once (size : Int) (x : Option Addr) (len cap B off : Nat) (w : World) (hx0 : 0 < len → x = some ⟨B, off, none⟩ ∧ B < w.heap.size) (hlen : len ≤ 9223372036854775807)
    (hc : ∀ i, i < len → ∃ b c : Int, (Lit.int .u64 b).wf = true ∧ (Lit.int .u64 c).wf = true ∧ w.cell? ⟨B, off + i * 2, none⟩ = some (.int .u64 b) ∧ w.cell? ⟨B, off + i * 2 + 1, none⟩ = some (.int .u64 c)) :
    Calls Try.prog 3 #[.int .i64 size, .slice x len cap] w fun e w' => e = .returned (.bool true) ∧ Fr [] w w' := by
  have hT := Trk.refl w
  refine calls_cps fun R hR => ?_
  have hu : IntKind.u64.wrap size = size % 18446744073709551616 := by simp [IntKind.wrap, IntKind.bits, IntKind.signed]
  have hs1 : 1 ≤ 1 + size % 64 := by omega
  have hs2 : 1 + size % 64 ≤ 64 := by omega
  have hmm := @run_makeMap Try.prog
  go_enter Try.func3, Try.ntmps3
  go_wp2_with (first
    | (go_at_call 7; refine (win_New_ok (1 + size % 64) _ hs1 hs2).mono ?_; rintro e w' ⟨g, rfl, hg, h0, fq⟩; replace hT := hT.new fq hg h0)
    | (go_at_call 8; refine (law02_awake _).mono ?_; rintro e w' ⟨rfl, fq⟩; replace hT := hT.call fq))
  clear hu hmm
  have hM := World.ownsMap_made (H := Unit) w' Try.prog 32 (plainElem Try.prog 3)
  have hmb := hT.fr.size
  replace hT := hT.allocs (.map #[] 0)
  generalize w'.heap.size = mb at hM hmb ⊢
  go_loopw [8, 31] (WonceRel len g mb w) (fun _ i _ => len - (intOf i).toNat)
  case atStart =>
    exact ⟨0, ⟨1 + size % 64, 0, 0, 0, false⟩, [], .map [], 0, by omega, rfl, rfl, by omega, by simp, ⟨by simp only [WinS.ok]; omega, fun _ => ⟨rfl, rfl, rfl⟩, (by simp), fun h => (by cases h)⟩, takenOk_start _ _, hM, hmb, hT⟩
  case round =>
    obtain ⟨k, s, l, D, hi, hk, rfl, rfl, hi0, hi1, hI, hD, hM, hmb, hT⟩ := hrel
    by_cases hlt : k < len
    · obtain ⟨rfl, hB⟩ := hx0 (by omega)
      obtain ⟨ob, oc, wb, wc, hck1, hck2⟩ := hc k hlt
      obtain ⟨b0, b1⟩ := wf_u64 wb
      obtain ⟨o0, o1⟩ := wf_u64 wc
      rw [← hT.fr.cell hB (by simp)] at hck1 hck2
      clear hc hx0
      have hT1 := hT.alloc #[.int .u64 ob, .int .u64 oc] 32
      have q0 := (hT1.has 0 rfl).cell
      obtain ⟨r, s', fv, hst, d1, d2⟩ := onceStep hI b0 b1 o0 o1
      have HI := Fp.hid hI
      have HD := Fp.hid hD
      have HM := Fp.hid (hM.alloc (.cells #[.int .u64 ob, .int .u64 oc] 32 (0, 0)))
      have hmg := map_ne hM (hT.has 0 rfl)
      have hmo := map_ne HM.out (hT1.has 0 rfl)
      clear hI hD hM
      rcases hst with ⟨rfl, hr, rfl⟩ | ⟨rfl, rfl, e1, e2, e3, e4, l', e5, e6⟩
      · go_wp2_with (first
    | (go_at_call 9; (with_reducible refine Calls.mono (d1 _ _ ?_) ?_); (focus exact (hT1.has 1 rfl)); rintro e w' ⟨rfl, hq⟩; subst w')
    | (go_at_call 10; (with_reducible refine Calls.mono (d2 _ _ ?_) ?_); (focus exact (hT1.has 1 rfl)); rintro e w3 ⟨rfl, h3, f3⟩; have hT3 := hT1.put 1 rfl f3 h3; have hM3 := map_fr HM.out f3 (by simpa using hmg)))
        exact ⟨⟨k + 1, s', l, D, hi, by omega, by go_num, rfl, hi0, hi1, HI.out, HD.out, hM3.mono (by omega), hmb, hT3.drop 0⟩, by simp only [intOf]; omega⟩
      · have HE5 := Fp.hid e5
        have HE6 := Fp.hid e6
        have HE4 := Fp.hid e4
        clear e5 e6 e4
        have hh : ¬ ob < hi := by omega
        go_wp2_with (first
    | (go_at_call 9; (with_reducible refine Calls.mono (d1 _ _ ?_) ?_); (focus exact (hT1.has 1 rfl)); rintro e w' ⟨rfl, hq⟩; subst w')
    | (go_at_call 10; (with_reducible refine Calls.mono (d2 _ _ ?_) ?_); (focus exact (hT1.has 1 rfl)); rintro e w3 ⟨rfl, h3, f3⟩; have hT3 := hT1.put 1 rfl f3 h3; have hM3 := Fp.hid (map_fr HM.out f3 (by simpa using hmg)); clear q0; have q0 := (hT3.has 0 rfl).cell)
    | (at_lookup; refine wpList_lookup_own_int (H := Unit) _ rfl _ _ 29 rfl 32 3 .i64 opLaw Try.underlying29 Try.underlying3 (zeroInt _) mb k D rfl hM3.out _ _ rfl (opKey wb wc) ?_; intro n0 hat hwn; obtain rfl := HD.out.zero wb wc HE4.out hat)
    | (at_mapUpdate; refine wpList_mapUpdate_own (H := Unit) _ rfl _ _ _ 29 rfl 32 3 opLaw Try.underlying29 _ mb k D rfl hM3.out (by unfold maxLen; omega) _ _ _ rfl rfl (opKey wb wc) _ [] (plainElem_int Try.underlying3 (by decide)) ?_; intro w4 hm4 hg4; have hT4 := hT3.step (fr_grownS hg4) (by simp; exact ⟨Ne.symm hmo, Ne.symm hmg⟩) (by simpa using hmb); have HM4 := Fp.hid hm4; clear hm4 q0; have q0 := (hT4.has 0 rfl).cell))
        exact ⟨⟨k + 1, s', l', _, ob, by omega, by go_num, (by congr 1; split <;> omega), b0, by omega, HE5.out, HD.out.put wb wc HE6.out _, HM4.out, hmb, hT4.drop 0⟩, by simp only [intOf]; omega⟩
    · have hk6 : (len : Int) ≤ k := by omega
      clear hc hx0
      go_wp2_with fail
      exact hR.out _ _ ⟨rfl, hT.fr⟩
end Go.Proofs.Ytbjopppgiklfkaa
