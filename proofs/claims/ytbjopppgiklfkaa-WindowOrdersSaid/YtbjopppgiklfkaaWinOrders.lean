/- THE WALK of WindowOrders. -/
import Derived.Test.YtbjopppgiklfkaaWinOrdP
import Derived.Test.YtbjopppgiklfkaaLaw02a
import Derived.Maps.AppendAt
import Derived.Deep.DeepCutAuto
namespace Go.Proofs.Ytbjopppgiklfkaa
open Go.RowKit Go.Fp

def WordRel (size boot skip : Int) (gw gc : Nat) (w : World) (s13 s61 : Value) (wr : World) : Prop :=
  ∃ (k : Nat) (s : WinS) (l lw : List Int), k ≤ 60 ∧ s61 = .int .i64 k ∧ WInv s l ∧ s.size = size ∧ s.boot ≤ boot ∧ (s.boot = boot → s.top ≤ skip + k) ∧ WaitOk size boot skip k s l lw ∧
    (lw = [] → s13 = .slice none 0 0) ∧ wr.ownsRow w.heap.size 30 1 s13 lw.length (u64s lw) ∧ Trk w wr [(gc, 56, (⟨boot, skip + k⟩ : CtrS).cs), (gw, 54, s.cs)]

set_option maxHeartbeats 4000000 in
set_option maxRecDepth 100000 in
theorem law02_Orders (size boot skip : Int) (x : Option Addr) (len cap B off : Nat) (w : World) (hx0 : 0 < len → x = some ⟨B, off, none⟩ ∧ B < w.heap.size) (hlen : len ≤ 9223372036854775807)
    (hc : ∀ i, i < len → ∃ z : Int, w.cell? ⟨B, off + i, none⟩ = some (.int .i64 z)) (b0 : 0 ≤ boot) (b1 : boot < 18446744073709551616) (k0 : 0 ≤ skip) (k1 : skip < 4294967296) :
    Calls Try.prog 5 #[.int .i64 size, .int .u64 boot, .int .u32 skip, .slice x len cap] w fun e w' => e = .returned (.bool true) ∧ Fr [] w w' := by
  obtain ⟨i0, hi, hz0, hz1, hz2⟩ := info_parts infoU64
  have hT := Trk.refl w
  refine calls_cps fun R hR => ?_
  have hu : IntKind.u64.wrap size = size % 18446744073709551616 := by simp [IntKind.wrap, IntKind.bits, IntKind.signed]
  by_cases hb : boot = 0
  · subst hb
    go_enter Try.func5, Try.ntmps5
    have hs1 : 1 ≤ 1 + size % 64 := by omega
    have hs2 : 1 + size % 64 ≤ 64 := by omega
    go_wp2_with (first
    | (go_at_call 7; refine (win_New_ok (1 + size % 64) _ hs1 hs2).mono ?_; rintro e w' ⟨g, rfl, hg, h0, fq⟩; replace hT := hT.new fq hg h0)
    | (go_at_call 14; (with_reducible refine Calls.mono (win_Begin_no _) ?_); rintro e w' ⟨rfl, hq⟩; subst w')
    | (go_at_call 8; refine (law02_awake _).mono ?_; rintro e w' ⟨rfl, fq⟩; replace hT := hT.call fq))
    exact hR.out _ _ ⟨rfl, hT.fr⟩
  · have hb1 : (boot == 0) = false := by simpa using hb
    have hb2 : 1 ≤ boot := by omega
    go_enter Try.func5, Try.ntmps5
    have hs1 : 1 ≤ 1 + size % 64 := by omega
    have hs2 : 1 + size % 64 ≤ 64 := by omega
    go_wp2_with (first
    | (go_at_call 7; refine (win_New_ok (1 + size % 64) _ hs1 hs2).mono ?_; rintro e w' ⟨gw, rfl, hg, h0, fq⟩; replace hT := hT.new fq hg h0)
    | (go_at_call 14; refine (win_Begin boot _ hb1).mono ?_; rintro e w' ⟨gc, rfl, hg1, h1, fq⟩; replace hT := hT.new fq hg1 h1)
    | (go_at_call 8; refine (law02_awake _).mono ?_; rintro e w' ⟨rfl, fq⟩; replace hT := hT.call fq)
    | (go_at_call 15; refine (win_Skip gc ⟨boot, 0⟩ skip _ (hT.has 0 rfl) k0).mono ?_; rintro e w' ⟨rfl, h2, fq⟩; replace hT := hT.put 0 rfl fq h2))
    clear hu
    go_loopw [13, 61] (WordRel (1 + size % 64) boot skip gw gc w) (fun _ i _ => 60 - (intOf i).toNat)
    case atStart =>
      exact ⟨0, ⟨1 + size % 64, 0, 0, 0, false⟩, [], [], by omega, rfl, ⟨by simp only [WinS.ok]; omega, fun _ => ⟨rfl, rfl, rfl⟩, (by simp), fun h => (by cases h)⟩, rfl, b0, by simp only; omega, .inl rfl, fun _ => rfl, World.ownsRow_nil _ _ _ _, by simpa using hT⟩
    case round =>
      obtain ⟨k, s, l, lw, hk, rfl, hI, hsz, hbo, htop, hW, hv0, hO, hT⟩ := hrel
      by_cases hlt : k < 60
      · have hne0 := own_ne hO (hT.has 0 rfl) (by decide)
        have c2 := fun w' h => win_Next gc ⟨boot, skip + k⟩ w' h (show 0 ≤ skip + (k : Int) by omega) (show skip + (k : Int) < 18446744073709551615 by omega)
        simp only [CtrS.cs] at hT
        have he1 : skip + ((k + 1 : Nat) : Int) = skip + (k : Int) + 1 := by omega
        rcases hW with rfl | ⟨m, rfl, hw3, hwm, hWm⟩
        · obtain ⟨s', l', t1, t2, t3, t4, t5, t6, t7⟩ := ordTop hI hb2 b1 hbo (show 1 ≤ skip + (k : Int) + 1 by omega) (by omega) (fun e => by have := htop e; omega)
          have t8 := (ordTwice t2 hb2 t4 (by omega) t6).1
          obtain rfl := hv0 rfl
          have c3 := fun w' h => win_Take' (g := gw) (w := w') t1 hI.ok b0 (show 0 ≤ skip + (k : Int) + 1 by omega) (by omega) h
          have c4 := fun w' h => win_Take' (g := gw) (w := w') t8 t2.ok b0 (show 0 ≤ skip + (k : Int) + 1 by omega) (by omega) h
          have HO := Fp.hid hO
          have HI := Fp.hid hI
          have Ht2 := Fp.hid t2
          have H6 := Fp.hid t6
          have H7 := Fp.hid t7
          have HTOP := Fp.hid htop
          clear hO hI t2 t6 t7 t1 t8 htop
          have hckd : (∃ z, x = some ⟨B, off, none⟩ ∧ k < len ∧ ∀ w1, Fr [] w w1 → w1.cell? ⟨B, off + k, none⟩ = some (.int .i64 z)) ∨ ((len : Int) ≤ k ∧ ∀ w1, Fr [] w w1 → True) := by
            by_cases hkl : k < len
            · obtain ⟨hxx, hB⟩ := hx0 (by omega)
              obtain ⟨z, hz⟩ := hc k hkl
              exact .inl ⟨z, hxx, hkl, fun w1 f => (f.cell hB (by simp)).trans hz⟩
            · exact .inr ⟨by omega, fun _ _ => trivial⟩
          clear hx0 hc
          rcases hckd with ⟨z, rfl, hkl, hckf⟩ | ⟨hkl, hckf⟩
          all_goals
            go_wp2_with (first
    | (go_at_call 16; (with_reducible refine Calls.mono (c2 _ ?_) ?_); (focus exact hT.has 0 rfl); rintro e w1 ⟨rfl, h1, f1⟩; have hT1 := hT.put 0 rfl f1 h1; have hO1 := Fp.hid (own_frS f1 HO.out hne0); have hck1 := hckf _ hT1.fr)
    | (go_at_call 10; (fail_if_success (have _z := hT2)); (with_reducible refine Calls.mono (c3 _ ?_) ?_); (focus exact hT1.has 1 rfl); rintro e w2 ⟨rfl, h2, f2⟩; have hT2 := hT1.put 1 rfl f2 h2; have hO2 := Fp.hid (own_frS f2 hO1.out (own_ne hO1.out (hT1.has 1 rfl) (by decide))))
    | (go_at_call 10; (fail_if_success (have _z := hT3)); (with_reducible refine Calls.mono (c4 _ ?_) ?_); (focus exact hT2.has 1 rfl); rintro e w3 ⟨rfl, h3, f3⟩; have hT3 := hT2.put 1 rfl f3 h3; have hO3 := Fp.hid (own_frS f3 hO2.out (own_ne hO2.out (hT2.has 1 rfl) (by decide))))
    | (at_builtin; refine wpList_append_own_at _ rfl _ _ 36 rfl w.heap.size 30 i0 (.int .u64 0) 1 8 Try.underlying36 hi hz0 hz1 hz2 rfl (by decide) _ _ _ rfl (hO1.out.alloc _) ⟨w1.heap.size, 0, none⟩ 1 1 [.int .u64 (skip + (k : Int) + 1)] rfl rfl (cell_one_new _ _ _) (by simp [Value.oneCell']) (by unfold maxLen; simp) (by simp) (by have := hT1.fr.size; simp; omega) ?_; intro v' w5 hown' hgrow hnil hloc))
          all_goals first
            | (refine ⟨⟨k + 1, s, l, [skip + (k : Int) + 1], by omega, by go_num, HI.out, hsz, hbo, fun e => (by have := HTOP.out e; omega), .inr ⟨_, rfl, by omega, by omega, .inl ⟨by omega, fun e => (by have := HTOP.out e; omega)⟩⟩, (by simp), hown', ?_⟩, by simp only [intOf]; omega⟩; rw [he1]; exact (hT1.allocs _).call (fr_grown0 hgrow))
            | (refine ⟨⟨k + 1, s', l', [], by omega, by go_num, Ht2.out, by omega, by omega, fun _ => (by omega), .inl rfl, fun _ => rfl, hO3.out, ?_⟩, by simp only [intOf]; omega⟩; rw [he1]; exact hT3)
        · obtain ⟨s', l', t1, t2, t3, t4, t5, t6, t7⟩ := ordTop hI hb2 b1 hbo (show 1 ≤ skip + (k : Int) + 1 by omega) (by omega) (fun e => by have := htop e; omega)
          have t8 := (ordTwice t2 hb2 t4 (by omega) t6).1
          obtain ⟨gb, capb, rfl, hcb1, hcb2⟩ := own_one hO
          have hcb3 : capb ≤ 9223372036854775807 := by simpa [maxLen] using hcb2
          clear hcb2 hv0
          rcases hWm with ⟨rfl, hlo⟩ | ⟨rfl, hbe, hte, hnm⟩
          · have hlo := Fp.hid hlo
            have c3 := fun w' h => win_Take' (g := gw) (w := w') t1 hI.ok b0 (show 0 ≤ skip + (k : Int) + 1 by omega) (by omega) h
            have c4 := fun w' h => win_Take' (g := gw) (w := w') t8 t2.ok b0 (show 0 ≤ skip + (k : Int) + 1 by omega) (by omega) h
            have HLE := Fp.hid hI.le
            have HO := Fp.hid hO
            have HI := Fp.hid hI
            have Ht2 := Fp.hid t2
            have H6 := Fp.hid t6
            have H7 := Fp.hid t7
            have HTOP := Fp.hid htop
            clear hO hI t2 t6 t7 t1 t8 htop
            have hckd : (∃ z, x = some ⟨B, off, none⟩ ∧ k < len ∧ ∀ w1, Fr [] w w1 → w1.cell? ⟨B, off + k, none⟩ = some (.int .i64 z)) ∨ ((len : Int) ≤ k ∧ ∀ w1, Fr [] w w1 → True) := by
              by_cases hkl : k < len
              · obtain ⟨hxx, hB⟩ := hx0 (by omega)
                obtain ⟨z, hz⟩ := hc k hkl
                exact .inl ⟨z, hxx, hkl, fun w1 f => (f.cell hB (by simp)).trans hz⟩
              · exact .inr ⟨by omega, fun _ _ => trivial⟩
            clear hx0 hc
            rcases hckd with ⟨z, rfl, hkl, hckf⟩ | ⟨hkl, hckf⟩
            all_goals
              go_wp2_with (first
    | (go_at_call 16; (with_reducible refine Calls.mono (c2 _ ?_) ?_); (focus exact hT.has 0 rfl); rintro e w1 ⟨rfl, h1, f1⟩; have hT1 := hT.put 0 rfl f1 h1; have hO1 := Fp.hid (own_frS f1 HO.out hne0); have hck1 := hckf _ hT1.fr; have hq1 := own_one_cell hO1.out)
    | (go_at_call 10; (fail_if_success (have _z := hT2)); (with_reducible refine Calls.mono (c3 _ ?_) ?_); (focus exact hT1.has 1 rfl); rintro e w2 ⟨rfl, h2, f2⟩; have hT2 := hT1.put 1 rfl f2 h2; have hO2 := Fp.hid (own_frS f2 hO1.out (own_ne hO1.out (hT1.has 1 rfl) (by decide))))
    | (go_at_call 10; (fail_if_success (have _z := hT3)); (with_reducible refine Calls.mono (c4 _ ?_) ?_); (focus exact hT2.has 1 rfl); rintro e w3 ⟨rfl, h3, f3⟩; have hT3 := hT2.put 1 rfl f3 h3; have hO3 := Fp.hid (own_frS f3 hO2.out (own_ne hO2.out (hT2.has 1 rfl) (by decide))); have hq3 := own_one_cell hO3.out))
            all_goals
              refine ⟨⟨k + 1, s', l', [skip + (k : Int)], by omega, by go_num, Ht2.out, by omega, by omega, fun _ => (by omega), .inr ⟨_, rfl, hw3, hwm, .inr ⟨by omega, t4, by omega, fun hm => ?_⟩⟩, (by simp), hO3.out, ?_⟩, by simp only [intOf]; omega⟩
              · rcases H7.out _ hm with h | ⟨h1, h2⟩
                · omega
                · have := HLE.out _ h1; have := hlo.out h2; omega
              · rw [he1]; exact hT3
          · have hnm' : (skip + (k : Int) - 1) ∉ l' := fun hm => by
              rcases t7 _ hm with h | ⟨h1, _⟩
              · omega
              · exact hnm h1
            obtain ⟨s4, l4, u1, u2, u3, u4, u5, u6⟩ := ordLate t2 hb2 b1 t4 (show 1 ≤ skip + (k : Int) - 1 by omega) (by omega) (by omega) (by omega) hnm'
            have u7 := (ordTwice u2 hb2 u4 (by omega) u6).2
            have c5 := fun w' h => win_Take' (g := gw) (w := w') u1 t2.ok b0 (show 0 ≤ skip + (k : Int) - 1 by omega) (by omega) h
            have c6 := fun w' h => win_Fresh gw s4 boot (skip + (k : Int) - 1) w' h u2.ok b0 (by omega) (by omega)
            rw [u7] at c6
            have HU2 := Fp.hid u2
            clear hnm hnm' u1 u2 u6 u7
            have c3 := fun w' h => win_Take' (g := gw) (w := w') t1 hI.ok b0 (show 0 ≤ skip + (k : Int) + 1 by omega) (by omega) h
            have c4 := fun w' h => win_Take' (g := gw) (w := w') t8 t2.ok b0 (show 0 ≤ skip + (k : Int) + 1 by omega) (by omega) h
            have HLE := Fp.hid hI.le
            have HO := Fp.hid hO
            have HI := Fp.hid hI
            have Ht2 := Fp.hid t2
            have H6 := Fp.hid t6
            have H7 := Fp.hid t7
            have HTOP := Fp.hid htop
            clear hO hI t2 t6 t7 t1 t8 htop
            have hckd : (∃ z, x = some ⟨B, off, none⟩ ∧ k < len ∧ ∀ w1, Fr [] w w1 → w1.cell? ⟨B, off + k, none⟩ = some (.int .i64 z)) ∨ ((len : Int) ≤ k ∧ ∀ w1, Fr [] w w1 → True) := by
              by_cases hkl : k < len
              · obtain ⟨hxx, hB⟩ := hx0 (by omega)
                obtain ⟨z, hz⟩ := hc k hkl
                exact .inl ⟨z, hxx, hkl, fun w1 f => (f.cell hB (by simp)).trans hz⟩
              · exact .inr ⟨by omega, fun _ _ => trivial⟩
            clear hx0 hc
            rcases hckd with ⟨z, rfl, hkl, hckf⟩ | ⟨hkl, hckf⟩
            all_goals
              go_wp2_with (first
    | (go_at_call 16; (with_reducible refine Calls.mono (c2 _ ?_) ?_); (focus exact hT.has 0 rfl); rintro e w1 ⟨rfl, h1, f1⟩; have hT1 := hT.put 0 rfl f1 h1; have hO1 := Fp.hid (own_frS f1 HO.out hne0); have hck1 := hckf _ hT1.fr; have hq1 := own_one_cell hO1.out)
    | (go_at_call 10; (fail_if_success (have _z := hT2)); (with_reducible refine Calls.mono (c3 _ ?_) ?_); (focus exact hT1.has 1 rfl); rintro e w2 ⟨rfl, h2, f2⟩; have hT2 := hT1.put 1 rfl f2 h2; have hO2 := Fp.hid (own_frS f2 hO1.out (own_ne hO1.out (hT1.has 1 rfl) (by decide))))
    | (go_at_call 10; (fail_if_success (have _z := hT3)); (with_reducible refine Calls.mono (c4 _ ?_) ?_); (focus exact hT2.has 1 rfl); rintro e w3 ⟨rfl, h3, f3⟩; have hT3 := hT2.put 1 rfl f3 h3; have hO3 := Fp.hid (own_frS f3 hO2.out (own_ne hO2.out (hT2.has 1 rfl) (by decide))); have hq3 := own_one_cell hO3.out)
    | (go_at_call 10; (with_reducible refine Calls.mono (c5 _ ?_) ?_); (focus exact hT3.has 1 rfl); rintro e w4 ⟨rfl, h4, f4⟩; have hT4 := hT3.put 1 rfl f4 h4; have hO4 := Fp.hid (own_frS f4 hO3.out (own_ne hO3.out (hT3.has 1 rfl) (by decide))); have hq4 := own_one_cell hO4.out)
    | (go_at_call 9; (with_reducible refine Calls.mono (c6 _ ?_) ?_); (focus exact hT4.has 1 rfl); rintro e w' ⟨rfl, hq⟩; subst w'))
            all_goals
              refine ⟨⟨k + 1, s4, l4, [], by omega, by go_num, HU2.out, by omega, by omega, fun _ => (by omega), .inl rfl, fun _ => rfl, World.ownsRow_nil _ _ _ _, ?_⟩, by simp only [intOf]; omega⟩
              rw [he1]; exact hT4
      · have hk6 : (60 : Int) ≤ k := by omega
        clear hc hx0
        go_wp2_with fail
        exact hR.out _ _ ⟨rfl, hT.fr⟩
end Go.Proofs.Ytbjopppgiklfkaa
