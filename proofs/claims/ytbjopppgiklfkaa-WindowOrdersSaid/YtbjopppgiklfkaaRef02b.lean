/- THE WALK of the document's Take where it goes on by the list. -/
import Derived.Test.YtbjopppgiklfkaaRef02
namespace Go.Proofs.Ytbjopppgiklfkaa
open Go.RowKit Go.Fp

theorem take_one {l : List Int} {k : Nat} (h : k < l.length) : u64s (l.take (k + 1)) = u64s (l.take k) ++ [.int .u64 l[k]] := by
  unfold u64s
  rw [← List.take_append_getElem h, List.map_append]; rfl
theorem own_slice {w : World} {base : Nat} {e : TypeId} {size : Nat} {v : Value} {n : Nat} {xs : List Value} (h : w.ownsRow base e size v n xs) : ∃ x cap, v = .slice x n cap := by
  rcases h.2 with ⟨rfl, rfl⟩ | ⟨g, cap, cur, rfl, _⟩
  · exact ⟨_, _, rfl⟩
  · exact ⟨_, _, rfl⟩

set_option maxHeartbeats 1000000 in
theorem ref02_Take_list (size boot top b c : Int) (v : Value) (n base : Nat) (l : List Int) (w : World) (s0 : 1 ≤ size) (s1 : size ≤ 64) (t0 : 0 ≤ top) (t1 : top < 18446744073709551616) (c0 : 0 ≤ c) (c1 : c < 18446744073709551616) (hl : n ≤ 1000000) (h : w.ownsRow base 30 1 v n (u64s l)) (hb0 : base ≤ w.heap.size) (hb : ¬ b = 0) (hc : ¬ c = 0) (hf : rfresh size boot top l b c = true) (hbb : ¬ boot < b) :
    Calls Try.prog 12 #[.agg #[.int .i64 size, .int .u64 boot, .int .u64 top, v], .int .u64 b, .int .u64 c] w fun e w' => ∃ v', e = .returned (.tuple #[.int .i64 (rtake size boot top l b c).1, .agg #[.int .i64 size, .int .u64 (rtake size boot top l b c).2.1, .int .u64 (rtake size boot top l b c).2.2.1, v']]) ∧
      w'.ownsRow base 30 1 v' (rtake size boot top l b c).2.2.2.length (u64s (rtake size boot top l b c).2.2.2) ∧ Fr [] w w' := by
  have cF := fun w' (f : Fr [] w w') => ref02_Fresh size boot top b c v n base l w' s0 s1 t0 t1 c0 c1 (own_fr f h)
  obtain ⟨hn, x, cap, g, rfl, hcap, hmax, hx, hcell⟩ := own_open h
  have hmax' : cap ≤ 9223372036854775807 := by simpa [maxLen] using hmax
  clear hmax
  have H := Fp.hid h
  clear h
  refine calls_cps fun R hR => ?_
  simp only [rtake, hb, hc, hf, or_self, if_false, Bool.true_eq_false] at hR
  have hb1 : (b == 0) = false := by simpa using hb
  have hc1 : (c == 0) = false := by simpa using hc
  rw [hf] at cF
  clear hb hc
  simp only [hbb, if_false] at hR
  obtain ⟨i0, hi, hz0, hz1, hz2⟩ := info_parts infoU64
  go_enter Try.func12, Try.ntmps12
  go_wp2_with (first
    | (refine wp_region_text (id := 2) [1, 0] Any Try.mixed (by kernel_rfl) trivial ?_)
    | (refine wp_region_text (id := 4) [1, 0] Any Try.mixed (by kernel_rfl) trivial ?_)
    | (refine wp_region_text (id := 6) [0, 1, 0, 0, 0, 2, 0, 0] Any Try.mixed (by kernel_rfl) trivial ?_)
    | (refine wp_region_text (id := 15) [1, 0] Any Try.mixed (by kernel_rfl) trivial ?_)
    | (refine wpT_0 (fun K hK => ?_); go_simp; refine hK _ ?_; clear hK K)
    | (refine wpT_1 (fun K hK => ?_); go_simp; refine hK _ ?_; clear hK K)
    | (refine wpT_tail (by rfl) ?_)
    | (refine wpT_2A (fun _ _ => ?_); rw [if_pos (by rfl)])
    | (refine wpT_nil ?_)
    | (go_at_call 11; refine (cF _ (((Fr.refl _ _).alloc _).alloc _)).mono ?_; rintro e w3 ⟨rfl, fq⟩; have HA := Fp.hid (fq.has0 ((Has.new w (#[.int .i64 size, .int .u64 boot, .int .u64 top, .slice x n cap]) 38).alloc _)); have HB := Fp.hid (fq.has0 (Has.new1 w _ _ _)); have q0 := HA.out.cell))
  have f3 : Fr [] w w3 := (((Fr.refl [] w).alloc _).alloc _).trans fq
  have hsz : w.heap.size + 2 ≤ w3.heap.size := by have := fq.size; simp at this; omega
  clear q0 fq cF
  go_loopw [8, 9] (RtRel l w3) (fun _ i _ => n - (intOf i).toNat)
  case atStart => exact ⟨0, Nat.zero_le _, rfl, World.ownsRow_nil _ _ _ _, Fr.refl _ _⟩
  case round =>
    obtain ⟨k, hk, rfl, hown, f4⟩ := hrel
    have q0 := (f4.has0 HA.out).cell
    by_cases hlt : k < n
    · obtain ⟨rfl, hB⟩ := hx (by omega)
      have hck := hcell k (by omega)
      rw [← (f3.trans f4).cell hB (by simp)] at hck
      have HO := Fp.hid hown
      have F4 := Fp.hid f4
      have hlen : (u64s (List.take k l)).length = k := by simp [u64s]; omega
      clear hown f4 hcell hx
      go_wp2_with (first
    | (refine wp_region_text (id := 2) [1, 0] Any Try.mixed (by kernel_rfl) trivial ?_)
    | (refine wp_region_text (id := 4) [1, 0] Any Try.mixed (by kernel_rfl) trivial ?_)
    | (refine wp_region_text (id := 6) [0, 1, 0, 0, 0, 2, 0, 0] Any Try.mixed (by kernel_rfl) trivial ?_)
    | (refine wp_region_text (id := 15) [1, 0] Any Try.mixed (by kernel_rfl) trivial ?_)
    | (refine wpT_0 (fun K hK => ?_); go_simp; refine hK _ ?_; clear hK K)
    | (refine wpT_1 (fun K hK => ?_); go_simp; refine hK _ ?_; clear hK K)
    | (refine wpT_tail (by rfl) ?_)
    | (refine wpT_2A (fun _ _ => ?_); rw [if_pos (by rfl)])
    | (refine wpT_nil ?_)
    | (at_builtin; refine wpList_append_own_at _ rfl _ _ 36 rfl w3.heap.size 30 i0 (.int .u64 0) 1 8 Try.underlying36 hi hz0 hz1 hz2 rfl (by decide) _ _ _ rfl (HO.out.alloc _) ⟨wr.heap.size, 0, none⟩ 1 1 [.int .u64 l[k]] rfl rfl (cell_one_new _ _ _) (by simp [Value.oneCell']) (by unfold maxLen; omega) (by omega) (by have := F4.out.size; simp; omega) ?_; intro v' w5 hown' hgrow hnil hloc))
      refine ⟨⟨k + 1, by omega, by go_num, ?_, fr_grown (F4.out.alloc _) hgrow (HO.out.alloc _)⟩, by simp only [intOf]; omega⟩
      rw [take_one (show k < l.length by omega)]; exact hown'
    · obtain rfl : k = l.length := by omega
      have HO := Fp.hid hown
      have F4 := Fp.hid f4
      have hlen : (u64s (List.take l.length l)).length = l.length := by simp [u64s]
      clear hown f4 hcell hx
      by_cases hct : top < c
      · rw [if_pos hct] at hR
        go_wp2_with (first
    | (refine wp_region_text (id := 2) [1, 0] Any Try.mixed (by kernel_rfl) trivial ?_)
    | (refine wp_region_text (id := 4) [1, 0] Any Try.mixed (by kernel_rfl) trivial ?_)
    | (refine wp_region_text (id := 6) [0, 1, 0, 0, 0, 2, 0, 0] Any Try.mixed (by kernel_rfl) trivial ?_)
    | (refine wp_region_text (id := 15) [1, 0] Any Try.mixed (by kernel_rfl) trivial ?_)
    | (refine wpT_0 (fun K hK => ?_); go_simp; refine hK _ ?_; clear hK K)
    | (refine wpT_1 (fun K hK => ?_); go_simp; refine hK _ ?_; clear hK K)
    | (refine wpT_tail (by rfl) ?_)
    | (refine wpT_2A (fun _ _ => ?_); rw [if_pos (by rfl)])
    | (refine wpT_nil ?_)
    | (at_builtin; refine wpList_append_own_at _ rfl _ _ 36 rfl w3.heap.size 30 i0 (.int .u64 0) 1 8 Try.underlying36 hi hz0 hz1 hz2 rfl (by decide) _ _ _ rfl (HO.out.alloc _) ⟨wr.heap.size, 0, none⟩ 1 1 [.int .u64 c] rfl rfl (cell_one_new _ _ _) (by simp [Value.oneCell']) (by unfold maxLen; omega) (by omega) (by have := F4.out.size; simp; omega) ?_; intro v' w5 hown' hgrow hnil hloc; have F5 := Fp.hid (fr_grown (F4.out.alloc _) hgrow (HO.out.alloc _)); obtain ⟨x5, cap5, rfl⟩ := own_slice hown'; clear q0; have q0 := (F5.out.has0 HA.out).cell; have p0 := (F5.out.has0 HA.out).froz; have q1 := (F5.out.has0 HB.out).cell; have p1 := (F5.out.has0 HB.out).froz))
        have hl5 : u64s (List.take l.length l) ++ [.int .u64 c] = u64s (l ++ [c]) := by simp [u64s]
        rw [hl5] at hown'
        have hb3 : base ≤ w3.heap.size := by omega
        refine bodyPost_ret ?_ rfl (hR.out _ _ ⟨.slice x5 _ cap5, rfl, by
            rw [show (l ++ [c]).length = l.length + 1 by simp]
            exact own_base (own_frS (S := [w.heap.size, w.heap.size + 1]) (by repeat (first | with_reducible exact Fr.refl _ _ | with_reducible apply Fr.drew | with_reducible apply Fr.alloc | with_reducible refine Fr.set ?_ (Or.inl (by simp)) _)) hown' (fun k hk => by have := (hown'.lt k hk).1; simp; omega)) hb3,
          (f3.trans F5.out).step (S' := [w.heap.size, w.heap.size + 1]) (by repeat (first | with_reducible exact Fr.refl _ _ | with_reducible apply Fr.drew | with_reducible apply Fr.alloc | with_reducible refine Fr.set ?_ (Or.inl (by simp)) _)) (fun g hg => by simp at hg; exact .inr (by omega))⟩)
        simp [results, Try.results12, go_sem, q1]
        omega
      · rw [if_neg hct] at hR
        go_wp2_with (first
    | (refine wp_region_text (id := 2) [1, 0] Any Try.mixed (by kernel_rfl) trivial ?_)
    | (refine wp_region_text (id := 4) [1, 0] Any Try.mixed (by kernel_rfl) trivial ?_)
    | (refine wp_region_text (id := 6) [0, 1, 0, 0, 0, 2, 0, 0] Any Try.mixed (by kernel_rfl) trivial ?_)
    | (refine wp_region_text (id := 15) [1, 0] Any Try.mixed (by kernel_rfl) trivial ?_)
    | (refine wpT_0 (fun K hK => ?_); go_simp; refine hK _ ?_; clear hK K)
    | (refine wpT_1 (fun K hK => ?_); go_simp; refine hK _ ?_; clear hK K)
    | (refine wpT_tail (by rfl) ?_)
    | (refine wpT_2A (fun _ _ => ?_); rw [if_pos (by rfl)])
    | (refine wpT_nil ?_)
    | (at_builtin; refine wpList_append_own_at _ rfl _ _ 36 rfl w3.heap.size 30 i0 (.int .u64 0) 1 8 Try.underlying36 hi hz0 hz1 hz2 rfl (by decide) _ _ _ rfl (HO.out.alloc _) ⟨wr.heap.size, 0, none⟩ 1 1 [.int .u64 c] rfl rfl (cell_one_new _ _ _) (by simp [Value.oneCell']) (by unfold maxLen; omega) (by omega) (by have := F4.out.size; simp; omega) ?_; intro v' w5 hown' hgrow hnil hloc; have F5 := Fp.hid (fr_grown (F4.out.alloc _) hgrow (HO.out.alloc _)); obtain ⟨x5, cap5, rfl⟩ := own_slice hown'; clear q0; have q0 := (F5.out.has0 HA.out).cell; have p0 := (F5.out.has0 HA.out).froz; have q1 := (F5.out.has0 HB.out).cell; have p1 := (F5.out.has0 HB.out).froz))
        have hl5 : u64s (List.take l.length l) ++ [.int .u64 c] = u64s (l ++ [c]) := by simp [u64s]
        rw [hl5] at hown'
        have hb3 : base ≤ w3.heap.size := by omega
        refine bodyPost_ret ?_ rfl (hR.out _ _ ⟨.slice x5 _ cap5, rfl, by
            rw [show (l ++ [c]).length = l.length + 1 by simp]
            exact own_base (own_frS (S := [w.heap.size, w.heap.size + 1]) (by repeat (first | with_reducible exact Fr.refl _ _ | with_reducible apply Fr.drew | with_reducible apply Fr.alloc | with_reducible refine Fr.set ?_ (Or.inl (by simp)) _)) hown' (fun k hk => by have := (hown'.lt k hk).1; simp; omega)) hb3,
          (f3.trans F5.out).step (S' := [w.heap.size, w.heap.size + 1]) (by repeat (first | with_reducible exact Fr.refl _ _ | with_reducible apply Fr.drew | with_reducible apply Fr.alloc | with_reducible refine Fr.set ?_ (Or.inl (by simp)) _)) (fun g hg => by simp at hg; exact .inr (by omega))⟩)
        simp [results, Try.results12, go_sem, q1]
        omega

theorem ref02_Take (size boot top b c : Int) (v : Value) (n base : Nat) (l : List Int) (w : World) (s0 : 1 ≤ size) (s1 : size ≤ 64) (t0 : 0 ≤ top) (t1 : top < 18446744073709551616) (c0 : 0 ≤ c) (c1 : c < 18446744073709551616) (hl : n ≤ 1000000) (h : w.ownsRow base 30 1 v n (u64s l)) (hb0 : base ≤ w.heap.size) :
    Calls Try.prog 12 #[.agg #[.int .i64 size, .int .u64 boot, .int .u64 top, v], .int .u64 b, .int .u64 c] w fun e w' => ∃ v', e = .returned (.tuple #[.int .i64 (rtake size boot top l b c).1, .agg #[.int .i64 size, .int .u64 (rtake size boot top l b c).2.1, .int .u64 (rtake size boot top l b c).2.2.1, v']]) ∧
      w'.ownsRow base 30 1 v' (rtake size boot top l b c).2.2.2.length (u64s (rtake size boot top l b c).2.2.2) ∧ Fr [] w w' := by
  by_cases hb : b = 0
  · exact ref02_Take_no size boot top b c v n base l w s0 s1 t0 t1 c0 c1 hl h hb0 (.inl hb)
  by_cases hc : c = 0
  · exact ref02_Take_no size boot top b c v n base l w s0 s1 t0 t1 c0 c1 hl h hb0 (.inr (.inl hc))
  cases hf : rfresh size boot top l b c
  · exact ref02_Take_no size boot top b c v n base l w s0 s1 t0 t1 c0 c1 hl h hb0 (.inr (.inr hf))
  by_cases hbb : boot < b
  · exact ref02_Take_boot size boot top b c v n base l w s0 s1 t0 t1 c0 c1 hl h hb0 hb hc hf hbb
  · exact ref02_Take_list size boot top b c v n base l w s0 s1 t0 t1 c0 c1 hl h hb0 hb hc hf hbb
end Go.Proofs.Ytbjopppgiklfkaa
