/-
  Files: the walk of FilePlays.
-/
import Derived.Test.YtfbpfogmnaahpaaC4
namespace Go.Proofs.Ytfbpfogmnaahpaa
open Go.RowKit Go.Proofs.YtfbpfogmnaahpaaW.PrintWords

set_option maxRecDepth 100000 in
set_option maxHeartbeats 8000000 in
theorem plays_few (most : Int) (A : Option Addr) (n c : Nat) (ml : Nat → Nat) (W : World) (h : Acts W A n ml) (hf : ¬ (n ≤ 60 ∧ ∀ i, i < n → ml i ≤ 100) ∨ most < 1 ∨ 67108864 < most) :
    Calls Try.prog 4 #[.int .i64 most, .slice A n c] W fun e W' => e = .returned (.bool true) ∧ Below W.heap.size W W' := by
  go_enter Try.func4, Try.ntmps4
  go_wp2_with fail
  refine (few_calls A n c ml W h).mono ?_
  rintro e w' ⟨hw, rfl⟩
  unfold FewOut at hw
  obtain ⟨b, rfl, hb⟩ := hw
  cases b
  · clear hb hf
    go_wp2_with fail
    refine (awake_calls W).mono ?_
    rintro e wz ⟨rfl, bz⟩
    have BZ := Aside0.mk (below_step (Below.refl _ _) bz)
    clear bz
    go_wp2_with fail
    go_ret
    exact ⟨rfl, BZ.out⟩
  · have hb' := hb rfl
    have hr : most < 1 ∨ 67108864 < most := by
      rcases hf with hf | hf
      · exact absurd hb' hf
      · exact hf
    clear hb hb' hf
    go_wp2_with fail
    refine (new_range most hr W).mono ?_
    rintro e w' ⟨rfl, rfl⟩
    by_cases c1 : most < 1
    · clear hr
      go_wp2_with fail
      refine (awake_calls W).mono ?_
      rintro e wz ⟨rfl, bz⟩
      have BZ := Aside0.mk (below_step (Below.refl _ _) bz)
      clear bz
      go_wp2_with fail
      go_ret
      exact ⟨rfl, BZ.out⟩
    · have c2 : 67108864 < most := by omega
      clear hr
      go_wp2_with fail
      refine (awake_calls W).mono ?_
      rintro e wz ⟨rfl, bz⟩
      have BZ := Aside0.mk (below_step (Below.refl _ _) bz)
      clear bz
      go_wp2_with fail
      go_ret
      exact ⟨rfl, BZ.out⟩

set_option maxRecDepth 100000 in
set_option maxHeartbeats 64000000 in
theorem plays_ok (most : Int) (h1 : 1 ≤ most) (h2 : most ≤ 67108864) (A : Option Addr) (n c : Nat) (ml : Nat → Nat) (W : World) (h : Acts W A n ml) (un : n ≤ 60) (um : ∀ i, i < n → ml i ≤ 100) :
    Calls Try.prog 4 #[.int .i64 most, .slice A n c] W fun e W' => e = .returned (.bool true) ∧ Below W.heap.size W W' := by
  have HM := Aside0.mk (And.intro h1 h2)
  go_enter Try.func4, Try.ntmps4
  go_wp2_with fail
  refine (few_calls A n c ml W h).mono ?_
  rintro e w' ⟨hw, rfl⟩
  unfold FewOut at hw
  obtain ⟨b, rfl, hb⟩ := hw
  cases b
  · clear hb
    go_wp2_with fail
    refine (awake_calls W).mono ?_
    rintro e wz ⟨rfl, bz⟩
    have BZ := Aside0.mk (below_step (Below.refl _ _) bz)
    clear bz
    go_wp2_with fail
    go_ret
    exact ⟨rfl, BZ.out⟩
  clear hb
  have c1 : ¬ most < 1 := by omega
  have c2 : ¬ 67108864 < most := by omega
  clear h1 h2
  go_wp2_with fail
  refine (new_calls most HM.out.1 HM.out.2 W.heap.size W (Nat.le_refl _)).mono ?_
  rintro e w1 ⟨rfl, f1, b1⟩
  have F1 := Aside0.mk f1
  have B1 := Aside0.mk b1
  clear f1 b1
  go_upto_region 9 with fail
  obtain ⟨w2, hw2⟩ : ∃ w2, w1.alloc (.cells #[.int .i64 most, .slice none 0 0, .slice none 0 0, .bool false] 39) = w2 := ⟨_, rfl⟩
  have K2 : w2.heap[w1.heap.size]? = some (.cells #[.int .i64 most, .slice none 0 0, .slice none 0 0, .bool false] 39 (0, 0)) := hw2 ▸ heap_alloc_new w1 _
  have ST2 := Aside0.mk (show St w2 W.heap.size W.heap.size none none 0 0 w1.heap.size none none 0 0 [] none none 0 0 [] most false from
    ⟨F1.out.below (grow hw2), ⟨K2, B1.out.size, rfl, rfl, Row.nil _ _, Row.nil _ _, by simp, by simp, by simp⟩, rfl, by have := F1.out.lt; omega, by simp, by simp, by simp, by simp⟩)
  have B2 := Aside0.mk (B1.out.trans ((grow hw2).mono B1.out.size))
  rw [hw2]
  clear hw2 K2 F1 B1 c1 c2
  go_wp2_with fail
  go_loopw [5, 7, 8] (fun vf vr vi wr => ∃ k : Nat, k ≤ n ∧ vi = .int .i64 k ∧ (∃ p qf Af cf nn r qF AF cF nF lF qL AL cL nL lL cr, vf = .pointer (some ⟨p, 0, none⟩) ∧ vr = .pointer (some ⟨r, 0, none⟩) ∧ St wr W.heap.size p qf Af cf nn r qF AF cF nF lF qL AL cL nL lL most cr ∧ nn ≤ 100 * k) ∧ Below W.heap.size W wr) (fun _ _ vi _ => n - (intOf vi).toNat)
  case atStart => exact ⟨0, by omega, rfl, ⟨_, _, _, _, _, _, _, _, _, _, _, _, _, _, _, _, _, rfl, rfl, ST2.out, by omega⟩, B2.out⟩
  case round =>
    clear ST2 B2
    obtain ⟨k, hk, rfl, ⟨p, qf, Af, cf, nn, r, qF, AF, cF, nF, lF, qL, AL, cL, nL, lL, cr, rfl, rfl, hST, hnn⟩, hB⟩ := hrel
    by_cases hlt : k < n
    · obtain ⟨a, rfl, d, j, X, cx, ys, v0, v1, v2, hY, hlen⟩ := h k hlt
      have hml := um k hlt
      have i0 : (0 : Int) ≤ (k : Int) := by omega
      have i1 : (k : Int) < (n : Int) := by omega
      have z0 := pw_cell_below hB v0
      have z1 := pw_cell_below hB v1
      have z2 := pw_cell_below hB v2
      have V1 := Aside0.mk v1
      have V2 := Aside0.mk v2
      have HY := Aside0.mk (And.intro hY hlen)
      have ST := Aside0.mk hST
      have HB := Aside0.mk hB
      have SEP3 := Aside0.mk hST.s3
      have SEP5 := Aside0.mk (show ∀ j, qf = some j → qF ≠ some j from fun j hj => (hST.s5 j hj).1)
      clear hST hB v0 v1 v2 hY hlen
      by_cases hd : d = 0
      · have n0 : (d == 0) = true := by rw [hd]; rfl
        have n1 : (d == 1) = false := by rw [hd]; rfl
        have n2 : (d == 2) = false := by rw [hd]; rfl
        have n3 : (d == 3) = false := by rw [hd]; rfl
        have n4 : (d == 4) = false := by rw [hd]; rfl
        clear hd
        cases cr
        · by_cases ca : most - nn < (ml k : Int)
          · as_aux_lemma =>
              go_wp2_with fail
              refine (append_full _ _ _ _ _ _ _ _ _ _ _ _ wr ST.out.f ca).mono ?_
              rintro e w3 ⟨rfl, b3⟩
              have z2' := cb b3 z2
              go_wp2_with fail
              refine (rappend_full _ _ _ _ _ _ _ _ _ _ _ _ _ _ _ _ w3 (ST.out.g.below b3) (by have := ST.out.n; omega) (by have := ST.out.n; omega)).mono ?_
              rintro e w4 ⟨rfl, b4⟩
              have TX := Aside0.mk ((ST.out.below b3).below b4)
              have BX := Aside0.mk (HB.out.trans ((below_step b3 b4).mono HB.out.size))
              have HL := Aside0.mk (show nn ≤ 100 * (k + 1) by omega)
              clear b3 b4 z2' ST HB z0 z1 z2
              obtain ⟨-, yr, -, -⟩ := TX.out.g.cells
              go_upto_region 30 with fail
              refine wp_region_held_drew (S := fun w' => w'.cell? ⟨r, 1, none⟩ = some (.slice AF nF cF)) (by kernel_rfl) ?_ (fun hHeld => ?_)
              · exact yr
              refine tk 0 (some 128) ?_ (by rfl) (by kernel_rfl) (fun _ _ _ h => h) ?_ hHeld ?_; rotate_left
              · intro o ho; simp only [List.getElem?_toArray, List.getElem?_cons_zero, Option.some.injEq] at ho; subst ho; refine ⟨by rfl, fun w hSw => ?_⟩; try dsimp only at hSw
                go_simp; try with_reducible rfl
              try simp only [Act.put, List.setIfInBounds_toArray, List.set_cons_zero, List.set_cons_succ]
              refine tk 1 (some 129) ?_ (by rfl) (by kernel_rfl) (fun _ _ _ h => h) ?_ hHeld ?_; rotate_left
              · intro o ho; simp only [List.getElem?_toArray, List.getElem?_cons_succ, List.getElem?_cons_zero, Option.some.injEq] at ho; subst ho; refine ⟨by rfl, fun w hSw => ?_⟩; try dsimp only at hSw
                go_simp; try with_reducible rfl
              try simp only [Act.put, List.setIfInBounds_toArray, List.set_cons_zero, List.set_cons_succ]
              refine tk 2 (some 130) ?_ (by rfl) (by kernel_rfl) (fun _ _ _ h => h) ?_ hHeld ?_; rotate_left
              · intro o ho; simp only [List.getElem?_toArray, List.getElem?_cons_succ, List.getElem?_cons_zero, Option.some.injEq] at ho; subst ho; refine ⟨by rfl, fun w hSw => ?_⟩; try dsimp only at hSw
                go_simp; try with_reducible rfl
              try simp only [Act.put, List.setIfInBounds_toArray, List.set_cons_zero, List.set_cons_succ]
              refine tk 3 (some 131) ?_ (by rfl) (by kernel_rfl) (fun _ _ _ h => h) ?_ hHeld ?_; rotate_left
              · intro o ho; simp only [List.getElem?_toArray, List.getElem?_cons_succ, List.getElem?_cons_zero, Option.some.injEq] at ho; subst ho; refine ⟨by rfl, fun w hSw => ?_⟩; try dsimp only at hSw
                go_simp; try with_reducible rfl
              try simp only [Act.put, List.setIfInBounds_toArray, List.set_cons_zero, List.set_cons_succ]
              refine tk 4 (some 132) ?_ (by rfl) (by kernel_rfl) (fun _ _ _ h => h) ?_ hHeld ?_; rotate_left
              · intro o ho; simp only [List.getElem?_toArray, List.getElem?_cons_succ, List.getElem?_cons_zero, Option.some.injEq] at ho; subst ho; refine ⟨by rfl, fun w hSw => ?_⟩; try dsimp only at hSw
                go_simp; try with_reducible rfl
              try simp only [Act.put, List.setIfInBounds_toArray, List.set_cons_zero, List.set_cons_succ]
              refine tk 5 (some 133) ?_ (by rfl) (by kernel_rfl) (fun _ _ _ h => h) ?_ hHeld ?_; rotate_left
              · intro o ho; simp only [List.getElem?_toArray, List.getElem?_cons_succ, List.getElem?_cons_zero, Option.some.injEq] at ho; subst ho; refine ⟨by rfl, fun w hSw => ?_⟩; try dsimp only at hSw
                go_simp; try with_reducible rfl
              try simp only [Act.put, List.setIfInBounds_toArray, List.set_cons_zero, List.set_cons_succ]
              refine tk 6 (some 134) ?_ (by rfl) (by kernel_rfl) (fun _ _ _ h => h) ?_ hHeld ?_; rotate_left
              · intro o ho; simp only [List.getElem?_toArray, List.getElem?_cons_succ, List.getElem?_cons_zero, Option.some.injEq] at ho; subst ho; refine ⟨by rfl, fun w hSw => ?_⟩; try dsimp only at hSw
                go_simp; try with_reducible rfl
              try simp only [Act.put, List.setIfInBounds_toArray, List.set_cons_zero, List.set_cons_succ]
              refine tk 7 (some 135) ?_ (by rfl) (by kernel_rfl) (fun _ _ _ h => h) ?_ hHeld ?_; rotate_left
              · intro o ho; simp only [List.getElem?_toArray, List.getElem?_cons_succ, List.getElem?_cons_zero, Option.some.injEq] at ho; subst ho; refine ⟨by rfl, fun w hSw => ?_⟩; try dsimp only at hSw
                go_simp; try with_reducible rfl
              try simp only [Act.put, List.setIfInBounds_toArray, List.set_cons_zero, List.set_cons_succ]
              refine tk 8 (some 136) ?_ (by rfl) (by kernel_rfl) (fun _ _ _ h => h) ?_ hHeld ?_; rotate_left
              · intro o ho; simp only [List.getElem?_toArray, List.getElem?_cons_succ, List.getElem?_cons_zero, Option.some.injEq] at ho; subst ho; refine ⟨by rfl, fun w hSw => ?_⟩; try dsimp only at hSw
                go_simp; try with_reducible rfl
              try simp only [Act.put, List.setIfInBounds_toArray, List.set_cons_zero, List.set_cons_succ]
              refine tk 10 (some 138) ?_ (by rfl) (by kernel_rfl) (fun _ _ _ h => h) ?_ hHeld ?_; rotate_left
              · intro o ho; simp only [List.getElem?_toArray, List.getElem?_cons_succ, List.getElem?_cons_zero, Option.some.injEq] at ho; subst ho; refine ⟨by rfl, fun w hSw => ?_⟩; try dsimp only at hSw
                go_simp; try with_reducible rfl
              try simp only [Act.put, List.setIfInBounds_toArray, List.set_cons_zero, List.set_cons_succ]
              refine oneH 9 (by kernel_rfl) (by rfl) (fun o ho K hK => ?_)
              simp only [List.getElem?_toArray, List.getElem?_cons_succ, List.getElem?_cons_zero, Option.some.injEq] at ho
              subst ho
              go_simp
              refine (bytes_calls _ _ _ _ (lF ++ lL) TX.out.f.len (by have := HL.out; omega) _ (by exact TX.out.f.cells.1) (by exact TX.out.f.bs.drewN 1)).mono ?_
              rintro e x1 ⟨A1', c1', q1', rfl, r1', b1''⟩
              have b1' := nodrew b1''
              try go_wp2_with fail
              refine hK.out _ _ ?_ (fun hHeld2 => ?_)
              · exact cb b1' yr
              clear hK K hHeld
              rename _ => hHeld
              try simp only [Act.put, List.setIfInBounds_toArray, List.set_cons_zero, List.set_cons_succ]
              refine oneH 11 (by kernel_rfl) (by rfl) (fun o ho K hK => ?_)
              simp only [List.getElem?_toArray, List.getElem?_cons_succ, List.getElem?_cons_zero, Option.some.injEq] at ho
              subst ho
              go_simp
              refine (all_calls _ _ _ _ _ _ _ _ _ _ _ _ _ _ nn TX.out.n (by have := HL.out; omega) x1 (TX.out.g.below b1')).mono ?_
              rintro e x2 ⟨A2', c2', q2', rfl, r2', b2''⟩
              have b2' := below_step b1' b2''
              try go_wp2_with fail
              refine hK.out _ _ ?_ (fun hHeld2 => ?_)
              · exact cb b2' yr
              clear hK K hHeld
              rename _ => hHeld
              try simp only [Act.put, List.setIfInBounds_toArray, List.set_cons_zero, List.set_cons_succ]
              refine oneH 12 (by kernel_rfl) (by rfl) (fun o ho K hK => ?_)
              simp only [List.getElem?_toArray, List.getElem?_cons_succ, List.getElem?_cons_zero, Option.some.injEq] at ho
              subst ho
              go_simp
              refine (same_calls _ _ nn (lF ++ lL) TX.out.f.len _ _ nn (lF ++ lL) TX.out.f.len x2 (r1'.below b2'').bs r2'.bs).mono ?_
              rintro e x3 ⟨rfl, hd⟩
              have dd : decide ((lF ++ lL) = (lF ++ lL)) = true := by simp
              rw [dd]
              have b3' := below_step b2' (same_below hd)
              try go_wp2_with fail
              refine hK.out _ _ ?_ (fun hHeld2 => ?_)
              · exact cb b3' yr
              clear hK K hHeld
              rename _ => hHeld
              try simp only [Act.put, List.setIfInBounds_toArray, List.set_cons_zero, List.set_cons_succ]
              refine tk 13 (some 141) ?_ (by rfl) (by kernel_rfl) (fun _ _ _ h => h) ?_ hHeld ?_; rotate_left
              · intro o ho; simp only [List.getElem?_toArray, List.getElem?_cons_succ, List.getElem?_cons_zero, Option.some.injEq] at ho; subst ho; refine ⟨by rfl, fun w hSw => ?_⟩; try dsimp only at hSw
                go_simp; try with_reducible rfl
              try simp only [Act.put, List.setIfInBounds_toArray, List.set_cons_zero, List.set_cons_succ]
              refine tk 14 (some 142) ?_ (by rfl) (by kernel_rfl) (fun _ _ _ h => h) ?_ hHeld ?_; rotate_left
              · intro o ho; simp only [List.getElem?_toArray, List.getElem?_cons_succ, List.getElem?_cons_zero, Option.some.injEq] at ho; subst ho; refine ⟨by rfl, fun w hSw => ?_⟩; try dsimp only at hSw
                go_simp; try with_reducible rfl
              try simp only [Act.put, List.setIfInBounds_toArray, List.set_cons_zero, List.set_cons_succ]
              refine tk 15 (some 143) ?_ (by rfl) (by kernel_rfl) (fun _ _ _ h => h) ?_ hHeld ?_; rotate_left
              · intro o ho; simp only [List.getElem?_toArray, List.getElem?_cons_succ, List.getElem?_cons_zero, Option.some.injEq] at ho; subst ho; refine ⟨by rfl, fun w hSw => ?_⟩; try dsimp only at hSw
                go_simp; try with_reducible rfl
              try simp only [Act.put, List.setIfInBounds_toArray, List.set_cons_zero, List.set_cons_succ]
              refine tk 16 (some 144) ?_ (by rfl) (by kernel_rfl) (fun _ _ _ h => h) ?_ hHeld ?_; rotate_left
              · intro o ho; simp only [List.getElem?_toArray, List.getElem?_cons_succ, List.getElem?_cons_zero, Option.some.injEq] at ho; subst ho; refine ⟨by rfl, fun w hSw => ?_⟩; try dsimp only at hSw
                go_simp; try with_reducible rfl
              try simp only [Act.put, List.setIfInBounds_toArray, List.set_cons_zero, List.set_cons_succ]
              refine tk 18 (some 146) ?_ (by rfl) (by kernel_rfl) (fun _ _ _ h => h) ?_ hHeld ?_; rotate_left
              · intro o ho; simp only [List.getElem?_toArray, List.getElem?_cons_succ, List.getElem?_cons_zero, Option.some.injEq] at ho; subst ho; refine ⟨by rfl, fun w hSw => ?_⟩; try dsimp only at hSw
                go_simp; try with_reducible rfl
              try simp only [Act.put, List.setIfInBounds_toArray, List.set_cons_zero, List.set_cons_succ]
              refine oneH 17 (by kernel_rfl) (by rfl) (fun o ho K hK => ?_)
              simp only [List.getElem?_toArray, List.getElem?_cons_succ, List.getElem?_cons_zero, Option.some.injEq] at ho
              subst ho
              go_simp
              refine (len_calls _ _ _ _ x3 (TX.out.f.below b3').cells.1).mono ?_
              rintro e x4 ⟨rfl, rfl⟩
              try go_wp2_with fail
              refine hK.out _ _ ?_ (fun hHeld2 => ?_)
              · exact hHeld
              clear hK K hHeld
              rename _ => hHeld
              try simp only [Act.put, List.setIfInBounds_toArray, List.set_cons_zero, List.set_cons_succ]
              refine oneH 19 (by kernel_rfl) (by rfl) (fun o ho K hK => ?_)
              simp only [List.getElem?_toArray, List.getElem?_cons_succ, List.getElem?_cons_zero, Option.some.injEq] at ho
              subst ho
              go_simp
              refine (all_calls _ _ _ _ _ _ _ _ _ _ _ _ _ _ nn TX.out.n (by have := HL.out; omega) x3 (TX.out.g.below b3')).mono ?_
              rintro e x5 ⟨A5', c5', q5', rfl, r5', b5''⟩
              have b5' := below_step b3' b5''
              try go_wp2_with fail
              refine hK.out _ _ ?_ (fun hHeld2 => ?_)
              · exact cb b5' yr
              clear hK K hHeld
              rename _ => hHeld
              try simp only [Act.put, List.setIfInBounds_toArray, List.set_cons_zero, List.set_cons_succ]
              refine tk 20 (some 148) ?_ (by rfl) (by kernel_rfl) (fun _ _ _ h => h) ?_ hHeld ?_; rotate_left
              · intro o ho; simp only [List.getElem?_toArray, List.getElem?_cons_succ, List.getElem?_cons_zero, Option.some.injEq] at ho; subst ho; refine ⟨by rfl, fun w hSw => ?_⟩; try dsimp only at hSw
                go_simp; try with_reducible rfl
              try simp only [Act.put, List.setIfInBounds_toArray, List.set_cons_zero, List.set_cons_succ]
              refine tk 21 (some 149) ?_ (by rfl) (by kernel_rfl) (fun _ _ _ h => h) ?_ hHeld ?_; rotate_left
              · intro o ho; simp only [List.getElem?_toArray, List.getElem?_cons_succ, List.getElem?_cons_zero, Option.some.injEq] at ho; subst ho; refine ⟨by rfl, fun w hSw => ?_⟩; try dsimp only at hSw
                go_simp; try with_reducible rfl
              try simp only [Act.put, List.setIfInBounds_toArray, List.set_cons_zero, List.set_cons_succ]
              refine tk 22 (some 150) ?_ (by rfl) (by kernel_rfl) (fun _ _ _ h => h) ?_ hHeld ?_; rotate_left
              · intro o ho; simp only [List.getElem?_toArray, List.getElem?_cons_succ, List.getElem?_cons_zero, Option.some.injEq] at ho; subst ho; refine ⟨by rfl, fun w hSw => ?_⟩; try dsimp only at hSw
                go_simp; try with_reducible rfl
              try simp only [Act.put, List.setIfInBounds_toArray, List.set_cons_zero, List.set_cons_succ]
              refine tk 23 (some 151) ?_ (by rfl) (by kernel_rfl) (fun _ _ _ h => h) ?_ hHeld ?_; rotate_left
              · intro o ho; simp only [List.getElem?_toArray, List.getElem?_cons_succ, List.getElem?_cons_zero, Option.some.injEq] at ho; subst ho; refine ⟨by rfl, fun w hSw => ?_⟩; try dsimp only at hSw
                go_simp; try with_reducible rfl
              try simp only [Act.put, List.setIfInBounds_toArray, List.set_cons_zero, List.set_cons_succ]
              refine tk 24 (some 152) ?_ (by rfl) (by kernel_rfl) (fun _ _ _ h => h) ?_ hHeld ?_; rotate_left
              · intro o ho; simp only [List.getElem?_toArray, List.getElem?_cons_succ, List.getElem?_cons_zero, Option.some.injEq] at ho; subst ho; refine ⟨by rfl, fun w hSw => ?_⟩; try dsimp only at hSw
                go_simp; try with_reducible rfl
              try simp only [Act.put, List.setIfInBounds_toArray, List.set_cons_zero, List.set_cons_succ]
              refine tk 26 (some 154) ?_ (by rfl) (by kernel_rfl) (fun _ _ _ h => h) ?_ hHeld ?_; rotate_left
              · intro o ho; simp only [List.getElem?_toArray, List.getElem?_cons_succ, List.getElem?_cons_zero, Option.some.injEq] at ho; subst ho; refine ⟨by rfl, fun w hSw => ?_⟩; try dsimp only at hSw
                go_simp; try with_reducible rfl
              try simp only [Act.put, List.setIfInBounds_toArray, List.set_cons_zero, List.set_cons_succ]
              refine tk 27 (some 155) ?_ (by rfl) (by kernel_rfl) (fun _ _ _ h => h) ?_ hHeld ?_; rotate_left
              · intro o ho; simp only [List.getElem?_toArray, List.getElem?_cons_succ, List.getElem?_cons_zero, Option.some.injEq] at ho; subst ho; refine ⟨by rfl, fun w hSw => ?_⟩; try dsimp only at hSw
                go_simp; try with_reducible rfl
              try simp only [Act.put, List.setIfInBounds_toArray, List.set_cons_zero, List.set_cons_succ]
              refine tk 28 (some 156) ?_ (by rfl) (by kernel_rfl) (fun _ _ _ h => h) ?_ hHeld ?_; rotate_left
              · intro o ho; simp only [List.getElem?_toArray, List.getElem?_cons_succ, List.getElem?_cons_zero, Option.some.injEq] at ho; subst ho; refine ⟨by rfl, fun w hSw => ?_⟩; try dsimp only at hSw
                go_simp; try with_reducible rfl
              try simp only [Act.put, List.setIfInBounds_toArray, List.set_cons_zero, List.set_cons_succ]
              refine tk 29 (some 157) ?_ (by rfl) (by kernel_rfl) (fun _ _ _ h => h) ?_ hHeld ?_; rotate_left
              · intro o ho; simp only [List.getElem?_toArray, List.getElem?_cons_succ, List.getElem?_cons_zero, Option.some.injEq] at ho; subst ho; refine ⟨by rfl, fun w hSw => ?_⟩; try dsimp only at hSw
                go_simp; try with_reducible rfl
              try simp only [Act.put, List.setIfInBounds_toArray, List.set_cons_zero, List.set_cons_succ]
              refine tk 30 (some 158) ?_ (by rfl) (by kernel_rfl) (fun _ _ _ h => h) ?_ hHeld ?_; rotate_left
              · intro o ho; simp only [List.getElem?_toArray, List.getElem?_cons_succ, List.getElem?_cons_zero, Option.some.injEq] at ho; subst ho; refine ⟨by rfl, fun w hSw => ?_⟩; try dsimp only at hSw
                go_simp; try with_reducible rfl
              try simp only [Act.put, List.setIfInBounds_toArray, List.set_cons_zero, List.set_cons_succ]
              refine oneH 25 (by kernel_rfl) (by rfl) (fun o ho K hK => ?_)
              simp only [List.getElem?_toArray, List.getElem?_cons_succ, List.getElem?_cons_zero, Option.some.injEq] at ho
              subst ho
              go_simp
              refine (sure_calls _ _ x5 (TX.out.f.below b5').cells.2.1).mono ?_
              rintro e x6 ⟨rfl, rfl⟩
              try go_wp2_with fail
              refine hK.out _ _ ?_ (fun hHeld2 => ?_)
              · exact hHeld
              clear hK K hHeld
              rename _ => hHeld
              try simp only [Act.put, List.setIfInBounds_toArray, List.set_cons_zero, List.set_cons_succ]
              refine tk 31 (some 159) ?_ (by rfl) (by kernel_rfl) (fun _ _ _ h => h) ?_ hHeld ?_; rotate_left
              · intro o ho; simp only [List.getElem?_toArray, List.getElem?_cons_succ, List.getElem?_cons_zero, Option.some.injEq] at ho; subst ho; refine ⟨by rfl, fun w hSw => ?_⟩; try dsimp only at hSw
                go_simp; try with_reducible rfl
              try simp only [Act.put, List.setIfInBounds_toArray, List.set_cons_zero, List.set_cons_succ]
              refine tk 32 (some 160) ?_ (by rfl) (by kernel_rfl) (fun _ _ _ h => h) ?_ hHeld ?_; rotate_left
              · intro o ho; simp only [List.getElem?_toArray, List.getElem?_cons_succ, List.getElem?_cons_zero, Option.some.injEq] at ho; subst ho; refine ⟨by rfl, fun w hSw => ?_⟩; try dsimp only at hSw
                go_simp; try with_reducible rfl
              try simp only [Act.put, List.setIfInBounds_toArray, List.set_cons_zero, List.set_cons_succ]
              refine wpAnyH_done (by kernel_rfl) ?_ _
              have TY := Aside0.mk (TX.out.below b5')
              have BY := Aside0.mk (BX.out.trans (b5'.mono BX.out.size))
              clear hHeld b1' b2' b3' b5' b1'' b2'' b5'' r1' r2' r5' hd dd yr TX BX
              go_wp2_with fail
              go_roundw
              case rel => exact ⟨k + 1, by omega, by go_num, ⟨p, qf, Af, cf, nn, r, qF, AF, cF, nF, lF, qL, AL, cL, nL, lL, false, rfl, rfl, TY.out, HL.out⟩, BY.out⟩
              case measure => simp [intOf]; omega
          · as_aux_lemma =>
              go_wp2_with fail
              refine (append_calls _ _ _ _ _ _ _ _ _ X cx (ml k) ys wr ST.out.f (HY.out.1.below HB.out) HY.out.2 (by omega) (by omega) HB.out.size).mono ?_
              rintro e w3 ⟨rfl, Af3, cf3, qf3, hf3, hd3, hq3⟩
              have hg3 := ST.out.refDid hd3
              have hB3 := HB.out.trans hd3.below
              have z2' := pw_cell_below hB3 V2.out
              go_wp2_with fail
              refine (rappend_calls _ _ _ _ _ _ _ _ _ _ _ _ _ X cx (ml k) ys w3 hg3 (HY.out.1.below hB3) HY.out.2 (by have := ST.out.n; omega) (by have := ST.out.n; omega) hB3.size).mono ?_
              rintro e w4 ⟨rfl, AL4, cL4, qL4, hg4, hd4, hq4⟩
              obtain ⟨mm, hmm⟩ : ∃ mm, nn + ml k = mm := ⟨_, rfl⟩
              obtain ⟨mL, hmL⟩ : ∃ mL, nL + ml k = mL := ⟨_, rfl⟩
              obtain ⟨lM, hlM⟩ : ∃ lM, lL ++ ys = lM := ⟨_, rfl⟩
              rw [hmL, hlM] at hg4
              rw [hmm, List.append_assoc, hlM] at hf3
              have hq3r : qf3 ≠ some r := by
                rcases hq3 with rfl | ⟨i, rfl, hi⟩
                · exact ST.out.s2
                · intro e; cases e; have := ST.out.g.lt; omega
              have hq3L : ∀ j, qf3 = some j → some j ≠ qL := by
                intro j hj e
                rcases hq3 with rfl | ⟨i, rfl, hi⟩
                · exact (ST.out.s5 j hj).2 e.symm
                · cases hj; have := (ST.out.g.rowL.size _ e.symm).2; omega
              have hq3F : ∀ j, qf3 = some j → qF ≠ some j := by
                intro j hj e
                rcases hq3 with rfl | ⟨i, rfl, hi⟩
                · exact (ST.out.s5 j hj).1 e
                · cases hj; have := (ST.out.g.rowF.size _ e).2; omega
              have hf4 := hf3.did hd4 ST.out.s1 (fun e => ST.out.s4 e.symm) hq3r hq3L
              have TX := Aside0.mk (show St w4 W.heap.size p qf3 Af3 cf3 mm r qF AF cF nF lF qL4 AL4 cL4 mL lM most false from
                ⟨hf4, hg4, by have := ST.out.n; omega, ST.out.s1, hq3r, ST.out.s3, by
                  rcases hq4 with rfl | ⟨i, rfl, hi⟩
                  · exact ST.out.s4
                  · intro e; cases e; have := hf3.lt; omega, fun j hj => ⟨hq3F j hj, by
                  rcases hq4 with rfl | ⟨i, rfl, hi⟩
                  · exact fun e => hq3L j hj e.symm
                  · intro e; cases e; have := (hf3.row.size j hj).2; omega⟩⟩)
              have BX := Aside0.mk (hB3.trans hd4.below)
              have HL := Aside0.mk (show mm ≤ 100 * (k + 1) by omega)
              clear hf3 hd3 hq3 hg3 hB3 z2' hg4 hd4 hq4 hmm hmL hlM hq3r hq3L hq3F hf4 ST HB z0 z1 z2
              obtain ⟨-, yr, -, -⟩ := TX.out.g.cells
              go_upto_region 30 with fail
              refine wp_region_held_drew (S := fun w' => w'.cell? ⟨r, 1, none⟩ = some (.slice AF nF cF)) (by kernel_rfl) ?_ (fun hHeld => ?_)
              · exact yr
              refine tk 0 (some 128) ?_ (by rfl) (by kernel_rfl) (fun _ _ _ h => h) ?_ hHeld ?_; rotate_left
              · intro o ho; simp only [List.getElem?_toArray, List.getElem?_cons_zero, Option.some.injEq] at ho; subst ho; refine ⟨by rfl, fun w hSw => ?_⟩; try dsimp only at hSw
                go_simp; try with_reducible rfl
              try simp only [Act.put, List.setIfInBounds_toArray, List.set_cons_zero, List.set_cons_succ]
              refine tk 1 (some 129) ?_ (by rfl) (by kernel_rfl) (fun _ _ _ h => h) ?_ hHeld ?_; rotate_left
              · intro o ho; simp only [List.getElem?_toArray, List.getElem?_cons_succ, List.getElem?_cons_zero, Option.some.injEq] at ho; subst ho; refine ⟨by rfl, fun w hSw => ?_⟩; try dsimp only at hSw
                go_simp; try with_reducible rfl
              try simp only [Act.put, List.setIfInBounds_toArray, List.set_cons_zero, List.set_cons_succ]
              refine tk 2 (some 130) ?_ (by rfl) (by kernel_rfl) (fun _ _ _ h => h) ?_ hHeld ?_; rotate_left
              · intro o ho; simp only [List.getElem?_toArray, List.getElem?_cons_succ, List.getElem?_cons_zero, Option.some.injEq] at ho; subst ho; refine ⟨by rfl, fun w hSw => ?_⟩; try dsimp only at hSw
                go_simp; try with_reducible rfl
              try simp only [Act.put, List.setIfInBounds_toArray, List.set_cons_zero, List.set_cons_succ]
              refine tk 3 (some 131) ?_ (by rfl) (by kernel_rfl) (fun _ _ _ h => h) ?_ hHeld ?_; rotate_left
              · intro o ho; simp only [List.getElem?_toArray, List.getElem?_cons_succ, List.getElem?_cons_zero, Option.some.injEq] at ho; subst ho; refine ⟨by rfl, fun w hSw => ?_⟩; try dsimp only at hSw
                go_simp; try with_reducible rfl
              try simp only [Act.put, List.setIfInBounds_toArray, List.set_cons_zero, List.set_cons_succ]
              refine tk 4 (some 132) ?_ (by rfl) (by kernel_rfl) (fun _ _ _ h => h) ?_ hHeld ?_; rotate_left
              · intro o ho; simp only [List.getElem?_toArray, List.getElem?_cons_succ, List.getElem?_cons_zero, Option.some.injEq] at ho; subst ho; refine ⟨by rfl, fun w hSw => ?_⟩; try dsimp only at hSw
                go_simp; try with_reducible rfl
              try simp only [Act.put, List.setIfInBounds_toArray, List.set_cons_zero, List.set_cons_succ]
              refine tk 5 (some 133) ?_ (by rfl) (by kernel_rfl) (fun _ _ _ h => h) ?_ hHeld ?_; rotate_left
              · intro o ho; simp only [List.getElem?_toArray, List.getElem?_cons_succ, List.getElem?_cons_zero, Option.some.injEq] at ho; subst ho; refine ⟨by rfl, fun w hSw => ?_⟩; try dsimp only at hSw
                go_simp; try with_reducible rfl
              try simp only [Act.put, List.setIfInBounds_toArray, List.set_cons_zero, List.set_cons_succ]
              refine tk 6 (some 134) ?_ (by rfl) (by kernel_rfl) (fun _ _ _ h => h) ?_ hHeld ?_; rotate_left
              · intro o ho; simp only [List.getElem?_toArray, List.getElem?_cons_succ, List.getElem?_cons_zero, Option.some.injEq] at ho; subst ho; refine ⟨by rfl, fun w hSw => ?_⟩; try dsimp only at hSw
                go_simp; try with_reducible rfl
              try simp only [Act.put, List.setIfInBounds_toArray, List.set_cons_zero, List.set_cons_succ]
              refine tk 7 (some 135) ?_ (by rfl) (by kernel_rfl) (fun _ _ _ h => h) ?_ hHeld ?_; rotate_left
              · intro o ho; simp only [List.getElem?_toArray, List.getElem?_cons_succ, List.getElem?_cons_zero, Option.some.injEq] at ho; subst ho; refine ⟨by rfl, fun w hSw => ?_⟩; try dsimp only at hSw
                go_simp; try with_reducible rfl
              try simp only [Act.put, List.setIfInBounds_toArray, List.set_cons_zero, List.set_cons_succ]
              refine tk 8 (some 136) ?_ (by rfl) (by kernel_rfl) (fun _ _ _ h => h) ?_ hHeld ?_; rotate_left
              · intro o ho; simp only [List.getElem?_toArray, List.getElem?_cons_succ, List.getElem?_cons_zero, Option.some.injEq] at ho; subst ho; refine ⟨by rfl, fun w hSw => ?_⟩; try dsimp only at hSw
                go_simp; try with_reducible rfl
              try simp only [Act.put, List.setIfInBounds_toArray, List.set_cons_zero, List.set_cons_succ]
              refine tk 10 (some 138) ?_ (by rfl) (by kernel_rfl) (fun _ _ _ h => h) ?_ hHeld ?_; rotate_left
              · intro o ho; simp only [List.getElem?_toArray, List.getElem?_cons_succ, List.getElem?_cons_zero, Option.some.injEq] at ho; subst ho; refine ⟨by rfl, fun w hSw => ?_⟩; try dsimp only at hSw
                go_simp; try with_reducible rfl
              try simp only [Act.put, List.setIfInBounds_toArray, List.set_cons_zero, List.set_cons_succ]
              refine oneH 9 (by kernel_rfl) (by rfl) (fun o ho K hK => ?_)
              simp only [List.getElem?_toArray, List.getElem?_cons_succ, List.getElem?_cons_zero, Option.some.injEq] at ho
              subst ho
              go_simp
              refine (bytes_calls _ _ _ _ (lF ++ lM) TX.out.f.len (by have := HL.out; omega) _ (by exact TX.out.f.cells.1) (by exact TX.out.f.bs.drewN 1)).mono ?_
              rintro e x1 ⟨A1', c1', q1', rfl, r1', b1''⟩
              have b1' := nodrew b1''
              try go_wp2_with fail
              refine hK.out _ _ ?_ (fun hHeld2 => ?_)
              · exact cb b1' yr
              clear hK K hHeld
              rename _ => hHeld
              try simp only [Act.put, List.setIfInBounds_toArray, List.set_cons_zero, List.set_cons_succ]
              refine oneH 11 (by kernel_rfl) (by rfl) (fun o ho K hK => ?_)
              simp only [List.getElem?_toArray, List.getElem?_cons_succ, List.getElem?_cons_zero, Option.some.injEq] at ho
              subst ho
              go_simp
              refine (all_calls _ _ _ _ _ _ _ _ _ _ _ _ _ _ mm TX.out.n (by have := HL.out; omega) x1 (TX.out.g.below b1')).mono ?_
              rintro e x2 ⟨A2', c2', q2', rfl, r2', b2''⟩
              have b2' := below_step b1' b2''
              try go_wp2_with fail
              refine hK.out _ _ ?_ (fun hHeld2 => ?_)
              · exact cb b2' yr
              clear hK K hHeld
              rename _ => hHeld
              try simp only [Act.put, List.setIfInBounds_toArray, List.set_cons_zero, List.set_cons_succ]
              refine oneH 12 (by kernel_rfl) (by rfl) (fun o ho K hK => ?_)
              simp only [List.getElem?_toArray, List.getElem?_cons_succ, List.getElem?_cons_zero, Option.some.injEq] at ho
              subst ho
              go_simp
              refine (same_calls _ _ mm (lF ++ lM) TX.out.f.len _ _ mm (lF ++ lM) TX.out.f.len x2 (r1'.below b2'').bs r2'.bs).mono ?_
              rintro e x3 ⟨rfl, hd⟩
              have dd : decide ((lF ++ lM) = (lF ++ lM)) = true := by simp
              rw [dd]
              have b3' := below_step b2' (same_below hd)
              try go_wp2_with fail
              refine hK.out _ _ ?_ (fun hHeld2 => ?_)
              · exact cb b3' yr
              clear hK K hHeld
              rename _ => hHeld
              try simp only [Act.put, List.setIfInBounds_toArray, List.set_cons_zero, List.set_cons_succ]
              refine tk 13 (some 141) ?_ (by rfl) (by kernel_rfl) (fun _ _ _ h => h) ?_ hHeld ?_; rotate_left
              · intro o ho; simp only [List.getElem?_toArray, List.getElem?_cons_succ, List.getElem?_cons_zero, Option.some.injEq] at ho; subst ho; refine ⟨by rfl, fun w hSw => ?_⟩; try dsimp only at hSw
                go_simp; try with_reducible rfl
              try simp only [Act.put, List.setIfInBounds_toArray, List.set_cons_zero, List.set_cons_succ]
              refine tk 14 (some 142) ?_ (by rfl) (by kernel_rfl) (fun _ _ _ h => h) ?_ hHeld ?_; rotate_left
              · intro o ho; simp only [List.getElem?_toArray, List.getElem?_cons_succ, List.getElem?_cons_zero, Option.some.injEq] at ho; subst ho; refine ⟨by rfl, fun w hSw => ?_⟩; try dsimp only at hSw
                go_simp; try with_reducible rfl
              try simp only [Act.put, List.setIfInBounds_toArray, List.set_cons_zero, List.set_cons_succ]
              refine tk 15 (some 143) ?_ (by rfl) (by kernel_rfl) (fun _ _ _ h => h) ?_ hHeld ?_; rotate_left
              · intro o ho; simp only [List.getElem?_toArray, List.getElem?_cons_succ, List.getElem?_cons_zero, Option.some.injEq] at ho; subst ho; refine ⟨by rfl, fun w hSw => ?_⟩; try dsimp only at hSw
                go_simp; try with_reducible rfl
              try simp only [Act.put, List.setIfInBounds_toArray, List.set_cons_zero, List.set_cons_succ]
              refine tk 16 (some 144) ?_ (by rfl) (by kernel_rfl) (fun _ _ _ h => h) ?_ hHeld ?_; rotate_left
              · intro o ho; simp only [List.getElem?_toArray, List.getElem?_cons_succ, List.getElem?_cons_zero, Option.some.injEq] at ho; subst ho; refine ⟨by rfl, fun w hSw => ?_⟩; try dsimp only at hSw
                go_simp; try with_reducible rfl
              try simp only [Act.put, List.setIfInBounds_toArray, List.set_cons_zero, List.set_cons_succ]
              refine tk 18 (some 146) ?_ (by rfl) (by kernel_rfl) (fun _ _ _ h => h) ?_ hHeld ?_; rotate_left
              · intro o ho; simp only [List.getElem?_toArray, List.getElem?_cons_succ, List.getElem?_cons_zero, Option.some.injEq] at ho; subst ho; refine ⟨by rfl, fun w hSw => ?_⟩; try dsimp only at hSw
                go_simp; try with_reducible rfl
              try simp only [Act.put, List.setIfInBounds_toArray, List.set_cons_zero, List.set_cons_succ]
              refine oneH 17 (by kernel_rfl) (by rfl) (fun o ho K hK => ?_)
              simp only [List.getElem?_toArray, List.getElem?_cons_succ, List.getElem?_cons_zero, Option.some.injEq] at ho
              subst ho
              go_simp
              refine (len_calls _ _ _ _ x3 (TX.out.f.below b3').cells.1).mono ?_
              rintro e x4 ⟨rfl, rfl⟩
              try go_wp2_with fail
              refine hK.out _ _ ?_ (fun hHeld2 => ?_)
              · exact hHeld
              clear hK K hHeld
              rename _ => hHeld
              try simp only [Act.put, List.setIfInBounds_toArray, List.set_cons_zero, List.set_cons_succ]
              refine oneH 19 (by kernel_rfl) (by rfl) (fun o ho K hK => ?_)
              simp only [List.getElem?_toArray, List.getElem?_cons_succ, List.getElem?_cons_zero, Option.some.injEq] at ho
              subst ho
              go_simp
              refine (all_calls _ _ _ _ _ _ _ _ _ _ _ _ _ _ mm TX.out.n (by have := HL.out; omega) x3 (TX.out.g.below b3')).mono ?_
              rintro e x5 ⟨A5', c5', q5', rfl, r5', b5''⟩
              have b5' := below_step b3' b5''
              try go_wp2_with fail
              refine hK.out _ _ ?_ (fun hHeld2 => ?_)
              · exact cb b5' yr
              clear hK K hHeld
              rename _ => hHeld
              try simp only [Act.put, List.setIfInBounds_toArray, List.set_cons_zero, List.set_cons_succ]
              refine tk 20 (some 148) ?_ (by rfl) (by kernel_rfl) (fun _ _ _ h => h) ?_ hHeld ?_; rotate_left
              · intro o ho; simp only [List.getElem?_toArray, List.getElem?_cons_succ, List.getElem?_cons_zero, Option.some.injEq] at ho; subst ho; refine ⟨by rfl, fun w hSw => ?_⟩; try dsimp only at hSw
                go_simp; try with_reducible rfl
              try simp only [Act.put, List.setIfInBounds_toArray, List.set_cons_zero, List.set_cons_succ]
              refine tk 21 (some 149) ?_ (by rfl) (by kernel_rfl) (fun _ _ _ h => h) ?_ hHeld ?_; rotate_left
              · intro o ho; simp only [List.getElem?_toArray, List.getElem?_cons_succ, List.getElem?_cons_zero, Option.some.injEq] at ho; subst ho; refine ⟨by rfl, fun w hSw => ?_⟩; try dsimp only at hSw
                go_simp; try with_reducible rfl
              try simp only [Act.put, List.setIfInBounds_toArray, List.set_cons_zero, List.set_cons_succ]
              refine tk 22 (some 150) ?_ (by rfl) (by kernel_rfl) (fun _ _ _ h => h) ?_ hHeld ?_; rotate_left
              · intro o ho; simp only [List.getElem?_toArray, List.getElem?_cons_succ, List.getElem?_cons_zero, Option.some.injEq] at ho; subst ho; refine ⟨by rfl, fun w hSw => ?_⟩; try dsimp only at hSw
                go_simp; try with_reducible rfl
              try simp only [Act.put, List.setIfInBounds_toArray, List.set_cons_zero, List.set_cons_succ]
              refine tk 23 (some 151) ?_ (by rfl) (by kernel_rfl) (fun _ _ _ h => h) ?_ hHeld ?_; rotate_left
              · intro o ho; simp only [List.getElem?_toArray, List.getElem?_cons_succ, List.getElem?_cons_zero, Option.some.injEq] at ho; subst ho; refine ⟨by rfl, fun w hSw => ?_⟩; try dsimp only at hSw
                go_simp; try with_reducible rfl
              try simp only [Act.put, List.setIfInBounds_toArray, List.set_cons_zero, List.set_cons_succ]
              refine tk 24 (some 152) ?_ (by rfl) (by kernel_rfl) (fun _ _ _ h => h) ?_ hHeld ?_; rotate_left
              · intro o ho; simp only [List.getElem?_toArray, List.getElem?_cons_succ, List.getElem?_cons_zero, Option.some.injEq] at ho; subst ho; refine ⟨by rfl, fun w hSw => ?_⟩; try dsimp only at hSw
                go_simp; try with_reducible rfl
              try simp only [Act.put, List.setIfInBounds_toArray, List.set_cons_zero, List.set_cons_succ]
              refine tk 26 (some 154) ?_ (by rfl) (by kernel_rfl) (fun _ _ _ h => h) ?_ hHeld ?_; rotate_left
              · intro o ho; simp only [List.getElem?_toArray, List.getElem?_cons_succ, List.getElem?_cons_zero, Option.some.injEq] at ho; subst ho; refine ⟨by rfl, fun w hSw => ?_⟩; try dsimp only at hSw
                go_simp; try with_reducible rfl
              try simp only [Act.put, List.setIfInBounds_toArray, List.set_cons_zero, List.set_cons_succ]
              refine tk 27 (some 155) ?_ (by rfl) (by kernel_rfl) (fun _ _ _ h => h) ?_ hHeld ?_; rotate_left
              · intro o ho; simp only [List.getElem?_toArray, List.getElem?_cons_succ, List.getElem?_cons_zero, Option.some.injEq] at ho; subst ho; refine ⟨by rfl, fun w hSw => ?_⟩; try dsimp only at hSw
                go_simp; try with_reducible rfl
              try simp only [Act.put, List.setIfInBounds_toArray, List.set_cons_zero, List.set_cons_succ]
              refine tk 28 (some 156) ?_ (by rfl) (by kernel_rfl) (fun _ _ _ h => h) ?_ hHeld ?_; rotate_left
              · intro o ho; simp only [List.getElem?_toArray, List.getElem?_cons_succ, List.getElem?_cons_zero, Option.some.injEq] at ho; subst ho; refine ⟨by rfl, fun w hSw => ?_⟩; try dsimp only at hSw
                go_simp; try with_reducible rfl
              try simp only [Act.put, List.setIfInBounds_toArray, List.set_cons_zero, List.set_cons_succ]
              refine tk 29 (some 157) ?_ (by rfl) (by kernel_rfl) (fun _ _ _ h => h) ?_ hHeld ?_; rotate_left
              · intro o ho; simp only [List.getElem?_toArray, List.getElem?_cons_succ, List.getElem?_cons_zero, Option.some.injEq] at ho; subst ho; refine ⟨by rfl, fun w hSw => ?_⟩; try dsimp only at hSw
                go_simp; try with_reducible rfl
              try simp only [Act.put, List.setIfInBounds_toArray, List.set_cons_zero, List.set_cons_succ]
              refine tk 30 (some 158) ?_ (by rfl) (by kernel_rfl) (fun _ _ _ h => h) ?_ hHeld ?_; rotate_left
              · intro o ho; simp only [List.getElem?_toArray, List.getElem?_cons_succ, List.getElem?_cons_zero, Option.some.injEq] at ho; subst ho; refine ⟨by rfl, fun w hSw => ?_⟩; try dsimp only at hSw
                go_simp; try with_reducible rfl
              try simp only [Act.put, List.setIfInBounds_toArray, List.set_cons_zero, List.set_cons_succ]
              refine oneH 25 (by kernel_rfl) (by rfl) (fun o ho K hK => ?_)
              simp only [List.getElem?_toArray, List.getElem?_cons_succ, List.getElem?_cons_zero, Option.some.injEq] at ho
              subst ho
              go_simp
              refine (sure_calls _ _ x5 (TX.out.f.below b5').cells.2.1).mono ?_
              rintro e x6 ⟨rfl, rfl⟩
              try go_wp2_with fail
              refine hK.out _ _ ?_ (fun hHeld2 => ?_)
              · exact hHeld
              clear hK K hHeld
              rename _ => hHeld
              try simp only [Act.put, List.setIfInBounds_toArray, List.set_cons_zero, List.set_cons_succ]
              refine tk 31 (some 159) ?_ (by rfl) (by kernel_rfl) (fun _ _ _ h => h) ?_ hHeld ?_; rotate_left
              · intro o ho; simp only [List.getElem?_toArray, List.getElem?_cons_succ, List.getElem?_cons_zero, Option.some.injEq] at ho; subst ho; refine ⟨by rfl, fun w hSw => ?_⟩; try dsimp only at hSw
                go_simp; try with_reducible rfl
              try simp only [Act.put, List.setIfInBounds_toArray, List.set_cons_zero, List.set_cons_succ]
              refine tk 32 (some 160) ?_ (by rfl) (by kernel_rfl) (fun _ _ _ h => h) ?_ hHeld ?_; rotate_left
              · intro o ho; simp only [List.getElem?_toArray, List.getElem?_cons_succ, List.getElem?_cons_zero, Option.some.injEq] at ho; subst ho; refine ⟨by rfl, fun w hSw => ?_⟩; try dsimp only at hSw
                go_simp; try with_reducible rfl
              try simp only [Act.put, List.setIfInBounds_toArray, List.set_cons_zero, List.set_cons_succ]
              refine wpAnyH_done (by kernel_rfl) ?_ _
              have TY := Aside0.mk (TX.out.below b5')
              have BY := Aside0.mk (BX.out.trans (b5'.mono BX.out.size))
              clear hHeld b1' b2' b3' b5' b1'' b2'' b5'' r1' r2' r5' hd dd yr TX BX
              go_wp2_with fail
              go_roundw
              case rel => exact ⟨k + 1, by omega, by go_num, ⟨p, qf3, Af3, cf3, mm, r, qF, AF, cF, nF, lF, qL4, AL4, cL4, mL, lM, false, rfl, rfl, TY.out, HL.out⟩, BY.out⟩
              case measure => simp [intOf]; omega
        · as_aux_lemma =>
            go_wp2_with fail
            refine (append_crashed _ _ _ _ _ _ _ _ _ _ _ _ wr ST.out.f).mono ?_
            rintro e x0 ⟨rfl, rfl⟩
            go_wp2_with fail
            refine (rappend_crashed _ _ _ _ _ _ _ _ _ _ _ _ _ _ _ _ wr ST.out.g).mono ?_
            rintro e x0 ⟨rfl, rfl⟩
            have TX := ST
            have BX := HB
            have HL := Aside0.mk (show nn ≤ 100 * (k + 1) by omega)
            clear ST HB z0 z1 z2
            obtain ⟨-, yr, -, -⟩ := TX.out.g.cells
            go_upto_region 30 with fail
            refine wp_region_held_drew (S := fun w' => w'.cell? ⟨r, 1, none⟩ = some (.slice AF nF cF)) (by kernel_rfl) ?_ (fun hHeld => ?_)
            · exact yr
            refine tk 0 (some 128) ?_ (by rfl) (by kernel_rfl) (fun _ _ _ h => h) ?_ hHeld ?_; rotate_left
            · intro o ho; simp only [List.getElem?_toArray, List.getElem?_cons_zero, Option.some.injEq] at ho; subst ho; refine ⟨by rfl, fun w hSw => ?_⟩; try dsimp only at hSw
              go_simp; try with_reducible rfl
            try simp only [Act.put, List.setIfInBounds_toArray, List.set_cons_zero, List.set_cons_succ]
            refine tk 1 (some 129) ?_ (by rfl) (by kernel_rfl) (fun _ _ _ h => h) ?_ hHeld ?_; rotate_left
            · intro o ho; simp only [List.getElem?_toArray, List.getElem?_cons_succ, List.getElem?_cons_zero, Option.some.injEq] at ho; subst ho; refine ⟨by rfl, fun w hSw => ?_⟩; try dsimp only at hSw
              go_simp; try with_reducible rfl
            try simp only [Act.put, List.setIfInBounds_toArray, List.set_cons_zero, List.set_cons_succ]
            refine tk 2 (some 130) ?_ (by rfl) (by kernel_rfl) (fun _ _ _ h => h) ?_ hHeld ?_; rotate_left
            · intro o ho; simp only [List.getElem?_toArray, List.getElem?_cons_succ, List.getElem?_cons_zero, Option.some.injEq] at ho; subst ho; refine ⟨by rfl, fun w hSw => ?_⟩; try dsimp only at hSw
              go_simp; try with_reducible rfl
            try simp only [Act.put, List.setIfInBounds_toArray, List.set_cons_zero, List.set_cons_succ]
            refine tk 3 (some 131) ?_ (by rfl) (by kernel_rfl) (fun _ _ _ h => h) ?_ hHeld ?_; rotate_left
            · intro o ho; simp only [List.getElem?_toArray, List.getElem?_cons_succ, List.getElem?_cons_zero, Option.some.injEq] at ho; subst ho; refine ⟨by rfl, fun w hSw => ?_⟩; try dsimp only at hSw
              go_simp; try with_reducible rfl
            try simp only [Act.put, List.setIfInBounds_toArray, List.set_cons_zero, List.set_cons_succ]
            refine tk 4 (some 132) ?_ (by rfl) (by kernel_rfl) (fun _ _ _ h => h) ?_ hHeld ?_; rotate_left
            · intro o ho; simp only [List.getElem?_toArray, List.getElem?_cons_succ, List.getElem?_cons_zero, Option.some.injEq] at ho; subst ho; refine ⟨by rfl, fun w hSw => ?_⟩; try dsimp only at hSw
              go_simp; try with_reducible rfl
            try simp only [Act.put, List.setIfInBounds_toArray, List.set_cons_zero, List.set_cons_succ]
            refine tk 5 (some 133) ?_ (by rfl) (by kernel_rfl) (fun _ _ _ h => h) ?_ hHeld ?_; rotate_left
            · intro o ho; simp only [List.getElem?_toArray, List.getElem?_cons_succ, List.getElem?_cons_zero, Option.some.injEq] at ho; subst ho; refine ⟨by rfl, fun w hSw => ?_⟩; try dsimp only at hSw
              go_simp; try with_reducible rfl
            try simp only [Act.put, List.setIfInBounds_toArray, List.set_cons_zero, List.set_cons_succ]
            refine tk 6 (some 134) ?_ (by rfl) (by kernel_rfl) (fun _ _ _ h => h) ?_ hHeld ?_; rotate_left
            · intro o ho; simp only [List.getElem?_toArray, List.getElem?_cons_succ, List.getElem?_cons_zero, Option.some.injEq] at ho; subst ho; refine ⟨by rfl, fun w hSw => ?_⟩; try dsimp only at hSw
              go_simp; try with_reducible rfl
            try simp only [Act.put, List.setIfInBounds_toArray, List.set_cons_zero, List.set_cons_succ]
            refine tk 7 (some 135) ?_ (by rfl) (by kernel_rfl) (fun _ _ _ h => h) ?_ hHeld ?_; rotate_left
            · intro o ho; simp only [List.getElem?_toArray, List.getElem?_cons_succ, List.getElem?_cons_zero, Option.some.injEq] at ho; subst ho; refine ⟨by rfl, fun w hSw => ?_⟩; try dsimp only at hSw
              go_simp; try with_reducible rfl
            try simp only [Act.put, List.setIfInBounds_toArray, List.set_cons_zero, List.set_cons_succ]
            refine tk 8 (some 136) ?_ (by rfl) (by kernel_rfl) (fun _ _ _ h => h) ?_ hHeld ?_; rotate_left
            · intro o ho; simp only [List.getElem?_toArray, List.getElem?_cons_succ, List.getElem?_cons_zero, Option.some.injEq] at ho; subst ho; refine ⟨by rfl, fun w hSw => ?_⟩; try dsimp only at hSw
              go_simp; try with_reducible rfl
            try simp only [Act.put, List.setIfInBounds_toArray, List.set_cons_zero, List.set_cons_succ]
            refine tk 10 (some 138) ?_ (by rfl) (by kernel_rfl) (fun _ _ _ h => h) ?_ hHeld ?_; rotate_left
            · intro o ho; simp only [List.getElem?_toArray, List.getElem?_cons_succ, List.getElem?_cons_zero, Option.some.injEq] at ho; subst ho; refine ⟨by rfl, fun w hSw => ?_⟩; try dsimp only at hSw
              go_simp; try with_reducible rfl
            try simp only [Act.put, List.setIfInBounds_toArray, List.set_cons_zero, List.set_cons_succ]
            refine oneH 9 (by kernel_rfl) (by rfl) (fun o ho K hK => ?_)
            simp only [List.getElem?_toArray, List.getElem?_cons_succ, List.getElem?_cons_zero, Option.some.injEq] at ho
            subst ho
            go_simp
            refine (bytes_calls _ _ _ _ (lF ++ lL) TX.out.f.len (by have := HL.out; omega) _ (by exact TX.out.f.cells.1) (by exact TX.out.f.bs.drewN 1)).mono ?_
            rintro e x1 ⟨A1', c1', q1', rfl, r1', b1''⟩
            have b1' := nodrew b1''
            try go_wp2_with fail
            refine hK.out _ _ ?_ (fun hHeld2 => ?_)
            · exact cb b1' yr
            clear hK K hHeld
            rename _ => hHeld
            try simp only [Act.put, List.setIfInBounds_toArray, List.set_cons_zero, List.set_cons_succ]
            refine oneH 11 (by kernel_rfl) (by rfl) (fun o ho K hK => ?_)
            simp only [List.getElem?_toArray, List.getElem?_cons_succ, List.getElem?_cons_zero, Option.some.injEq] at ho
            subst ho
            go_simp
            refine (all_calls _ _ _ _ _ _ _ _ _ _ _ _ _ _ nn TX.out.n (by have := HL.out; omega) x1 (TX.out.g.below b1')).mono ?_
            rintro e x2 ⟨A2', c2', q2', rfl, r2', b2''⟩
            have b2' := below_step b1' b2''
            try go_wp2_with fail
            refine hK.out _ _ ?_ (fun hHeld2 => ?_)
            · exact cb b2' yr
            clear hK K hHeld
            rename _ => hHeld
            try simp only [Act.put, List.setIfInBounds_toArray, List.set_cons_zero, List.set_cons_succ]
            refine oneH 12 (by kernel_rfl) (by rfl) (fun o ho K hK => ?_)
            simp only [List.getElem?_toArray, List.getElem?_cons_succ, List.getElem?_cons_zero, Option.some.injEq] at ho
            subst ho
            go_simp
            refine (same_calls _ _ nn (lF ++ lL) TX.out.f.len _ _ nn (lF ++ lL) TX.out.f.len x2 (r1'.below b2'').bs r2'.bs).mono ?_
            rintro e x3 ⟨rfl, hd⟩
            have dd : decide ((lF ++ lL) = (lF ++ lL)) = true := by simp
            rw [dd]
            have b3' := below_step b2' (same_below hd)
            try go_wp2_with fail
            refine hK.out _ _ ?_ (fun hHeld2 => ?_)
            · exact cb b3' yr
            clear hK K hHeld
            rename _ => hHeld
            try simp only [Act.put, List.setIfInBounds_toArray, List.set_cons_zero, List.set_cons_succ]
            refine tk 13 (some 141) ?_ (by rfl) (by kernel_rfl) (fun _ _ _ h => h) ?_ hHeld ?_; rotate_left
            · intro o ho; simp only [List.getElem?_toArray, List.getElem?_cons_succ, List.getElem?_cons_zero, Option.some.injEq] at ho; subst ho; refine ⟨by rfl, fun w hSw => ?_⟩; try dsimp only at hSw
              go_simp; try with_reducible rfl
            try simp only [Act.put, List.setIfInBounds_toArray, List.set_cons_zero, List.set_cons_succ]
            refine tk 14 (some 142) ?_ (by rfl) (by kernel_rfl) (fun _ _ _ h => h) ?_ hHeld ?_; rotate_left
            · intro o ho; simp only [List.getElem?_toArray, List.getElem?_cons_succ, List.getElem?_cons_zero, Option.some.injEq] at ho; subst ho; refine ⟨by rfl, fun w hSw => ?_⟩; try dsimp only at hSw
              go_simp; try with_reducible rfl
            try simp only [Act.put, List.setIfInBounds_toArray, List.set_cons_zero, List.set_cons_succ]
            refine tk 15 (some 143) ?_ (by rfl) (by kernel_rfl) (fun _ _ _ h => h) ?_ hHeld ?_; rotate_left
            · intro o ho; simp only [List.getElem?_toArray, List.getElem?_cons_succ, List.getElem?_cons_zero, Option.some.injEq] at ho; subst ho; refine ⟨by rfl, fun w hSw => ?_⟩; try dsimp only at hSw
              go_simp; try with_reducible rfl
            try simp only [Act.put, List.setIfInBounds_toArray, List.set_cons_zero, List.set_cons_succ]
            refine tk 16 (some 144) ?_ (by rfl) (by kernel_rfl) (fun _ _ _ h => h) ?_ hHeld ?_; rotate_left
            · intro o ho; simp only [List.getElem?_toArray, List.getElem?_cons_succ, List.getElem?_cons_zero, Option.some.injEq] at ho; subst ho; refine ⟨by rfl, fun w hSw => ?_⟩; try dsimp only at hSw
              go_simp; try with_reducible rfl
            try simp only [Act.put, List.setIfInBounds_toArray, List.set_cons_zero, List.set_cons_succ]
            refine tk 18 (some 146) ?_ (by rfl) (by kernel_rfl) (fun _ _ _ h => h) ?_ hHeld ?_; rotate_left
            · intro o ho; simp only [List.getElem?_toArray, List.getElem?_cons_succ, List.getElem?_cons_zero, Option.some.injEq] at ho; subst ho; refine ⟨by rfl, fun w hSw => ?_⟩; try dsimp only at hSw
              go_simp; try with_reducible rfl
            try simp only [Act.put, List.setIfInBounds_toArray, List.set_cons_zero, List.set_cons_succ]
            refine oneH 17 (by kernel_rfl) (by rfl) (fun o ho K hK => ?_)
            simp only [List.getElem?_toArray, List.getElem?_cons_succ, List.getElem?_cons_zero, Option.some.injEq] at ho
            subst ho
            go_simp
            refine (len_calls _ _ _ _ x3 (TX.out.f.below b3').cells.1).mono ?_
            rintro e x4 ⟨rfl, rfl⟩
            try go_wp2_with fail
            refine hK.out _ _ ?_ (fun hHeld2 => ?_)
            · exact hHeld
            clear hK K hHeld
            rename _ => hHeld
            try simp only [Act.put, List.setIfInBounds_toArray, List.set_cons_zero, List.set_cons_succ]
            refine oneH 19 (by kernel_rfl) (by rfl) (fun o ho K hK => ?_)
            simp only [List.getElem?_toArray, List.getElem?_cons_succ, List.getElem?_cons_zero, Option.some.injEq] at ho
            subst ho
            go_simp
            refine (all_calls _ _ _ _ _ _ _ _ _ _ _ _ _ _ nn TX.out.n (by have := HL.out; omega) x3 (TX.out.g.below b3')).mono ?_
            rintro e x5 ⟨A5', c5', q5', rfl, r5', b5''⟩
            have b5' := below_step b3' b5''
            try go_wp2_with fail
            refine hK.out _ _ ?_ (fun hHeld2 => ?_)
            · exact cb b5' yr
            clear hK K hHeld
            rename _ => hHeld
            try simp only [Act.put, List.setIfInBounds_toArray, List.set_cons_zero, List.set_cons_succ]
            refine tk 20 (some 148) ?_ (by rfl) (by kernel_rfl) (fun _ _ _ h => h) ?_ hHeld ?_; rotate_left
            · intro o ho; simp only [List.getElem?_toArray, List.getElem?_cons_succ, List.getElem?_cons_zero, Option.some.injEq] at ho; subst ho; refine ⟨by rfl, fun w hSw => ?_⟩; try dsimp only at hSw
              go_simp; try with_reducible rfl
            try simp only [Act.put, List.setIfInBounds_toArray, List.set_cons_zero, List.set_cons_succ]
            refine tk 21 (some 149) ?_ (by rfl) (by kernel_rfl) (fun _ _ _ h => h) ?_ hHeld ?_; rotate_left
            · intro o ho; simp only [List.getElem?_toArray, List.getElem?_cons_succ, List.getElem?_cons_zero, Option.some.injEq] at ho; subst ho; refine ⟨by rfl, fun w hSw => ?_⟩; try dsimp only at hSw
              go_simp; try with_reducible rfl
            try simp only [Act.put, List.setIfInBounds_toArray, List.set_cons_zero, List.set_cons_succ]
            refine tk 22 (some 150) ?_ (by rfl) (by kernel_rfl) (fun _ _ _ h => h) ?_ hHeld ?_; rotate_left
            · intro o ho; simp only [List.getElem?_toArray, List.getElem?_cons_succ, List.getElem?_cons_zero, Option.some.injEq] at ho; subst ho; refine ⟨by rfl, fun w hSw => ?_⟩; try dsimp only at hSw
              go_simp; try with_reducible rfl
            try simp only [Act.put, List.setIfInBounds_toArray, List.set_cons_zero, List.set_cons_succ]
            refine tk 23 (some 151) ?_ (by rfl) (by kernel_rfl) (fun _ _ _ h => h) ?_ hHeld ?_; rotate_left
            · intro o ho; simp only [List.getElem?_toArray, List.getElem?_cons_succ, List.getElem?_cons_zero, Option.some.injEq] at ho; subst ho; refine ⟨by rfl, fun w hSw => ?_⟩; try dsimp only at hSw
              go_simp; try with_reducible rfl
            try simp only [Act.put, List.setIfInBounds_toArray, List.set_cons_zero, List.set_cons_succ]
            refine tk 24 (some 152) ?_ (by rfl) (by kernel_rfl) (fun _ _ _ h => h) ?_ hHeld ?_; rotate_left
            · intro o ho; simp only [List.getElem?_toArray, List.getElem?_cons_succ, List.getElem?_cons_zero, Option.some.injEq] at ho; subst ho; refine ⟨by rfl, fun w hSw => ?_⟩; try dsimp only at hSw
              go_simp; try with_reducible rfl
            try simp only [Act.put, List.setIfInBounds_toArray, List.set_cons_zero, List.set_cons_succ]
            refine tk 26 (some 154) ?_ (by rfl) (by kernel_rfl) (fun _ _ _ h => h) ?_ hHeld ?_; rotate_left
            · intro o ho; simp only [List.getElem?_toArray, List.getElem?_cons_succ, List.getElem?_cons_zero, Option.some.injEq] at ho; subst ho; refine ⟨by rfl, fun w hSw => ?_⟩; try dsimp only at hSw
              go_simp; try with_reducible rfl
            try simp only [Act.put, List.setIfInBounds_toArray, List.set_cons_zero, List.set_cons_succ]
            refine tk 27 (some 155) ?_ (by rfl) (by kernel_rfl) (fun _ _ _ h => h) ?_ hHeld ?_; rotate_left
            · intro o ho; simp only [List.getElem?_toArray, List.getElem?_cons_succ, List.getElem?_cons_zero, Option.some.injEq] at ho; subst ho; refine ⟨by rfl, fun w hSw => ?_⟩; try dsimp only at hSw
              go_simp; try with_reducible rfl
            try simp only [Act.put, List.setIfInBounds_toArray, List.set_cons_zero, List.set_cons_succ]
            refine tk 28 (some 156) ?_ (by rfl) (by kernel_rfl) (fun _ _ _ h => h) ?_ hHeld ?_; rotate_left
            · intro o ho; simp only [List.getElem?_toArray, List.getElem?_cons_succ, List.getElem?_cons_zero, Option.some.injEq] at ho; subst ho; refine ⟨by rfl, fun w hSw => ?_⟩; try dsimp only at hSw
              go_simp; try with_reducible rfl
            try simp only [Act.put, List.setIfInBounds_toArray, List.set_cons_zero, List.set_cons_succ]
            refine tk 29 (some 157) ?_ (by rfl) (by kernel_rfl) (fun _ _ _ h => h) ?_ hHeld ?_; rotate_left
            · intro o ho; simp only [List.getElem?_toArray, List.getElem?_cons_succ, List.getElem?_cons_zero, Option.some.injEq] at ho; subst ho; refine ⟨by rfl, fun w hSw => ?_⟩; try dsimp only at hSw
              go_simp; try with_reducible rfl
            try simp only [Act.put, List.setIfInBounds_toArray, List.set_cons_zero, List.set_cons_succ]
            refine tk 30 (some 158) ?_ (by rfl) (by kernel_rfl) (fun _ _ _ h => h) ?_ hHeld ?_; rotate_left
            · intro o ho; simp only [List.getElem?_toArray, List.getElem?_cons_succ, List.getElem?_cons_zero, Option.some.injEq] at ho; subst ho; refine ⟨by rfl, fun w hSw => ?_⟩; try dsimp only at hSw
              go_simp; try with_reducible rfl
            try simp only [Act.put, List.setIfInBounds_toArray, List.set_cons_zero, List.set_cons_succ]
            refine oneH 25 (by kernel_rfl) (by rfl) (fun o ho K hK => ?_)
            simp only [List.getElem?_toArray, List.getElem?_cons_succ, List.getElem?_cons_zero, Option.some.injEq] at ho
            subst ho
            go_simp
            refine (sure_calls _ _ x5 (TX.out.f.below b5').cells.2.1).mono ?_
            rintro e x6 ⟨rfl, rfl⟩
            try go_wp2_with fail
            refine hK.out _ _ ?_ (fun hHeld2 => ?_)
            · exact hHeld
            clear hK K hHeld
            rename _ => hHeld
            try simp only [Act.put, List.setIfInBounds_toArray, List.set_cons_zero, List.set_cons_succ]
            refine tk 31 (some 159) ?_ (by rfl) (by kernel_rfl) (fun _ _ _ h => h) ?_ hHeld ?_; rotate_left
            · intro o ho; simp only [List.getElem?_toArray, List.getElem?_cons_succ, List.getElem?_cons_zero, Option.some.injEq] at ho; subst ho; refine ⟨by rfl, fun w hSw => ?_⟩; try dsimp only at hSw
              go_simp; try with_reducible rfl
            try simp only [Act.put, List.setIfInBounds_toArray, List.set_cons_zero, List.set_cons_succ]
            refine tk 32 (some 160) ?_ (by rfl) (by kernel_rfl) (fun _ _ _ h => h) ?_ hHeld ?_; rotate_left
            · intro o ho; simp only [List.getElem?_toArray, List.getElem?_cons_succ, List.getElem?_cons_zero, Option.some.injEq] at ho; subst ho; refine ⟨by rfl, fun w hSw => ?_⟩; try dsimp only at hSw
              go_simp; try with_reducible rfl
            try simp only [Act.put, List.setIfInBounds_toArray, List.set_cons_zero, List.set_cons_succ]
            refine wpAnyH_done (by kernel_rfl) ?_ _
            have TY := Aside0.mk (TX.out.below b5')
            have BY := Aside0.mk (BX.out.trans (b5'.mono BX.out.size))
            clear hHeld b1' b2' b3' b5' b1'' b2'' b5'' r1' r2' r5' hd dd yr TX BX
            go_wp2_with fail
            go_roundw
            case rel => exact ⟨k + 1, by omega, by go_num, ⟨p, qf, Af, cf, nn, r, qF, AF, cF, nF, lF, qL, AL, cL, nL, lL, true, rfl, rfl, TY.out, HL.out⟩, BY.out⟩
            case measure => simp [intOf]; omega
      by_cases hd : d = 1
      · have n0 : (d == 0) = false := by rw [hd]; rfl
        have n1 : (d == 1) = true := by rw [hd]; rfl
        have n2 : (d == 2) = false := by rw [hd]; rfl
        have n3 : (d == 3) = false := by rw [hd]; rfl
        have n4 : (d == 4) = false := by rw [hd]; rfl
        clear hd
        cases cr
        · as_aux_lemma =>
            go_wp2_with fail
            refine (flush_calls _ _ _ _ _ _ _ _ _ wr ST.out.f HB.out.size).mono ?_
            rintro e w3 ⟨rfl, hf3, hd3⟩
            have hg3 := ST.out.refDid hd3
            have hB3 := HB.out.trans hd3.below
            go_wp2_with fail
            refine (rflush_calls _ _ _ _ _ _ _ _ _ _ _ _ _ nn ST.out.n (by omega) w3 hg3 hB3.size).mono ?_
            rintro e w4 ⟨rfl, AF4, cF4, qF4, hg4, hd4, hq4⟩
            have hf4 := hf3.did hd4 ST.out.s1 (by simp) ST.out.s2 (by simp)
            obtain ⟨lM, hlM⟩ : ∃ lM, lF ++ lL = lM := ⟨_, rfl⟩
            rw [hlM] at hg4 hf4
            have TX := Aside0.mk (show St w4 W.heap.size p qf Af cf nn r qF4 AF4 cF4 nn lM none none 0 0 [] most false from
              ⟨by rw [List.append_nil]; exact hf4, hg4, by omega, ST.out.s1, ST.out.s2, fun e => by have := hq4 _ e; have := hf3.lt; omega, by simp, fun j hj => ⟨fun e => by have := hq4 _ e; have := (hf3.row.size j hj).2; omega, by simp⟩⟩)
            have BX := Aside0.mk (hB3.trans hd4.below)
            have HL := Aside0.mk (show nn ≤ 100 * (k + 1) by omega)
            clear hf3 hd3 hg3 hB3 hg4 hd4 hq4 hlM hf4 ST HB z0 z1 z2
            obtain ⟨-, yr, -, -⟩ := TX.out.g.cells
            go_upto_region 30 with fail
            refine wp_region_held_drew (S := fun w' => w'.cell? ⟨r, 1, none⟩ = some (.slice AF4 nn cF4)) (by kernel_rfl) ?_ (fun hHeld => ?_)
            · exact yr
            refine tk 0 (some 128) ?_ (by rfl) (by kernel_rfl) (fun _ _ _ h => h) ?_ hHeld ?_; rotate_left
            · intro o ho; simp only [List.getElem?_toArray, List.getElem?_cons_zero, Option.some.injEq] at ho; subst ho; refine ⟨by rfl, fun w hSw => ?_⟩; try dsimp only at hSw
              go_simp; try with_reducible rfl
            try simp only [Act.put, List.setIfInBounds_toArray, List.set_cons_zero, List.set_cons_succ]
            refine tk 1 (some 129) ?_ (by rfl) (by kernel_rfl) (fun _ _ _ h => h) ?_ hHeld ?_; rotate_left
            · intro o ho; simp only [List.getElem?_toArray, List.getElem?_cons_succ, List.getElem?_cons_zero, Option.some.injEq] at ho; subst ho; refine ⟨by rfl, fun w hSw => ?_⟩; try dsimp only at hSw
              go_simp; try with_reducible rfl
            try simp only [Act.put, List.setIfInBounds_toArray, List.set_cons_zero, List.set_cons_succ]
            refine tk 2 (some 130) ?_ (by rfl) (by kernel_rfl) (fun _ _ _ h => h) ?_ hHeld ?_; rotate_left
            · intro o ho; simp only [List.getElem?_toArray, List.getElem?_cons_succ, List.getElem?_cons_zero, Option.some.injEq] at ho; subst ho; refine ⟨by rfl, fun w hSw => ?_⟩; try dsimp only at hSw
              go_simp; try with_reducible rfl
            try simp only [Act.put, List.setIfInBounds_toArray, List.set_cons_zero, List.set_cons_succ]
            refine tk 3 (some 131) ?_ (by rfl) (by kernel_rfl) (fun _ _ _ h => h) ?_ hHeld ?_; rotate_left
            · intro o ho; simp only [List.getElem?_toArray, List.getElem?_cons_succ, List.getElem?_cons_zero, Option.some.injEq] at ho; subst ho; refine ⟨by rfl, fun w hSw => ?_⟩; try dsimp only at hSw
              go_simp; try with_reducible rfl
            try simp only [Act.put, List.setIfInBounds_toArray, List.set_cons_zero, List.set_cons_succ]
            refine tk 4 (some 132) ?_ (by rfl) (by kernel_rfl) (fun _ _ _ h => h) ?_ hHeld ?_; rotate_left
            · intro o ho; simp only [List.getElem?_toArray, List.getElem?_cons_succ, List.getElem?_cons_zero, Option.some.injEq] at ho; subst ho; refine ⟨by rfl, fun w hSw => ?_⟩; try dsimp only at hSw
              go_simp; try with_reducible rfl
            try simp only [Act.put, List.setIfInBounds_toArray, List.set_cons_zero, List.set_cons_succ]
            refine tk 5 (some 133) ?_ (by rfl) (by kernel_rfl) (fun _ _ _ h => h) ?_ hHeld ?_; rotate_left
            · intro o ho; simp only [List.getElem?_toArray, List.getElem?_cons_succ, List.getElem?_cons_zero, Option.some.injEq] at ho; subst ho; refine ⟨by rfl, fun w hSw => ?_⟩; try dsimp only at hSw
              go_simp; try with_reducible rfl
            try simp only [Act.put, List.setIfInBounds_toArray, List.set_cons_zero, List.set_cons_succ]
            refine tk 6 (some 134) ?_ (by rfl) (by kernel_rfl) (fun _ _ _ h => h) ?_ hHeld ?_; rotate_left
            · intro o ho; simp only [List.getElem?_toArray, List.getElem?_cons_succ, List.getElem?_cons_zero, Option.some.injEq] at ho; subst ho; refine ⟨by rfl, fun w hSw => ?_⟩; try dsimp only at hSw
              go_simp; try with_reducible rfl
            try simp only [Act.put, List.setIfInBounds_toArray, List.set_cons_zero, List.set_cons_succ]
            refine tk 7 (some 135) ?_ (by rfl) (by kernel_rfl) (fun _ _ _ h => h) ?_ hHeld ?_; rotate_left
            · intro o ho; simp only [List.getElem?_toArray, List.getElem?_cons_succ, List.getElem?_cons_zero, Option.some.injEq] at ho; subst ho; refine ⟨by rfl, fun w hSw => ?_⟩; try dsimp only at hSw
              go_simp; try with_reducible rfl
            try simp only [Act.put, List.setIfInBounds_toArray, List.set_cons_zero, List.set_cons_succ]
            refine tk 8 (some 136) ?_ (by rfl) (by kernel_rfl) (fun _ _ _ h => h) ?_ hHeld ?_; rotate_left
            · intro o ho; simp only [List.getElem?_toArray, List.getElem?_cons_succ, List.getElem?_cons_zero, Option.some.injEq] at ho; subst ho; refine ⟨by rfl, fun w hSw => ?_⟩; try dsimp only at hSw
              go_simp; try with_reducible rfl
            try simp only [Act.put, List.setIfInBounds_toArray, List.set_cons_zero, List.set_cons_succ]
            refine tk 10 (some 138) ?_ (by rfl) (by kernel_rfl) (fun _ _ _ h => h) ?_ hHeld ?_; rotate_left
            · intro o ho; simp only [List.getElem?_toArray, List.getElem?_cons_succ, List.getElem?_cons_zero, Option.some.injEq] at ho; subst ho; refine ⟨by rfl, fun w hSw => ?_⟩; try dsimp only at hSw
              go_simp; try with_reducible rfl
            try simp only [Act.put, List.setIfInBounds_toArray, List.set_cons_zero, List.set_cons_succ]
            refine oneH 9 (by kernel_rfl) (by rfl) (fun o ho K hK => ?_)
            simp only [List.getElem?_toArray, List.getElem?_cons_succ, List.getElem?_cons_zero, Option.some.injEq] at ho
            subst ho
            go_simp
            refine (bytes_calls _ _ _ _ (lM ++ []) TX.out.f.len (by have := HL.out; omega) _ (by exact TX.out.f.cells.1) (by exact TX.out.f.bs.drewN 1)).mono ?_
            rintro e x1 ⟨A1', c1', q1', rfl, r1', b1''⟩
            have b1' := nodrew b1''
            try go_wp2_with fail
            refine hK.out _ _ ?_ (fun hHeld2 => ?_)
            · exact cb b1' yr
            clear hK K hHeld
            rename _ => hHeld
            try simp only [Act.put, List.setIfInBounds_toArray, List.set_cons_zero, List.set_cons_succ]
            refine oneH 11 (by kernel_rfl) (by rfl) (fun o ho K hK => ?_)
            simp only [List.getElem?_toArray, List.getElem?_cons_succ, List.getElem?_cons_zero, Option.some.injEq] at ho
            subst ho
            go_simp
            refine (all_calls _ _ _ _ _ _ _ _ _ _ _ _ _ _ nn TX.out.n (by have := HL.out; omega) x1 (TX.out.g.below b1')).mono ?_
            rintro e x2 ⟨A2', c2', q2', rfl, r2', b2''⟩
            have b2' := below_step b1' b2''
            try go_wp2_with fail
            refine hK.out _ _ ?_ (fun hHeld2 => ?_)
            · exact cb b2' yr
            clear hK K hHeld
            rename _ => hHeld
            try simp only [Act.put, List.setIfInBounds_toArray, List.set_cons_zero, List.set_cons_succ]
            refine oneH 12 (by kernel_rfl) (by rfl) (fun o ho K hK => ?_)
            simp only [List.getElem?_toArray, List.getElem?_cons_succ, List.getElem?_cons_zero, Option.some.injEq] at ho
            subst ho
            go_simp
            refine (same_calls _ _ nn (lM ++ []) TX.out.f.len _ _ nn (lM ++ []) TX.out.f.len x2 (r1'.below b2'').bs r2'.bs).mono ?_
            rintro e x3 ⟨rfl, hd⟩
            have dd : decide ((lM ++ []) = (lM ++ [])) = true := by simp
            rw [dd]
            have b3' := below_step b2' (same_below hd)
            try go_wp2_with fail
            refine hK.out _ _ ?_ (fun hHeld2 => ?_)
            · exact cb b3' yr
            clear hK K hHeld
            rename _ => hHeld
            try simp only [Act.put, List.setIfInBounds_toArray, List.set_cons_zero, List.set_cons_succ]
            refine tk 13 (some 141) ?_ (by rfl) (by kernel_rfl) (fun _ _ _ h => h) ?_ hHeld ?_; rotate_left
            · intro o ho; simp only [List.getElem?_toArray, List.getElem?_cons_succ, List.getElem?_cons_zero, Option.some.injEq] at ho; subst ho; refine ⟨by rfl, fun w hSw => ?_⟩; try dsimp only at hSw
              go_simp; try with_reducible rfl
            try simp only [Act.put, List.setIfInBounds_toArray, List.set_cons_zero, List.set_cons_succ]
            refine tk 14 (some 142) ?_ (by rfl) (by kernel_rfl) (fun _ _ _ h => h) ?_ hHeld ?_; rotate_left
            · intro o ho; simp only [List.getElem?_toArray, List.getElem?_cons_succ, List.getElem?_cons_zero, Option.some.injEq] at ho; subst ho; refine ⟨by rfl, fun w hSw => ?_⟩; try dsimp only at hSw
              go_simp; try with_reducible rfl
            try simp only [Act.put, List.setIfInBounds_toArray, List.set_cons_zero, List.set_cons_succ]
            refine tk 15 (some 143) ?_ (by rfl) (by kernel_rfl) (fun _ _ _ h => h) ?_ hHeld ?_; rotate_left
            · intro o ho; simp only [List.getElem?_toArray, List.getElem?_cons_succ, List.getElem?_cons_zero, Option.some.injEq] at ho; subst ho; refine ⟨by rfl, fun w hSw => ?_⟩; try dsimp only at hSw
              go_simp; try with_reducible rfl
            try simp only [Act.put, List.setIfInBounds_toArray, List.set_cons_zero, List.set_cons_succ]
            refine tk 16 (some 144) ?_ (by rfl) (by kernel_rfl) (fun _ _ _ h => h) ?_ hHeld ?_; rotate_left
            · intro o ho; simp only [List.getElem?_toArray, List.getElem?_cons_succ, List.getElem?_cons_zero, Option.some.injEq] at ho; subst ho; refine ⟨by rfl, fun w hSw => ?_⟩; try dsimp only at hSw
              go_simp; try with_reducible rfl
            try simp only [Act.put, List.setIfInBounds_toArray, List.set_cons_zero, List.set_cons_succ]
            refine tk 18 (some 146) ?_ (by rfl) (by kernel_rfl) (fun _ _ _ h => h) ?_ hHeld ?_; rotate_left
            · intro o ho; simp only [List.getElem?_toArray, List.getElem?_cons_succ, List.getElem?_cons_zero, Option.some.injEq] at ho; subst ho; refine ⟨by rfl, fun w hSw => ?_⟩; try dsimp only at hSw
              go_simp; try with_reducible rfl
            try simp only [Act.put, List.setIfInBounds_toArray, List.set_cons_zero, List.set_cons_succ]
            refine oneH 17 (by kernel_rfl) (by rfl) (fun o ho K hK => ?_)
            simp only [List.getElem?_toArray, List.getElem?_cons_succ, List.getElem?_cons_zero, Option.some.injEq] at ho
            subst ho
            go_simp
            refine (len_calls _ _ _ _ x3 (TX.out.f.below b3').cells.1).mono ?_
            rintro e x4 ⟨rfl, rfl⟩
            try go_wp2_with fail
            refine hK.out _ _ ?_ (fun hHeld2 => ?_)
            · exact hHeld
            clear hK K hHeld
            rename _ => hHeld
            try simp only [Act.put, List.setIfInBounds_toArray, List.set_cons_zero, List.set_cons_succ]
            refine oneH 19 (by kernel_rfl) (by rfl) (fun o ho K hK => ?_)
            simp only [List.getElem?_toArray, List.getElem?_cons_succ, List.getElem?_cons_zero, Option.some.injEq] at ho
            subst ho
            go_simp
            refine (all_calls _ _ _ _ _ _ _ _ _ _ _ _ _ _ nn TX.out.n (by have := HL.out; omega) x3 (TX.out.g.below b3')).mono ?_
            rintro e x5 ⟨A5', c5', q5', rfl, r5', b5''⟩
            have b5' := below_step b3' b5''
            try go_wp2_with fail
            refine hK.out _ _ ?_ (fun hHeld2 => ?_)
            · exact cb b5' yr
            clear hK K hHeld
            rename _ => hHeld
            try simp only [Act.put, List.setIfInBounds_toArray, List.set_cons_zero, List.set_cons_succ]
            refine tk 20 (some 148) ?_ (by rfl) (by kernel_rfl) (fun _ _ _ h => h) ?_ hHeld ?_; rotate_left
            · intro o ho; simp only [List.getElem?_toArray, List.getElem?_cons_succ, List.getElem?_cons_zero, Option.some.injEq] at ho; subst ho; refine ⟨by rfl, fun w hSw => ?_⟩; try dsimp only at hSw
              go_simp; try with_reducible rfl
            try simp only [Act.put, List.setIfInBounds_toArray, List.set_cons_zero, List.set_cons_succ]
            refine tk 21 (some 149) ?_ (by rfl) (by kernel_rfl) (fun _ _ _ h => h) ?_ hHeld ?_; rotate_left
            · intro o ho; simp only [List.getElem?_toArray, List.getElem?_cons_succ, List.getElem?_cons_zero, Option.some.injEq] at ho; subst ho; refine ⟨by rfl, fun w hSw => ?_⟩; try dsimp only at hSw
              go_simp; try with_reducible rfl
            try simp only [Act.put, List.setIfInBounds_toArray, List.set_cons_zero, List.set_cons_succ]
            refine tk 22 (some 150) ?_ (by rfl) (by kernel_rfl) (fun _ _ _ h => h) ?_ hHeld ?_; rotate_left
            · intro o ho; simp only [List.getElem?_toArray, List.getElem?_cons_succ, List.getElem?_cons_zero, Option.some.injEq] at ho; subst ho; refine ⟨by rfl, fun w hSw => ?_⟩; try dsimp only at hSw
              go_simp; try with_reducible rfl
            try simp only [Act.put, List.setIfInBounds_toArray, List.set_cons_zero, List.set_cons_succ]
            refine tk 23 (some 151) ?_ (by rfl) (by kernel_rfl) (fun _ _ _ h => h) ?_ hHeld ?_; rotate_left
            · intro o ho; simp only [List.getElem?_toArray, List.getElem?_cons_succ, List.getElem?_cons_zero, Option.some.injEq] at ho; subst ho; refine ⟨by rfl, fun w hSw => ?_⟩; try dsimp only at hSw
              go_simp; try with_reducible rfl
            try simp only [Act.put, List.setIfInBounds_toArray, List.set_cons_zero, List.set_cons_succ]
            refine tk 24 (some 152) ?_ (by rfl) (by kernel_rfl) (fun _ _ _ h => h) ?_ hHeld ?_; rotate_left
            · intro o ho; simp only [List.getElem?_toArray, List.getElem?_cons_succ, List.getElem?_cons_zero, Option.some.injEq] at ho; subst ho; refine ⟨by rfl, fun w hSw => ?_⟩; try dsimp only at hSw
              go_simp; try with_reducible rfl
            try simp only [Act.put, List.setIfInBounds_toArray, List.set_cons_zero, List.set_cons_succ]
            refine tk 26 (some 154) ?_ (by rfl) (by kernel_rfl) (fun _ _ _ h => h) ?_ hHeld ?_; rotate_left
            · intro o ho; simp only [List.getElem?_toArray, List.getElem?_cons_succ, List.getElem?_cons_zero, Option.some.injEq] at ho; subst ho; refine ⟨by rfl, fun w hSw => ?_⟩; try dsimp only at hSw
              go_simp; try with_reducible rfl
            try simp only [Act.put, List.setIfInBounds_toArray, List.set_cons_zero, List.set_cons_succ]
            refine tk 27 (some 155) ?_ (by rfl) (by kernel_rfl) (fun _ _ _ h => h) ?_ hHeld ?_; rotate_left
            · intro o ho; simp only [List.getElem?_toArray, List.getElem?_cons_succ, List.getElem?_cons_zero, Option.some.injEq] at ho; subst ho; refine ⟨by rfl, fun w hSw => ?_⟩; try dsimp only at hSw
              go_simp; try with_reducible rfl
            try simp only [Act.put, List.setIfInBounds_toArray, List.set_cons_zero, List.set_cons_succ]
            refine tk 28 (some 156) ?_ (by rfl) (by kernel_rfl) (fun _ _ _ h => h) ?_ hHeld ?_; rotate_left
            · intro o ho; simp only [List.getElem?_toArray, List.getElem?_cons_succ, List.getElem?_cons_zero, Option.some.injEq] at ho; subst ho; refine ⟨by rfl, fun w hSw => ?_⟩; try dsimp only at hSw
              go_simp; try with_reducible rfl
            try simp only [Act.put, List.setIfInBounds_toArray, List.set_cons_zero, List.set_cons_succ]
            refine tk 29 (some 157) ?_ (by rfl) (by kernel_rfl) (fun _ _ _ h => h) ?_ hHeld ?_; rotate_left
            · intro o ho; simp only [List.getElem?_toArray, List.getElem?_cons_succ, List.getElem?_cons_zero, Option.some.injEq] at ho; subst ho; refine ⟨by rfl, fun w hSw => ?_⟩; try dsimp only at hSw
              go_simp; try with_reducible rfl
            try simp only [Act.put, List.setIfInBounds_toArray, List.set_cons_zero, List.set_cons_succ]
            refine tk 30 (some 158) ?_ (by rfl) (by kernel_rfl) (fun _ _ _ h => h) ?_ hHeld ?_; rotate_left
            · intro o ho; simp only [List.getElem?_toArray, List.getElem?_cons_succ, List.getElem?_cons_zero, Option.some.injEq] at ho; subst ho; refine ⟨by rfl, fun w hSw => ?_⟩; try dsimp only at hSw
              go_simp; try with_reducible rfl
            try simp only [Act.put, List.setIfInBounds_toArray, List.set_cons_zero, List.set_cons_succ]
            refine oneH 25 (by kernel_rfl) (by rfl) (fun o ho K hK => ?_)
            simp only [List.getElem?_toArray, List.getElem?_cons_succ, List.getElem?_cons_zero, Option.some.injEq] at ho
            subst ho
            go_simp
            refine (sure_calls _ _ x5 (TX.out.f.below b5').cells.2.1).mono ?_
            rintro e x6 ⟨rfl, rfl⟩
            try go_wp2_with fail
            refine hK.out _ _ ?_ (fun hHeld2 => ?_)
            · exact hHeld
            clear hK K hHeld
            rename _ => hHeld
            try simp only [Act.put, List.setIfInBounds_toArray, List.set_cons_zero, List.set_cons_succ]
            refine tk 31 (some 159) ?_ (by rfl) (by kernel_rfl) (fun _ _ _ h => h) ?_ hHeld ?_; rotate_left
            · intro o ho; simp only [List.getElem?_toArray, List.getElem?_cons_succ, List.getElem?_cons_zero, Option.some.injEq] at ho; subst ho; refine ⟨by rfl, fun w hSw => ?_⟩; try dsimp only at hSw
              go_simp; try with_reducible rfl
            try simp only [Act.put, List.setIfInBounds_toArray, List.set_cons_zero, List.set_cons_succ]
            refine tk 32 (some 160) ?_ (by rfl) (by kernel_rfl) (fun _ _ _ h => h) ?_ hHeld ?_; rotate_left
            · intro o ho; simp only [List.getElem?_toArray, List.getElem?_cons_succ, List.getElem?_cons_zero, Option.some.injEq] at ho; subst ho; refine ⟨by rfl, fun w hSw => ?_⟩; try dsimp only at hSw
              go_simp; try with_reducible rfl
            try simp only [Act.put, List.setIfInBounds_toArray, List.set_cons_zero, List.set_cons_succ]
            refine wpAnyH_done (by kernel_rfl) ?_ _
            have TY := Aside0.mk (TX.out.below b5')
            have BY := Aside0.mk (BX.out.trans (b5'.mono BX.out.size))
            clear hHeld b1' b2' b3' b5' b1'' b2'' b5'' r1' r2' r5' hd dd yr TX BX
            go_wp2_with fail
            go_roundw
            case rel => exact ⟨k + 1, by omega, by go_num, ⟨p, qf, Af, cf, nn, r, qF4, AF4, cF4, nn, lM, none, none, 0, 0, [], false, rfl, rfl, TY.out, HL.out⟩, BY.out⟩
            case measure => simp [intOf]; omega
        · as_aux_lemma =>
            go_wp2_with fail
            refine (flush_crashed _ _ _ _ _ _ _ _ _ wr ST.out.f).mono ?_
            rintro e x0 ⟨rfl, rfl⟩
            go_wp2_with fail
            refine (rflush_crashed _ _ _ _ _ _ _ _ _ _ _ _ _ wr ST.out.g).mono ?_
            rintro e x0 ⟨rfl, rfl⟩
            have TX := ST
            have BX := HB
            have HL := Aside0.mk (show nn ≤ 100 * (k + 1) by omega)
            clear ST HB z0 z1 z2
            obtain ⟨-, yr, -, -⟩ := TX.out.g.cells
            go_upto_region 30 with fail
            refine wp_region_held_drew (S := fun w' => w'.cell? ⟨r, 1, none⟩ = some (.slice AF nF cF)) (by kernel_rfl) ?_ (fun hHeld => ?_)
            · exact yr
            refine tk 0 (some 128) ?_ (by rfl) (by kernel_rfl) (fun _ _ _ h => h) ?_ hHeld ?_; rotate_left
            · intro o ho; simp only [List.getElem?_toArray, List.getElem?_cons_zero, Option.some.injEq] at ho; subst ho; refine ⟨by rfl, fun w hSw => ?_⟩; try dsimp only at hSw
              go_simp; try with_reducible rfl
            try simp only [Act.put, List.setIfInBounds_toArray, List.set_cons_zero, List.set_cons_succ]
            refine tk 1 (some 129) ?_ (by rfl) (by kernel_rfl) (fun _ _ _ h => h) ?_ hHeld ?_; rotate_left
            · intro o ho; simp only [List.getElem?_toArray, List.getElem?_cons_succ, List.getElem?_cons_zero, Option.some.injEq] at ho; subst ho; refine ⟨by rfl, fun w hSw => ?_⟩; try dsimp only at hSw
              go_simp; try with_reducible rfl
            try simp only [Act.put, List.setIfInBounds_toArray, List.set_cons_zero, List.set_cons_succ]
            refine tk 2 (some 130) ?_ (by rfl) (by kernel_rfl) (fun _ _ _ h => h) ?_ hHeld ?_; rotate_left
            · intro o ho; simp only [List.getElem?_toArray, List.getElem?_cons_succ, List.getElem?_cons_zero, Option.some.injEq] at ho; subst ho; refine ⟨by rfl, fun w hSw => ?_⟩; try dsimp only at hSw
              go_simp; try with_reducible rfl
            try simp only [Act.put, List.setIfInBounds_toArray, List.set_cons_zero, List.set_cons_succ]
            refine tk 3 (some 131) ?_ (by rfl) (by kernel_rfl) (fun _ _ _ h => h) ?_ hHeld ?_; rotate_left
            · intro o ho; simp only [List.getElem?_toArray, List.getElem?_cons_succ, List.getElem?_cons_zero, Option.some.injEq] at ho; subst ho; refine ⟨by rfl, fun w hSw => ?_⟩; try dsimp only at hSw
              go_simp; try with_reducible rfl
            try simp only [Act.put, List.setIfInBounds_toArray, List.set_cons_zero, List.set_cons_succ]
            refine tk 4 (some 132) ?_ (by rfl) (by kernel_rfl) (fun _ _ _ h => h) ?_ hHeld ?_; rotate_left
            · intro o ho; simp only [List.getElem?_toArray, List.getElem?_cons_succ, List.getElem?_cons_zero, Option.some.injEq] at ho; subst ho; refine ⟨by rfl, fun w hSw => ?_⟩; try dsimp only at hSw
              go_simp; try with_reducible rfl
            try simp only [Act.put, List.setIfInBounds_toArray, List.set_cons_zero, List.set_cons_succ]
            refine tk 5 (some 133) ?_ (by rfl) (by kernel_rfl) (fun _ _ _ h => h) ?_ hHeld ?_; rotate_left
            · intro o ho; simp only [List.getElem?_toArray, List.getElem?_cons_succ, List.getElem?_cons_zero, Option.some.injEq] at ho; subst ho; refine ⟨by rfl, fun w hSw => ?_⟩; try dsimp only at hSw
              go_simp; try with_reducible rfl
            try simp only [Act.put, List.setIfInBounds_toArray, List.set_cons_zero, List.set_cons_succ]
            refine tk 6 (some 134) ?_ (by rfl) (by kernel_rfl) (fun _ _ _ h => h) ?_ hHeld ?_; rotate_left
            · intro o ho; simp only [List.getElem?_toArray, List.getElem?_cons_succ, List.getElem?_cons_zero, Option.some.injEq] at ho; subst ho; refine ⟨by rfl, fun w hSw => ?_⟩; try dsimp only at hSw
              go_simp; try with_reducible rfl
            try simp only [Act.put, List.setIfInBounds_toArray, List.set_cons_zero, List.set_cons_succ]
            refine tk 7 (some 135) ?_ (by rfl) (by kernel_rfl) (fun _ _ _ h => h) ?_ hHeld ?_; rotate_left
            · intro o ho; simp only [List.getElem?_toArray, List.getElem?_cons_succ, List.getElem?_cons_zero, Option.some.injEq] at ho; subst ho; refine ⟨by rfl, fun w hSw => ?_⟩; try dsimp only at hSw
              go_simp; try with_reducible rfl
            try simp only [Act.put, List.setIfInBounds_toArray, List.set_cons_zero, List.set_cons_succ]
            refine tk 8 (some 136) ?_ (by rfl) (by kernel_rfl) (fun _ _ _ h => h) ?_ hHeld ?_; rotate_left
            · intro o ho; simp only [List.getElem?_toArray, List.getElem?_cons_succ, List.getElem?_cons_zero, Option.some.injEq] at ho; subst ho; refine ⟨by rfl, fun w hSw => ?_⟩; try dsimp only at hSw
              go_simp; try with_reducible rfl
            try simp only [Act.put, List.setIfInBounds_toArray, List.set_cons_zero, List.set_cons_succ]
            refine tk 10 (some 138) ?_ (by rfl) (by kernel_rfl) (fun _ _ _ h => h) ?_ hHeld ?_; rotate_left
            · intro o ho; simp only [List.getElem?_toArray, List.getElem?_cons_succ, List.getElem?_cons_zero, Option.some.injEq] at ho; subst ho; refine ⟨by rfl, fun w hSw => ?_⟩; try dsimp only at hSw
              go_simp; try with_reducible rfl
            try simp only [Act.put, List.setIfInBounds_toArray, List.set_cons_zero, List.set_cons_succ]
            refine oneH 9 (by kernel_rfl) (by rfl) (fun o ho K hK => ?_)
            simp only [List.getElem?_toArray, List.getElem?_cons_succ, List.getElem?_cons_zero, Option.some.injEq] at ho
            subst ho
            go_simp
            refine (bytes_calls _ _ _ _ (lF ++ lL) TX.out.f.len (by have := HL.out; omega) _ (by exact TX.out.f.cells.1) (by exact TX.out.f.bs.drewN 1)).mono ?_
            rintro e x1 ⟨A1', c1', q1', rfl, r1', b1''⟩
            have b1' := nodrew b1''
            try go_wp2_with fail
            refine hK.out _ _ ?_ (fun hHeld2 => ?_)
            · exact cb b1' yr
            clear hK K hHeld
            rename _ => hHeld
            try simp only [Act.put, List.setIfInBounds_toArray, List.set_cons_zero, List.set_cons_succ]
            refine oneH 11 (by kernel_rfl) (by rfl) (fun o ho K hK => ?_)
            simp only [List.getElem?_toArray, List.getElem?_cons_succ, List.getElem?_cons_zero, Option.some.injEq] at ho
            subst ho
            go_simp
            refine (all_calls _ _ _ _ _ _ _ _ _ _ _ _ _ _ nn TX.out.n (by have := HL.out; omega) x1 (TX.out.g.below b1')).mono ?_
            rintro e x2 ⟨A2', c2', q2', rfl, r2', b2''⟩
            have b2' := below_step b1' b2''
            try go_wp2_with fail
            refine hK.out _ _ ?_ (fun hHeld2 => ?_)
            · exact cb b2' yr
            clear hK K hHeld
            rename _ => hHeld
            try simp only [Act.put, List.setIfInBounds_toArray, List.set_cons_zero, List.set_cons_succ]
            refine oneH 12 (by kernel_rfl) (by rfl) (fun o ho K hK => ?_)
            simp only [List.getElem?_toArray, List.getElem?_cons_succ, List.getElem?_cons_zero, Option.some.injEq] at ho
            subst ho
            go_simp
            refine (same_calls _ _ nn (lF ++ lL) TX.out.f.len _ _ nn (lF ++ lL) TX.out.f.len x2 (r1'.below b2'').bs r2'.bs).mono ?_
            rintro e x3 ⟨rfl, hd⟩
            have dd : decide ((lF ++ lL) = (lF ++ lL)) = true := by simp
            rw [dd]
            have b3' := below_step b2' (same_below hd)
            try go_wp2_with fail
            refine hK.out _ _ ?_ (fun hHeld2 => ?_)
            · exact cb b3' yr
            clear hK K hHeld
            rename _ => hHeld
            try simp only [Act.put, List.setIfInBounds_toArray, List.set_cons_zero, List.set_cons_succ]
            refine tk 13 (some 141) ?_ (by rfl) (by kernel_rfl) (fun _ _ _ h => h) ?_ hHeld ?_; rotate_left
            · intro o ho; simp only [List.getElem?_toArray, List.getElem?_cons_succ, List.getElem?_cons_zero, Option.some.injEq] at ho; subst ho; refine ⟨by rfl, fun w hSw => ?_⟩; try dsimp only at hSw
              go_simp; try with_reducible rfl
            try simp only [Act.put, List.setIfInBounds_toArray, List.set_cons_zero, List.set_cons_succ]
            refine tk 14 (some 142) ?_ (by rfl) (by kernel_rfl) (fun _ _ _ h => h) ?_ hHeld ?_; rotate_left
            · intro o ho; simp only [List.getElem?_toArray, List.getElem?_cons_succ, List.getElem?_cons_zero, Option.some.injEq] at ho; subst ho; refine ⟨by rfl, fun w hSw => ?_⟩; try dsimp only at hSw
              go_simp; try with_reducible rfl
            try simp only [Act.put, List.setIfInBounds_toArray, List.set_cons_zero, List.set_cons_succ]
            refine tk 15 (some 143) ?_ (by rfl) (by kernel_rfl) (fun _ _ _ h => h) ?_ hHeld ?_; rotate_left
            · intro o ho; simp only [List.getElem?_toArray, List.getElem?_cons_succ, List.getElem?_cons_zero, Option.some.injEq] at ho; subst ho; refine ⟨by rfl, fun w hSw => ?_⟩; try dsimp only at hSw
              go_simp; try with_reducible rfl
            try simp only [Act.put, List.setIfInBounds_toArray, List.set_cons_zero, List.set_cons_succ]
            refine tk 16 (some 144) ?_ (by rfl) (by kernel_rfl) (fun _ _ _ h => h) ?_ hHeld ?_; rotate_left
            · intro o ho; simp only [List.getElem?_toArray, List.getElem?_cons_succ, List.getElem?_cons_zero, Option.some.injEq] at ho; subst ho; refine ⟨by rfl, fun w hSw => ?_⟩; try dsimp only at hSw
              go_simp; try with_reducible rfl
            try simp only [Act.put, List.setIfInBounds_toArray, List.set_cons_zero, List.set_cons_succ]
            refine tk 18 (some 146) ?_ (by rfl) (by kernel_rfl) (fun _ _ _ h => h) ?_ hHeld ?_; rotate_left
            · intro o ho; simp only [List.getElem?_toArray, List.getElem?_cons_succ, List.getElem?_cons_zero, Option.some.injEq] at ho; subst ho; refine ⟨by rfl, fun w hSw => ?_⟩; try dsimp only at hSw
              go_simp; try with_reducible rfl
            try simp only [Act.put, List.setIfInBounds_toArray, List.set_cons_zero, List.set_cons_succ]
            refine oneH 17 (by kernel_rfl) (by rfl) (fun o ho K hK => ?_)
            simp only [List.getElem?_toArray, List.getElem?_cons_succ, List.getElem?_cons_zero, Option.some.injEq] at ho
            subst ho
            go_simp
            refine (len_calls _ _ _ _ x3 (TX.out.f.below b3').cells.1).mono ?_
            rintro e x4 ⟨rfl, rfl⟩
            try go_wp2_with fail
            refine hK.out _ _ ?_ (fun hHeld2 => ?_)
            · exact hHeld
            clear hK K hHeld
            rename _ => hHeld
            try simp only [Act.put, List.setIfInBounds_toArray, List.set_cons_zero, List.set_cons_succ]
            refine oneH 19 (by kernel_rfl) (by rfl) (fun o ho K hK => ?_)
            simp only [List.getElem?_toArray, List.getElem?_cons_succ, List.getElem?_cons_zero, Option.some.injEq] at ho
            subst ho
            go_simp
            refine (all_calls _ _ _ _ _ _ _ _ _ _ _ _ _ _ nn TX.out.n (by have := HL.out; omega) x3 (TX.out.g.below b3')).mono ?_
            rintro e x5 ⟨A5', c5', q5', rfl, r5', b5''⟩
            have b5' := below_step b3' b5''
            try go_wp2_with fail
            refine hK.out _ _ ?_ (fun hHeld2 => ?_)
            · exact cb b5' yr
            clear hK K hHeld
            rename _ => hHeld
            try simp only [Act.put, List.setIfInBounds_toArray, List.set_cons_zero, List.set_cons_succ]
            refine tk 20 (some 148) ?_ (by rfl) (by kernel_rfl) (fun _ _ _ h => h) ?_ hHeld ?_; rotate_left
            · intro o ho; simp only [List.getElem?_toArray, List.getElem?_cons_succ, List.getElem?_cons_zero, Option.some.injEq] at ho; subst ho; refine ⟨by rfl, fun w hSw => ?_⟩; try dsimp only at hSw
              go_simp; try with_reducible rfl
            try simp only [Act.put, List.setIfInBounds_toArray, List.set_cons_zero, List.set_cons_succ]
            refine tk 21 (some 149) ?_ (by rfl) (by kernel_rfl) (fun _ _ _ h => h) ?_ hHeld ?_; rotate_left
            · intro o ho; simp only [List.getElem?_toArray, List.getElem?_cons_succ, List.getElem?_cons_zero, Option.some.injEq] at ho; subst ho; refine ⟨by rfl, fun w hSw => ?_⟩; try dsimp only at hSw
              go_simp; try with_reducible rfl
            try simp only [Act.put, List.setIfInBounds_toArray, List.set_cons_zero, List.set_cons_succ]
            refine tk 22 (some 150) ?_ (by rfl) (by kernel_rfl) (fun _ _ _ h => h) ?_ hHeld ?_; rotate_left
            · intro o ho; simp only [List.getElem?_toArray, List.getElem?_cons_succ, List.getElem?_cons_zero, Option.some.injEq] at ho; subst ho; refine ⟨by rfl, fun w hSw => ?_⟩; try dsimp only at hSw
              go_simp; try with_reducible rfl
            try simp only [Act.put, List.setIfInBounds_toArray, List.set_cons_zero, List.set_cons_succ]
            refine tk 23 (some 151) ?_ (by rfl) (by kernel_rfl) (fun _ _ _ h => h) ?_ hHeld ?_; rotate_left
            · intro o ho; simp only [List.getElem?_toArray, List.getElem?_cons_succ, List.getElem?_cons_zero, Option.some.injEq] at ho; subst ho; refine ⟨by rfl, fun w hSw => ?_⟩; try dsimp only at hSw
              go_simp; try with_reducible rfl
            try simp only [Act.put, List.setIfInBounds_toArray, List.set_cons_zero, List.set_cons_succ]
            refine tk 24 (some 152) ?_ (by rfl) (by kernel_rfl) (fun _ _ _ h => h) ?_ hHeld ?_; rotate_left
            · intro o ho; simp only [List.getElem?_toArray, List.getElem?_cons_succ, List.getElem?_cons_zero, Option.some.injEq] at ho; subst ho; refine ⟨by rfl, fun w hSw => ?_⟩; try dsimp only at hSw
              go_simp; try with_reducible rfl
            try simp only [Act.put, List.setIfInBounds_toArray, List.set_cons_zero, List.set_cons_succ]
            refine tk 26 (some 154) ?_ (by rfl) (by kernel_rfl) (fun _ _ _ h => h) ?_ hHeld ?_; rotate_left
            · intro o ho; simp only [List.getElem?_toArray, List.getElem?_cons_succ, List.getElem?_cons_zero, Option.some.injEq] at ho; subst ho; refine ⟨by rfl, fun w hSw => ?_⟩; try dsimp only at hSw
              go_simp; try with_reducible rfl
            try simp only [Act.put, List.setIfInBounds_toArray, List.set_cons_zero, List.set_cons_succ]
            refine tk 27 (some 155) ?_ (by rfl) (by kernel_rfl) (fun _ _ _ h => h) ?_ hHeld ?_; rotate_left
            · intro o ho; simp only [List.getElem?_toArray, List.getElem?_cons_succ, List.getElem?_cons_zero, Option.some.injEq] at ho; subst ho; refine ⟨by rfl, fun w hSw => ?_⟩; try dsimp only at hSw
              go_simp; try with_reducible rfl
            try simp only [Act.put, List.setIfInBounds_toArray, List.set_cons_zero, List.set_cons_succ]
            refine tk 28 (some 156) ?_ (by rfl) (by kernel_rfl) (fun _ _ _ h => h) ?_ hHeld ?_; rotate_left
            · intro o ho; simp only [List.getElem?_toArray, List.getElem?_cons_succ, List.getElem?_cons_zero, Option.some.injEq] at ho; subst ho; refine ⟨by rfl, fun w hSw => ?_⟩; try dsimp only at hSw
              go_simp; try with_reducible rfl
            try simp only [Act.put, List.setIfInBounds_toArray, List.set_cons_zero, List.set_cons_succ]
            refine tk 29 (some 157) ?_ (by rfl) (by kernel_rfl) (fun _ _ _ h => h) ?_ hHeld ?_; rotate_left
            · intro o ho; simp only [List.getElem?_toArray, List.getElem?_cons_succ, List.getElem?_cons_zero, Option.some.injEq] at ho; subst ho; refine ⟨by rfl, fun w hSw => ?_⟩; try dsimp only at hSw
              go_simp; try with_reducible rfl
            try simp only [Act.put, List.setIfInBounds_toArray, List.set_cons_zero, List.set_cons_succ]
            refine tk 30 (some 158) ?_ (by rfl) (by kernel_rfl) (fun _ _ _ h => h) ?_ hHeld ?_; rotate_left
            · intro o ho; simp only [List.getElem?_toArray, List.getElem?_cons_succ, List.getElem?_cons_zero, Option.some.injEq] at ho; subst ho; refine ⟨by rfl, fun w hSw => ?_⟩; try dsimp only at hSw
              go_simp; try with_reducible rfl
            try simp only [Act.put, List.setIfInBounds_toArray, List.set_cons_zero, List.set_cons_succ]
            refine oneH 25 (by kernel_rfl) (by rfl) (fun o ho K hK => ?_)
            simp only [List.getElem?_toArray, List.getElem?_cons_succ, List.getElem?_cons_zero, Option.some.injEq] at ho
            subst ho
            go_simp
            refine (sure_calls _ _ x5 (TX.out.f.below b5').cells.2.1).mono ?_
            rintro e x6 ⟨rfl, rfl⟩
            try go_wp2_with fail
            refine hK.out _ _ ?_ (fun hHeld2 => ?_)
            · exact hHeld
            clear hK K hHeld
            rename _ => hHeld
            try simp only [Act.put, List.setIfInBounds_toArray, List.set_cons_zero, List.set_cons_succ]
            refine tk 31 (some 159) ?_ (by rfl) (by kernel_rfl) (fun _ _ _ h => h) ?_ hHeld ?_; rotate_left
            · intro o ho; simp only [List.getElem?_toArray, List.getElem?_cons_succ, List.getElem?_cons_zero, Option.some.injEq] at ho; subst ho; refine ⟨by rfl, fun w hSw => ?_⟩; try dsimp only at hSw
              go_simp; try with_reducible rfl
            try simp only [Act.put, List.setIfInBounds_toArray, List.set_cons_zero, List.set_cons_succ]
            refine tk 32 (some 160) ?_ (by rfl) (by kernel_rfl) (fun _ _ _ h => h) ?_ hHeld ?_; rotate_left
            · intro o ho; simp only [List.getElem?_toArray, List.getElem?_cons_succ, List.getElem?_cons_zero, Option.some.injEq] at ho; subst ho; refine ⟨by rfl, fun w hSw => ?_⟩; try dsimp only at hSw
              go_simp; try with_reducible rfl
            try simp only [Act.put, List.setIfInBounds_toArray, List.set_cons_zero, List.set_cons_succ]
            refine wpAnyH_done (by kernel_rfl) ?_ _
            have TY := Aside0.mk (TX.out.below b5')
            have BY := Aside0.mk (BX.out.trans (b5'.mono BX.out.size))
            clear hHeld b1' b2' b3' b5' b1'' b2'' b5'' r1' r2' r5' hd dd yr TX BX
            go_wp2_with fail
            go_roundw
            case rel => exact ⟨k + 1, by omega, by go_num, ⟨p, qf, Af, cf, nn, r, qF, AF, cF, nF, lF, qL, AL, cL, nL, lL, true, rfl, rfl, TY.out, HL.out⟩, BY.out⟩
            case measure => simp [intOf]; omega
      by_cases hd : d = 2
      · have n0 : (d == 0) = false := by rw [hd]; rfl
        have n1 : (d == 1) = false := by rw [hd]; rfl
        have n2 : (d == 2) = true := by rw [hd]; rfl
        have n3 : (d == 3) = false := by rw [hd]; rfl
        have n4 : (d == 4) = false := by rw [hd]; rfl
        clear hd
        cases cr
        · by_cases cj : j < 0 ∨ (nn : Int) < j
          · as_aux_lemma =>
              go_wp2_with fail
              refine (cut_range _ _ _ _ _ _ _ _ _ _ wr ST.out.f cj).mono ?_
              rintro e x0 ⟨rfl, rfl⟩
              go_wp2_with fail
              refine (rcut_range _ _ _ _ _ _ _ _ _ _ _ _ _ nn ST.out.n (by omega) _ wr ST.out.g cj).mono ?_
              rintro e w4 ⟨rfl, b4⟩
              have TX := Aside0.mk (ST.out.below b4)
              have BX := Aside0.mk (HB.out.trans (b4.mono HB.out.size))
              have HL := Aside0.mk (show nn ≤ 100 * (k + 1) by omega)
              clear b4 ST HB z0 z1 z2
              obtain ⟨-, yr, -, -⟩ := TX.out.g.cells
              go_upto_region 30 with fail
              refine wp_region_held_drew (S := fun w' => w'.cell? ⟨r, 1, none⟩ = some (.slice AF nF cF)) (by kernel_rfl) ?_ (fun hHeld => ?_)
              · exact yr
              refine tk 0 (some 128) ?_ (by rfl) (by kernel_rfl) (fun _ _ _ h => h) ?_ hHeld ?_; rotate_left
              · intro o ho; simp only [List.getElem?_toArray, List.getElem?_cons_zero, Option.some.injEq] at ho; subst ho; refine ⟨by rfl, fun w hSw => ?_⟩; try dsimp only at hSw
                go_simp; try with_reducible rfl
              try simp only [Act.put, List.setIfInBounds_toArray, List.set_cons_zero, List.set_cons_succ]
              refine tk 1 (some 129) ?_ (by rfl) (by kernel_rfl) (fun _ _ _ h => h) ?_ hHeld ?_; rotate_left
              · intro o ho; simp only [List.getElem?_toArray, List.getElem?_cons_succ, List.getElem?_cons_zero, Option.some.injEq] at ho; subst ho; refine ⟨by rfl, fun w hSw => ?_⟩; try dsimp only at hSw
                go_simp; try with_reducible rfl
              try simp only [Act.put, List.setIfInBounds_toArray, List.set_cons_zero, List.set_cons_succ]
              refine tk 2 (some 130) ?_ (by rfl) (by kernel_rfl) (fun _ _ _ h => h) ?_ hHeld ?_; rotate_left
              · intro o ho; simp only [List.getElem?_toArray, List.getElem?_cons_succ, List.getElem?_cons_zero, Option.some.injEq] at ho; subst ho; refine ⟨by rfl, fun w hSw => ?_⟩; try dsimp only at hSw
                go_simp; try with_reducible rfl
              try simp only [Act.put, List.setIfInBounds_toArray, List.set_cons_zero, List.set_cons_succ]
              refine tk 3 (some 131) ?_ (by rfl) (by kernel_rfl) (fun _ _ _ h => h) ?_ hHeld ?_; rotate_left
              · intro o ho; simp only [List.getElem?_toArray, List.getElem?_cons_succ, List.getElem?_cons_zero, Option.some.injEq] at ho; subst ho; refine ⟨by rfl, fun w hSw => ?_⟩; try dsimp only at hSw
                go_simp; try with_reducible rfl
              try simp only [Act.put, List.setIfInBounds_toArray, List.set_cons_zero, List.set_cons_succ]
              refine tk 4 (some 132) ?_ (by rfl) (by kernel_rfl) (fun _ _ _ h => h) ?_ hHeld ?_; rotate_left
              · intro o ho; simp only [List.getElem?_toArray, List.getElem?_cons_succ, List.getElem?_cons_zero, Option.some.injEq] at ho; subst ho; refine ⟨by rfl, fun w hSw => ?_⟩; try dsimp only at hSw
                go_simp; try with_reducible rfl
              try simp only [Act.put, List.setIfInBounds_toArray, List.set_cons_zero, List.set_cons_succ]
              refine tk 5 (some 133) ?_ (by rfl) (by kernel_rfl) (fun _ _ _ h => h) ?_ hHeld ?_; rotate_left
              · intro o ho; simp only [List.getElem?_toArray, List.getElem?_cons_succ, List.getElem?_cons_zero, Option.some.injEq] at ho; subst ho; refine ⟨by rfl, fun w hSw => ?_⟩; try dsimp only at hSw
                go_simp; try with_reducible rfl
              try simp only [Act.put, List.setIfInBounds_toArray, List.set_cons_zero, List.set_cons_succ]
              refine tk 6 (some 134) ?_ (by rfl) (by kernel_rfl) (fun _ _ _ h => h) ?_ hHeld ?_; rotate_left
              · intro o ho; simp only [List.getElem?_toArray, List.getElem?_cons_succ, List.getElem?_cons_zero, Option.some.injEq] at ho; subst ho; refine ⟨by rfl, fun w hSw => ?_⟩; try dsimp only at hSw
                go_simp; try with_reducible rfl
              try simp only [Act.put, List.setIfInBounds_toArray, List.set_cons_zero, List.set_cons_succ]
              refine tk 7 (some 135) ?_ (by rfl) (by kernel_rfl) (fun _ _ _ h => h) ?_ hHeld ?_; rotate_left
              · intro o ho; simp only [List.getElem?_toArray, List.getElem?_cons_succ, List.getElem?_cons_zero, Option.some.injEq] at ho; subst ho; refine ⟨by rfl, fun w hSw => ?_⟩; try dsimp only at hSw
                go_simp; try with_reducible rfl
              try simp only [Act.put, List.setIfInBounds_toArray, List.set_cons_zero, List.set_cons_succ]
              refine tk 8 (some 136) ?_ (by rfl) (by kernel_rfl) (fun _ _ _ h => h) ?_ hHeld ?_; rotate_left
              · intro o ho; simp only [List.getElem?_toArray, List.getElem?_cons_succ, List.getElem?_cons_zero, Option.some.injEq] at ho; subst ho; refine ⟨by rfl, fun w hSw => ?_⟩; try dsimp only at hSw
                go_simp; try with_reducible rfl
              try simp only [Act.put, List.setIfInBounds_toArray, List.set_cons_zero, List.set_cons_succ]
              refine tk 10 (some 138) ?_ (by rfl) (by kernel_rfl) (fun _ _ _ h => h) ?_ hHeld ?_; rotate_left
              · intro o ho; simp only [List.getElem?_toArray, List.getElem?_cons_succ, List.getElem?_cons_zero, Option.some.injEq] at ho; subst ho; refine ⟨by rfl, fun w hSw => ?_⟩; try dsimp only at hSw
                go_simp; try with_reducible rfl
              try simp only [Act.put, List.setIfInBounds_toArray, List.set_cons_zero, List.set_cons_succ]
              refine oneH 9 (by kernel_rfl) (by rfl) (fun o ho K hK => ?_)
              simp only [List.getElem?_toArray, List.getElem?_cons_succ, List.getElem?_cons_zero, Option.some.injEq] at ho
              subst ho
              go_simp
              refine (bytes_calls _ _ _ _ (lF ++ lL) TX.out.f.len (by have := HL.out; omega) _ (by exact TX.out.f.cells.1) (by exact TX.out.f.bs.drewN 1)).mono ?_
              rintro e x1 ⟨A1', c1', q1', rfl, r1', b1''⟩
              have b1' := nodrew b1''
              try go_wp2_with fail
              refine hK.out _ _ ?_ (fun hHeld2 => ?_)
              · exact cb b1' yr
              clear hK K hHeld
              rename _ => hHeld
              try simp only [Act.put, List.setIfInBounds_toArray, List.set_cons_zero, List.set_cons_succ]
              refine oneH 11 (by kernel_rfl) (by rfl) (fun o ho K hK => ?_)
              simp only [List.getElem?_toArray, List.getElem?_cons_succ, List.getElem?_cons_zero, Option.some.injEq] at ho
              subst ho
              go_simp
              refine (all_calls _ _ _ _ _ _ _ _ _ _ _ _ _ _ nn TX.out.n (by have := HL.out; omega) x1 (TX.out.g.below b1')).mono ?_
              rintro e x2 ⟨A2', c2', q2', rfl, r2', b2''⟩
              have b2' := below_step b1' b2''
              try go_wp2_with fail
              refine hK.out _ _ ?_ (fun hHeld2 => ?_)
              · exact cb b2' yr
              clear hK K hHeld
              rename _ => hHeld
              try simp only [Act.put, List.setIfInBounds_toArray, List.set_cons_zero, List.set_cons_succ]
              refine oneH 12 (by kernel_rfl) (by rfl) (fun o ho K hK => ?_)
              simp only [List.getElem?_toArray, List.getElem?_cons_succ, List.getElem?_cons_zero, Option.some.injEq] at ho
              subst ho
              go_simp
              refine (same_calls _ _ nn (lF ++ lL) TX.out.f.len _ _ nn (lF ++ lL) TX.out.f.len x2 (r1'.below b2'').bs r2'.bs).mono ?_
              rintro e x3 ⟨rfl, hd⟩
              have dd : decide ((lF ++ lL) = (lF ++ lL)) = true := by simp
              rw [dd]
              have b3' := below_step b2' (same_below hd)
              try go_wp2_with fail
              refine hK.out _ _ ?_ (fun hHeld2 => ?_)
              · exact cb b3' yr
              clear hK K hHeld
              rename _ => hHeld
              try simp only [Act.put, List.setIfInBounds_toArray, List.set_cons_zero, List.set_cons_succ]
              refine tk 13 (some 141) ?_ (by rfl) (by kernel_rfl) (fun _ _ _ h => h) ?_ hHeld ?_; rotate_left
              · intro o ho; simp only [List.getElem?_toArray, List.getElem?_cons_succ, List.getElem?_cons_zero, Option.some.injEq] at ho; subst ho; refine ⟨by rfl, fun w hSw => ?_⟩; try dsimp only at hSw
                go_simp; try with_reducible rfl
              try simp only [Act.put, List.setIfInBounds_toArray, List.set_cons_zero, List.set_cons_succ]
              refine tk 14 (some 142) ?_ (by rfl) (by kernel_rfl) (fun _ _ _ h => h) ?_ hHeld ?_; rotate_left
              · intro o ho; simp only [List.getElem?_toArray, List.getElem?_cons_succ, List.getElem?_cons_zero, Option.some.injEq] at ho; subst ho; refine ⟨by rfl, fun w hSw => ?_⟩; try dsimp only at hSw
                go_simp; try with_reducible rfl
              try simp only [Act.put, List.setIfInBounds_toArray, List.set_cons_zero, List.set_cons_succ]
              refine tk 15 (some 143) ?_ (by rfl) (by kernel_rfl) (fun _ _ _ h => h) ?_ hHeld ?_; rotate_left
              · intro o ho; simp only [List.getElem?_toArray, List.getElem?_cons_succ, List.getElem?_cons_zero, Option.some.injEq] at ho; subst ho; refine ⟨by rfl, fun w hSw => ?_⟩; try dsimp only at hSw
                go_simp; try with_reducible rfl
              try simp only [Act.put, List.setIfInBounds_toArray, List.set_cons_zero, List.set_cons_succ]
              refine tk 16 (some 144) ?_ (by rfl) (by kernel_rfl) (fun _ _ _ h => h) ?_ hHeld ?_; rotate_left
              · intro o ho; simp only [List.getElem?_toArray, List.getElem?_cons_succ, List.getElem?_cons_zero, Option.some.injEq] at ho; subst ho; refine ⟨by rfl, fun w hSw => ?_⟩; try dsimp only at hSw
                go_simp; try with_reducible rfl
              try simp only [Act.put, List.setIfInBounds_toArray, List.set_cons_zero, List.set_cons_succ]
              refine tk 18 (some 146) ?_ (by rfl) (by kernel_rfl) (fun _ _ _ h => h) ?_ hHeld ?_; rotate_left
              · intro o ho; simp only [List.getElem?_toArray, List.getElem?_cons_succ, List.getElem?_cons_zero, Option.some.injEq] at ho; subst ho; refine ⟨by rfl, fun w hSw => ?_⟩; try dsimp only at hSw
                go_simp; try with_reducible rfl
              try simp only [Act.put, List.setIfInBounds_toArray, List.set_cons_zero, List.set_cons_succ]
              refine oneH 17 (by kernel_rfl) (by rfl) (fun o ho K hK => ?_)
              simp only [List.getElem?_toArray, List.getElem?_cons_succ, List.getElem?_cons_zero, Option.some.injEq] at ho
              subst ho
              go_simp
              refine (len_calls _ _ _ _ x3 (TX.out.f.below b3').cells.1).mono ?_
              rintro e x4 ⟨rfl, rfl⟩
              try go_wp2_with fail
              refine hK.out _ _ ?_ (fun hHeld2 => ?_)
              · exact hHeld
              clear hK K hHeld
              rename _ => hHeld
              try simp only [Act.put, List.setIfInBounds_toArray, List.set_cons_zero, List.set_cons_succ]
              refine oneH 19 (by kernel_rfl) (by rfl) (fun o ho K hK => ?_)
              simp only [List.getElem?_toArray, List.getElem?_cons_succ, List.getElem?_cons_zero, Option.some.injEq] at ho
              subst ho
              go_simp
              refine (all_calls _ _ _ _ _ _ _ _ _ _ _ _ _ _ nn TX.out.n (by have := HL.out; omega) x3 (TX.out.g.below b3')).mono ?_
              rintro e x5 ⟨A5', c5', q5', rfl, r5', b5''⟩
              have b5' := below_step b3' b5''
              try go_wp2_with fail
              refine hK.out _ _ ?_ (fun hHeld2 => ?_)
              · exact cb b5' yr
              clear hK K hHeld
              rename _ => hHeld
              try simp only [Act.put, List.setIfInBounds_toArray, List.set_cons_zero, List.set_cons_succ]
              refine tk 20 (some 148) ?_ (by rfl) (by kernel_rfl) (fun _ _ _ h => h) ?_ hHeld ?_; rotate_left
              · intro o ho; simp only [List.getElem?_toArray, List.getElem?_cons_succ, List.getElem?_cons_zero, Option.some.injEq] at ho; subst ho; refine ⟨by rfl, fun w hSw => ?_⟩; try dsimp only at hSw
                go_simp; try with_reducible rfl
              try simp only [Act.put, List.setIfInBounds_toArray, List.set_cons_zero, List.set_cons_succ]
              refine tk 21 (some 149) ?_ (by rfl) (by kernel_rfl) (fun _ _ _ h => h) ?_ hHeld ?_; rotate_left
              · intro o ho; simp only [List.getElem?_toArray, List.getElem?_cons_succ, List.getElem?_cons_zero, Option.some.injEq] at ho; subst ho; refine ⟨by rfl, fun w hSw => ?_⟩; try dsimp only at hSw
                go_simp; try with_reducible rfl
              try simp only [Act.put, List.setIfInBounds_toArray, List.set_cons_zero, List.set_cons_succ]
              refine tk 22 (some 150) ?_ (by rfl) (by kernel_rfl) (fun _ _ _ h => h) ?_ hHeld ?_; rotate_left
              · intro o ho; simp only [List.getElem?_toArray, List.getElem?_cons_succ, List.getElem?_cons_zero, Option.some.injEq] at ho; subst ho; refine ⟨by rfl, fun w hSw => ?_⟩; try dsimp only at hSw
                go_simp; try with_reducible rfl
              try simp only [Act.put, List.setIfInBounds_toArray, List.set_cons_zero, List.set_cons_succ]
              refine tk 23 (some 151) ?_ (by rfl) (by kernel_rfl) (fun _ _ _ h => h) ?_ hHeld ?_; rotate_left
              · intro o ho; simp only [List.getElem?_toArray, List.getElem?_cons_succ, List.getElem?_cons_zero, Option.some.injEq] at ho; subst ho; refine ⟨by rfl, fun w hSw => ?_⟩; try dsimp only at hSw
                go_simp; try with_reducible rfl
              try simp only [Act.put, List.setIfInBounds_toArray, List.set_cons_zero, List.set_cons_succ]
              refine tk 24 (some 152) ?_ (by rfl) (by kernel_rfl) (fun _ _ _ h => h) ?_ hHeld ?_; rotate_left
              · intro o ho; simp only [List.getElem?_toArray, List.getElem?_cons_succ, List.getElem?_cons_zero, Option.some.injEq] at ho; subst ho; refine ⟨by rfl, fun w hSw => ?_⟩; try dsimp only at hSw
                go_simp; try with_reducible rfl
              try simp only [Act.put, List.setIfInBounds_toArray, List.set_cons_zero, List.set_cons_succ]
              refine tk 26 (some 154) ?_ (by rfl) (by kernel_rfl) (fun _ _ _ h => h) ?_ hHeld ?_; rotate_left
              · intro o ho; simp only [List.getElem?_toArray, List.getElem?_cons_succ, List.getElem?_cons_zero, Option.some.injEq] at ho; subst ho; refine ⟨by rfl, fun w hSw => ?_⟩; try dsimp only at hSw
                go_simp; try with_reducible rfl
              try simp only [Act.put, List.setIfInBounds_toArray, List.set_cons_zero, List.set_cons_succ]
              refine tk 27 (some 155) ?_ (by rfl) (by kernel_rfl) (fun _ _ _ h => h) ?_ hHeld ?_; rotate_left
              · intro o ho; simp only [List.getElem?_toArray, List.getElem?_cons_succ, List.getElem?_cons_zero, Option.some.injEq] at ho; subst ho; refine ⟨by rfl, fun w hSw => ?_⟩; try dsimp only at hSw
                go_simp; try with_reducible rfl
              try simp only [Act.put, List.setIfInBounds_toArray, List.set_cons_zero, List.set_cons_succ]
              refine tk 28 (some 156) ?_ (by rfl) (by kernel_rfl) (fun _ _ _ h => h) ?_ hHeld ?_; rotate_left
              · intro o ho; simp only [List.getElem?_toArray, List.getElem?_cons_succ, List.getElem?_cons_zero, Option.some.injEq] at ho; subst ho; refine ⟨by rfl, fun w hSw => ?_⟩; try dsimp only at hSw
                go_simp; try with_reducible rfl
              try simp only [Act.put, List.setIfInBounds_toArray, List.set_cons_zero, List.set_cons_succ]
              refine tk 29 (some 157) ?_ (by rfl) (by kernel_rfl) (fun _ _ _ h => h) ?_ hHeld ?_; rotate_left
              · intro o ho; simp only [List.getElem?_toArray, List.getElem?_cons_succ, List.getElem?_cons_zero, Option.some.injEq] at ho; subst ho; refine ⟨by rfl, fun w hSw => ?_⟩; try dsimp only at hSw
                go_simp; try with_reducible rfl
              try simp only [Act.put, List.setIfInBounds_toArray, List.set_cons_zero, List.set_cons_succ]
              refine tk 30 (some 158) ?_ (by rfl) (by kernel_rfl) (fun _ _ _ h => h) ?_ hHeld ?_; rotate_left
              · intro o ho; simp only [List.getElem?_toArray, List.getElem?_cons_succ, List.getElem?_cons_zero, Option.some.injEq] at ho; subst ho; refine ⟨by rfl, fun w hSw => ?_⟩; try dsimp only at hSw
                go_simp; try with_reducible rfl
              try simp only [Act.put, List.setIfInBounds_toArray, List.set_cons_zero, List.set_cons_succ]
              refine oneH 25 (by kernel_rfl) (by rfl) (fun o ho K hK => ?_)
              simp only [List.getElem?_toArray, List.getElem?_cons_succ, List.getElem?_cons_zero, Option.some.injEq] at ho
              subst ho
              go_simp
              refine (sure_calls _ _ x5 (TX.out.f.below b5').cells.2.1).mono ?_
              rintro e x6 ⟨rfl, rfl⟩
              try go_wp2_with fail
              refine hK.out _ _ ?_ (fun hHeld2 => ?_)
              · exact hHeld
              clear hK K hHeld
              rename _ => hHeld
              try simp only [Act.put, List.setIfInBounds_toArray, List.set_cons_zero, List.set_cons_succ]
              refine tk 31 (some 159) ?_ (by rfl) (by kernel_rfl) (fun _ _ _ h => h) ?_ hHeld ?_; rotate_left
              · intro o ho; simp only [List.getElem?_toArray, List.getElem?_cons_succ, List.getElem?_cons_zero, Option.some.injEq] at ho; subst ho; refine ⟨by rfl, fun w hSw => ?_⟩; try dsimp only at hSw
                go_simp; try with_reducible rfl
              try simp only [Act.put, List.setIfInBounds_toArray, List.set_cons_zero, List.set_cons_succ]
              refine tk 32 (some 160) ?_ (by rfl) (by kernel_rfl) (fun _ _ _ h => h) ?_ hHeld ?_; rotate_left
              · intro o ho; simp only [List.getElem?_toArray, List.getElem?_cons_succ, List.getElem?_cons_zero, Option.some.injEq] at ho; subst ho; refine ⟨by rfl, fun w hSw => ?_⟩; try dsimp only at hSw
                go_simp; try with_reducible rfl
              try simp only [Act.put, List.setIfInBounds_toArray, List.set_cons_zero, List.set_cons_succ]
              refine wpAnyH_done (by kernel_rfl) ?_ _
              have TY := Aside0.mk (TX.out.below b5')
              have BY := Aside0.mk (BX.out.trans (b5'.mono BX.out.size))
              clear hHeld b1' b2' b3' b5' b1'' b2'' b5'' r1' r2' r5' hd dd yr TX BX
              go_wp2_with fail
              go_roundw
              case rel => exact ⟨k + 1, by omega, by go_num, ⟨p, qf, Af, cf, nn, r, qF, AF, cF, nF, lF, qL, AL, cL, nL, lL, false, rfl, rfl, TY.out, HL.out⟩, BY.out⟩
              case measure => simp [intOf]; omega
          · as_aux_lemma =>
              obtain ⟨i, rfl⟩ : ∃ i : Nat, j = (i : Int) := ⟨j.toNat, by omega⟩
              have hi : i ≤ nn := by omega
              go_wp2_with fail
              refine (cut_calls _ _ _ _ _ _ _ _ _ i wr ST.out.f hi HB.out.size).mono ?_
              rintro e w3 ⟨rfl, hf3, hd3⟩
              have hg3 := ST.out.refDid hd3
              have hB3 := HB.out.trans hd3.below
              have z1' := pw_cell_below hB3 V1.out
              go_wp2_with fail
              refine (rcut_calls _ _ _ _ _ _ _ _ _ _ _ _ _ nn ST.out.n (by omega) i hi w3 hg3 hB3.size).mono ?_
              rintro e w4 ⟨rfl, qF4, AF4, cF4, K, qL4, AL4, cL4, hK, hg4, hd4, hqF, hqL⟩
              have hf4 := hf3.did hd4 ST.out.s1 (by simp) ST.out.s2 (by simp)
              rw [← hK] at hf4
              obtain ⟨mL, hmL⟩ : ∃ mL, i - K = mL := ⟨_, rfl⟩
              have hll : (lF ++ lL).take K ++ ((lF ++ lL).take i).drop K = (lF ++ lL).take i := by
                have e : (lF ++ lL).take K = ((lF ++ lL).take i).take K := by rw [List.take_take, Nat.min_eq_left (by omega)]
                rw [e, List.take_append_drop]
              obtain ⟨l1, hl1⟩ : ∃ l1, (lF ++ lL).take K = l1 := ⟨_, rfl⟩
              obtain ⟨l2, hl2⟩ : ∃ l2, ((lF ++ lL).take i).drop K = l2 := ⟨_, rfl⟩
              rw [hmL, hl1, hl2] at hg4
              rw [← hll, hl1, hl2] at hf4
              have TX := Aside0.mk (show St w4 W.heap.size p qf Af i i r qF4 AF4 cF4 K l1 qL4 AL4 cL4 mL l2 most false from
                ⟨hf4, hg4, by omega, ST.out.s1, ST.out.s2, fun e => by have := hqF _ e; have := hf3.lt; omega, fun e => by have := hqL _ e; have := hf3.lt; omega, fun j hj => ⟨fun e => by have := hqF _ e; have := (hf3.row.size j hj).2; omega, fun e => by have := hqL _ e; have := (hf3.row.size j hj).2; omega⟩⟩)
              have BX := Aside0.mk (hB3.trans hd4.below)
              have HL := Aside0.mk (show i ≤ 100 * (k + 1) by omega)
              clear hf3 hd3 hg3 hB3 z1' hg4 hd4 hqF hqL hK hf4 hmL hll hl1 hl2 ST HB z0 z1 z2 hi
              obtain ⟨-, yr, -, -⟩ := TX.out.g.cells
              go_upto_region 30 with fail
              refine wp_region_held_drew (S := fun w' => w'.cell? ⟨r, 1, none⟩ = some (.slice AF4 K cF4)) (by kernel_rfl) ?_ (fun hHeld => ?_)
              · exact yr
              refine tk 0 (some 128) ?_ (by rfl) (by kernel_rfl) (fun _ _ _ h => h) ?_ hHeld ?_; rotate_left
              · intro o ho; simp only [List.getElem?_toArray, List.getElem?_cons_zero, Option.some.injEq] at ho; subst ho; refine ⟨by rfl, fun w hSw => ?_⟩; try dsimp only at hSw
                go_simp; try with_reducible rfl
              try simp only [Act.put, List.setIfInBounds_toArray, List.set_cons_zero, List.set_cons_succ]
              refine tk 1 (some 129) ?_ (by rfl) (by kernel_rfl) (fun _ _ _ h => h) ?_ hHeld ?_; rotate_left
              · intro o ho; simp only [List.getElem?_toArray, List.getElem?_cons_succ, List.getElem?_cons_zero, Option.some.injEq] at ho; subst ho; refine ⟨by rfl, fun w hSw => ?_⟩; try dsimp only at hSw
                go_simp; try with_reducible rfl
              try simp only [Act.put, List.setIfInBounds_toArray, List.set_cons_zero, List.set_cons_succ]
              refine tk 2 (some 130) ?_ (by rfl) (by kernel_rfl) (fun _ _ _ h => h) ?_ hHeld ?_; rotate_left
              · intro o ho; simp only [List.getElem?_toArray, List.getElem?_cons_succ, List.getElem?_cons_zero, Option.some.injEq] at ho; subst ho; refine ⟨by rfl, fun w hSw => ?_⟩; try dsimp only at hSw
                go_simp; try with_reducible rfl
              try simp only [Act.put, List.setIfInBounds_toArray, List.set_cons_zero, List.set_cons_succ]
              refine tk 3 (some 131) ?_ (by rfl) (by kernel_rfl) (fun _ _ _ h => h) ?_ hHeld ?_; rotate_left
              · intro o ho; simp only [List.getElem?_toArray, List.getElem?_cons_succ, List.getElem?_cons_zero, Option.some.injEq] at ho; subst ho; refine ⟨by rfl, fun w hSw => ?_⟩; try dsimp only at hSw
                go_simp; try with_reducible rfl
              try simp only [Act.put, List.setIfInBounds_toArray, List.set_cons_zero, List.set_cons_succ]
              refine tk 4 (some 132) ?_ (by rfl) (by kernel_rfl) (fun _ _ _ h => h) ?_ hHeld ?_; rotate_left
              · intro o ho; simp only [List.getElem?_toArray, List.getElem?_cons_succ, List.getElem?_cons_zero, Option.some.injEq] at ho; subst ho; refine ⟨by rfl, fun w hSw => ?_⟩; try dsimp only at hSw
                go_simp; try with_reducible rfl
              try simp only [Act.put, List.setIfInBounds_toArray, List.set_cons_zero, List.set_cons_succ]
              refine tk 5 (some 133) ?_ (by rfl) (by kernel_rfl) (fun _ _ _ h => h) ?_ hHeld ?_; rotate_left
              · intro o ho; simp only [List.getElem?_toArray, List.getElem?_cons_succ, List.getElem?_cons_zero, Option.some.injEq] at ho; subst ho; refine ⟨by rfl, fun w hSw => ?_⟩; try dsimp only at hSw
                go_simp; try with_reducible rfl
              try simp only [Act.put, List.setIfInBounds_toArray, List.set_cons_zero, List.set_cons_succ]
              refine tk 6 (some 134) ?_ (by rfl) (by kernel_rfl) (fun _ _ _ h => h) ?_ hHeld ?_; rotate_left
              · intro o ho; simp only [List.getElem?_toArray, List.getElem?_cons_succ, List.getElem?_cons_zero, Option.some.injEq] at ho; subst ho; refine ⟨by rfl, fun w hSw => ?_⟩; try dsimp only at hSw
                go_simp; try with_reducible rfl
              try simp only [Act.put, List.setIfInBounds_toArray, List.set_cons_zero, List.set_cons_succ]
              refine tk 7 (some 135) ?_ (by rfl) (by kernel_rfl) (fun _ _ _ h => h) ?_ hHeld ?_; rotate_left
              · intro o ho; simp only [List.getElem?_toArray, List.getElem?_cons_succ, List.getElem?_cons_zero, Option.some.injEq] at ho; subst ho; refine ⟨by rfl, fun w hSw => ?_⟩; try dsimp only at hSw
                go_simp; try with_reducible rfl
              try simp only [Act.put, List.setIfInBounds_toArray, List.set_cons_zero, List.set_cons_succ]
              refine tk 8 (some 136) ?_ (by rfl) (by kernel_rfl) (fun _ _ _ h => h) ?_ hHeld ?_; rotate_left
              · intro o ho; simp only [List.getElem?_toArray, List.getElem?_cons_succ, List.getElem?_cons_zero, Option.some.injEq] at ho; subst ho; refine ⟨by rfl, fun w hSw => ?_⟩; try dsimp only at hSw
                go_simp; try with_reducible rfl
              try simp only [Act.put, List.setIfInBounds_toArray, List.set_cons_zero, List.set_cons_succ]
              refine tk 10 (some 138) ?_ (by rfl) (by kernel_rfl) (fun _ _ _ h => h) ?_ hHeld ?_; rotate_left
              · intro o ho; simp only [List.getElem?_toArray, List.getElem?_cons_succ, List.getElem?_cons_zero, Option.some.injEq] at ho; subst ho; refine ⟨by rfl, fun w hSw => ?_⟩; try dsimp only at hSw
                go_simp; try with_reducible rfl
              try simp only [Act.put, List.setIfInBounds_toArray, List.set_cons_zero, List.set_cons_succ]
              refine oneH 9 (by kernel_rfl) (by rfl) (fun o ho K hK => ?_)
              simp only [List.getElem?_toArray, List.getElem?_cons_succ, List.getElem?_cons_zero, Option.some.injEq] at ho
              subst ho
              go_simp
              refine (bytes_calls _ _ _ _ (l1 ++ l2) TX.out.f.len (by have := HL.out; omega) _ (by exact TX.out.f.cells.1) (by exact TX.out.f.bs.drewN 1)).mono ?_
              rintro e x1 ⟨A1', c1', q1', rfl, r1', b1''⟩
              have b1' := nodrew b1''
              try go_wp2_with fail
              refine hK.out _ _ ?_ (fun hHeld2 => ?_)
              · exact cb b1' yr
              clear hK K hHeld
              rename _ => hHeld
              try simp only [Act.put, List.setIfInBounds_toArray, List.set_cons_zero, List.set_cons_succ]
              refine oneH 11 (by kernel_rfl) (by rfl) (fun o ho K hK => ?_)
              simp only [List.getElem?_toArray, List.getElem?_cons_succ, List.getElem?_cons_zero, Option.some.injEq] at ho
              subst ho
              go_simp
              refine (all_calls _ _ _ _ _ _ _ _ _ _ _ _ _ _ i TX.out.n (by have := HL.out; omega) x1 (TX.out.g.below b1')).mono ?_
              rintro e x2 ⟨A2', c2', q2', rfl, r2', b2''⟩
              have b2' := below_step b1' b2''
              try go_wp2_with fail
              refine hK.out _ _ ?_ (fun hHeld2 => ?_)
              · exact cb b2' yr
              clear hK K hHeld
              rename _ => hHeld
              try simp only [Act.put, List.setIfInBounds_toArray, List.set_cons_zero, List.set_cons_succ]
              refine oneH 12 (by kernel_rfl) (by rfl) (fun o ho K hK => ?_)
              simp only [List.getElem?_toArray, List.getElem?_cons_succ, List.getElem?_cons_zero, Option.some.injEq] at ho
              subst ho
              go_simp
              refine (same_calls _ _ i (l1 ++ l2) TX.out.f.len _ _ i (l1 ++ l2) TX.out.f.len x2 (r1'.below b2'').bs r2'.bs).mono ?_
              rintro e x3 ⟨rfl, hd⟩
              have dd : decide ((l1 ++ l2) = (l1 ++ l2)) = true := by simp
              rw [dd]
              have b3' := below_step b2' (same_below hd)
              try go_wp2_with fail
              refine hK.out _ _ ?_ (fun hHeld2 => ?_)
              · exact cb b3' yr
              clear hK K hHeld
              rename _ => hHeld
              try simp only [Act.put, List.setIfInBounds_toArray, List.set_cons_zero, List.set_cons_succ]
              refine tk 13 (some 141) ?_ (by rfl) (by kernel_rfl) (fun _ _ _ h => h) ?_ hHeld ?_; rotate_left
              · intro o ho; simp only [List.getElem?_toArray, List.getElem?_cons_succ, List.getElem?_cons_zero, Option.some.injEq] at ho; subst ho; refine ⟨by rfl, fun w hSw => ?_⟩; try dsimp only at hSw
                go_simp; try with_reducible rfl
              try simp only [Act.put, List.setIfInBounds_toArray, List.set_cons_zero, List.set_cons_succ]
              refine tk 14 (some 142) ?_ (by rfl) (by kernel_rfl) (fun _ _ _ h => h) ?_ hHeld ?_; rotate_left
              · intro o ho; simp only [List.getElem?_toArray, List.getElem?_cons_succ, List.getElem?_cons_zero, Option.some.injEq] at ho; subst ho; refine ⟨by rfl, fun w hSw => ?_⟩; try dsimp only at hSw
                go_simp; try with_reducible rfl
              try simp only [Act.put, List.setIfInBounds_toArray, List.set_cons_zero, List.set_cons_succ]
              refine tk 15 (some 143) ?_ (by rfl) (by kernel_rfl) (fun _ _ _ h => h) ?_ hHeld ?_; rotate_left
              · intro o ho; simp only [List.getElem?_toArray, List.getElem?_cons_succ, List.getElem?_cons_zero, Option.some.injEq] at ho; subst ho; refine ⟨by rfl, fun w hSw => ?_⟩; try dsimp only at hSw
                go_simp; try with_reducible rfl
              try simp only [Act.put, List.setIfInBounds_toArray, List.set_cons_zero, List.set_cons_succ]
              refine tk 16 (some 144) ?_ (by rfl) (by kernel_rfl) (fun _ _ _ h => h) ?_ hHeld ?_; rotate_left
              · intro o ho; simp only [List.getElem?_toArray, List.getElem?_cons_succ, List.getElem?_cons_zero, Option.some.injEq] at ho; subst ho; refine ⟨by rfl, fun w hSw => ?_⟩; try dsimp only at hSw
                go_simp; try with_reducible rfl
              try simp only [Act.put, List.setIfInBounds_toArray, List.set_cons_zero, List.set_cons_succ]
              refine tk 18 (some 146) ?_ (by rfl) (by kernel_rfl) (fun _ _ _ h => h) ?_ hHeld ?_; rotate_left
              · intro o ho; simp only [List.getElem?_toArray, List.getElem?_cons_succ, List.getElem?_cons_zero, Option.some.injEq] at ho; subst ho; refine ⟨by rfl, fun w hSw => ?_⟩; try dsimp only at hSw
                go_simp; try with_reducible rfl
              try simp only [Act.put, List.setIfInBounds_toArray, List.set_cons_zero, List.set_cons_succ]
              refine oneH 17 (by kernel_rfl) (by rfl) (fun o ho K hK => ?_)
              simp only [List.getElem?_toArray, List.getElem?_cons_succ, List.getElem?_cons_zero, Option.some.injEq] at ho
              subst ho
              go_simp
              refine (len_calls _ _ _ _ x3 (TX.out.f.below b3').cells.1).mono ?_
              rintro e x4 ⟨rfl, rfl⟩
              try go_wp2_with fail
              refine hK.out _ _ ?_ (fun hHeld2 => ?_)
              · exact hHeld
              clear hK K hHeld
              rename _ => hHeld
              try simp only [Act.put, List.setIfInBounds_toArray, List.set_cons_zero, List.set_cons_succ]
              refine oneH 19 (by kernel_rfl) (by rfl) (fun o ho K hK => ?_)
              simp only [List.getElem?_toArray, List.getElem?_cons_succ, List.getElem?_cons_zero, Option.some.injEq] at ho
              subst ho
              go_simp
              refine (all_calls _ _ _ _ _ _ _ _ _ _ _ _ _ _ i TX.out.n (by have := HL.out; omega) x3 (TX.out.g.below b3')).mono ?_
              rintro e x5 ⟨A5', c5', q5', rfl, r5', b5''⟩
              have b5' := below_step b3' b5''
              try go_wp2_with fail
              refine hK.out _ _ ?_ (fun hHeld2 => ?_)
              · exact cb b5' yr
              clear hK K hHeld
              rename _ => hHeld
              try simp only [Act.put, List.setIfInBounds_toArray, List.set_cons_zero, List.set_cons_succ]
              refine tk 20 (some 148) ?_ (by rfl) (by kernel_rfl) (fun _ _ _ h => h) ?_ hHeld ?_; rotate_left
              · intro o ho; simp only [List.getElem?_toArray, List.getElem?_cons_succ, List.getElem?_cons_zero, Option.some.injEq] at ho; subst ho; refine ⟨by rfl, fun w hSw => ?_⟩; try dsimp only at hSw
                go_simp; try with_reducible rfl
              try simp only [Act.put, List.setIfInBounds_toArray, List.set_cons_zero, List.set_cons_succ]
              refine tk 21 (some 149) ?_ (by rfl) (by kernel_rfl) (fun _ _ _ h => h) ?_ hHeld ?_; rotate_left
              · intro o ho; simp only [List.getElem?_toArray, List.getElem?_cons_succ, List.getElem?_cons_zero, Option.some.injEq] at ho; subst ho; refine ⟨by rfl, fun w hSw => ?_⟩; try dsimp only at hSw
                go_simp; try with_reducible rfl
              try simp only [Act.put, List.setIfInBounds_toArray, List.set_cons_zero, List.set_cons_succ]
              refine tk 22 (some 150) ?_ (by rfl) (by kernel_rfl) (fun _ _ _ h => h) ?_ hHeld ?_; rotate_left
              · intro o ho; simp only [List.getElem?_toArray, List.getElem?_cons_succ, List.getElem?_cons_zero, Option.some.injEq] at ho; subst ho; refine ⟨by rfl, fun w hSw => ?_⟩; try dsimp only at hSw
                go_simp; try with_reducible rfl
              try simp only [Act.put, List.setIfInBounds_toArray, List.set_cons_zero, List.set_cons_succ]
              refine tk 23 (some 151) ?_ (by rfl) (by kernel_rfl) (fun _ _ _ h => h) ?_ hHeld ?_; rotate_left
              · intro o ho; simp only [List.getElem?_toArray, List.getElem?_cons_succ, List.getElem?_cons_zero, Option.some.injEq] at ho; subst ho; refine ⟨by rfl, fun w hSw => ?_⟩; try dsimp only at hSw
                go_simp; try with_reducible rfl
              try simp only [Act.put, List.setIfInBounds_toArray, List.set_cons_zero, List.set_cons_succ]
              refine tk 24 (some 152) ?_ (by rfl) (by kernel_rfl) (fun _ _ _ h => h) ?_ hHeld ?_; rotate_left
              · intro o ho; simp only [List.getElem?_toArray, List.getElem?_cons_succ, List.getElem?_cons_zero, Option.some.injEq] at ho; subst ho; refine ⟨by rfl, fun w hSw => ?_⟩; try dsimp only at hSw
                go_simp; try with_reducible rfl
              try simp only [Act.put, List.setIfInBounds_toArray, List.set_cons_zero, List.set_cons_succ]
              refine tk 26 (some 154) ?_ (by rfl) (by kernel_rfl) (fun _ _ _ h => h) ?_ hHeld ?_; rotate_left
              · intro o ho; simp only [List.getElem?_toArray, List.getElem?_cons_succ, List.getElem?_cons_zero, Option.some.injEq] at ho; subst ho; refine ⟨by rfl, fun w hSw => ?_⟩; try dsimp only at hSw
                go_simp; try with_reducible rfl
              try simp only [Act.put, List.setIfInBounds_toArray, List.set_cons_zero, List.set_cons_succ]
              refine tk 27 (some 155) ?_ (by rfl) (by kernel_rfl) (fun _ _ _ h => h) ?_ hHeld ?_; rotate_left
              · intro o ho; simp only [List.getElem?_toArray, List.getElem?_cons_succ, List.getElem?_cons_zero, Option.some.injEq] at ho; subst ho; refine ⟨by rfl, fun w hSw => ?_⟩; try dsimp only at hSw
                go_simp; try with_reducible rfl
              try simp only [Act.put, List.setIfInBounds_toArray, List.set_cons_zero, List.set_cons_succ]
              refine tk 28 (some 156) ?_ (by rfl) (by kernel_rfl) (fun _ _ _ h => h) ?_ hHeld ?_; rotate_left
              · intro o ho; simp only [List.getElem?_toArray, List.getElem?_cons_succ, List.getElem?_cons_zero, Option.some.injEq] at ho; subst ho; refine ⟨by rfl, fun w hSw => ?_⟩; try dsimp only at hSw
                go_simp; try with_reducible rfl
              try simp only [Act.put, List.setIfInBounds_toArray, List.set_cons_zero, List.set_cons_succ]
              refine tk 29 (some 157) ?_ (by rfl) (by kernel_rfl) (fun _ _ _ h => h) ?_ hHeld ?_; rotate_left
              · intro o ho; simp only [List.getElem?_toArray, List.getElem?_cons_succ, List.getElem?_cons_zero, Option.some.injEq] at ho; subst ho; refine ⟨by rfl, fun w hSw => ?_⟩; try dsimp only at hSw
                go_simp; try with_reducible rfl
              try simp only [Act.put, List.setIfInBounds_toArray, List.set_cons_zero, List.set_cons_succ]
              refine tk 30 (some 158) ?_ (by rfl) (by kernel_rfl) (fun _ _ _ h => h) ?_ hHeld ?_; rotate_left
              · intro o ho; simp only [List.getElem?_toArray, List.getElem?_cons_succ, List.getElem?_cons_zero, Option.some.injEq] at ho; subst ho; refine ⟨by rfl, fun w hSw => ?_⟩; try dsimp only at hSw
                go_simp; try with_reducible rfl
              try simp only [Act.put, List.setIfInBounds_toArray, List.set_cons_zero, List.set_cons_succ]
              refine oneH 25 (by kernel_rfl) (by rfl) (fun o ho K hK => ?_)
              simp only [List.getElem?_toArray, List.getElem?_cons_succ, List.getElem?_cons_zero, Option.some.injEq] at ho
              subst ho
              go_simp
              refine (sure_calls _ _ x5 (TX.out.f.below b5').cells.2.1).mono ?_
              rintro e x6 ⟨rfl, rfl⟩
              try go_wp2_with fail
              refine hK.out _ _ ?_ (fun hHeld2 => ?_)
              · exact hHeld
              clear hK K hHeld
              rename _ => hHeld
              try simp only [Act.put, List.setIfInBounds_toArray, List.set_cons_zero, List.set_cons_succ]
              refine tk 31 (some 159) ?_ (by rfl) (by kernel_rfl) (fun _ _ _ h => h) ?_ hHeld ?_; rotate_left
              · intro o ho; simp only [List.getElem?_toArray, List.getElem?_cons_succ, List.getElem?_cons_zero, Option.some.injEq] at ho; subst ho; refine ⟨by rfl, fun w hSw => ?_⟩; try dsimp only at hSw
                go_simp; try with_reducible rfl
              try simp only [Act.put, List.setIfInBounds_toArray, List.set_cons_zero, List.set_cons_succ]
              refine tk 32 (some 160) ?_ (by rfl) (by kernel_rfl) (fun _ _ _ h => h) ?_ hHeld ?_; rotate_left
              · intro o ho; simp only [List.getElem?_toArray, List.getElem?_cons_succ, List.getElem?_cons_zero, Option.some.injEq] at ho; subst ho; refine ⟨by rfl, fun w hSw => ?_⟩; try dsimp only at hSw
                go_simp; try with_reducible rfl
              try simp only [Act.put, List.setIfInBounds_toArray, List.set_cons_zero, List.set_cons_succ]
              refine wpAnyH_done (by kernel_rfl) ?_ _
              have TY := Aside0.mk (TX.out.below b5')
              have BY := Aside0.mk (BX.out.trans (b5'.mono BX.out.size))
              clear hHeld b1' b2' b3' b5' b1'' b2'' b5'' r1' r2' r5' hd dd yr TX BX
              go_wp2_with fail
              go_roundw
              case rel => exact ⟨k + 1, by omega, by go_num, ⟨p, qf, Af, i, i, r, qF4, AF4, cF4, K, l1, qL4, AL4, cL4, mL, l2, false, rfl, rfl, TY.out, HL.out⟩, BY.out⟩
              case measure => simp [intOf]; omega
        · as_aux_lemma =>
            go_wp2_with fail
            refine (cut_crashed _ _ _ _ _ _ _ _ _ _ wr ST.out.f).mono ?_
            rintro e x0 ⟨rfl, rfl⟩
            go_wp2_with fail
            refine (rcut_crashed _ _ _ _ _ _ _ _ _ _ _ _ _ _ wr ST.out.g).mono ?_
            rintro e x0 ⟨rfl, rfl⟩
            have TX := ST
            have BX := HB
            have HL := Aside0.mk (show nn ≤ 100 * (k + 1) by omega)
            clear ST HB z0 z1 z2
            obtain ⟨-, yr, -, -⟩ := TX.out.g.cells
            go_upto_region 30 with fail
            refine wp_region_held_drew (S := fun w' => w'.cell? ⟨r, 1, none⟩ = some (.slice AF nF cF)) (by kernel_rfl) ?_ (fun hHeld => ?_)
            · exact yr
            refine tk 0 (some 128) ?_ (by rfl) (by kernel_rfl) (fun _ _ _ h => h) ?_ hHeld ?_; rotate_left
            · intro o ho; simp only [List.getElem?_toArray, List.getElem?_cons_zero, Option.some.injEq] at ho; subst ho; refine ⟨by rfl, fun w hSw => ?_⟩; try dsimp only at hSw
              go_simp; try with_reducible rfl
            try simp only [Act.put, List.setIfInBounds_toArray, List.set_cons_zero, List.set_cons_succ]
            refine tk 1 (some 129) ?_ (by rfl) (by kernel_rfl) (fun _ _ _ h => h) ?_ hHeld ?_; rotate_left
            · intro o ho; simp only [List.getElem?_toArray, List.getElem?_cons_succ, List.getElem?_cons_zero, Option.some.injEq] at ho; subst ho; refine ⟨by rfl, fun w hSw => ?_⟩; try dsimp only at hSw
              go_simp; try with_reducible rfl
            try simp only [Act.put, List.setIfInBounds_toArray, List.set_cons_zero, List.set_cons_succ]
            refine tk 2 (some 130) ?_ (by rfl) (by kernel_rfl) (fun _ _ _ h => h) ?_ hHeld ?_; rotate_left
            · intro o ho; simp only [List.getElem?_toArray, List.getElem?_cons_succ, List.getElem?_cons_zero, Option.some.injEq] at ho; subst ho; refine ⟨by rfl, fun w hSw => ?_⟩; try dsimp only at hSw
              go_simp; try with_reducible rfl
            try simp only [Act.put, List.setIfInBounds_toArray, List.set_cons_zero, List.set_cons_succ]
            refine tk 3 (some 131) ?_ (by rfl) (by kernel_rfl) (fun _ _ _ h => h) ?_ hHeld ?_; rotate_left
            · intro o ho; simp only [List.getElem?_toArray, List.getElem?_cons_succ, List.getElem?_cons_zero, Option.some.injEq] at ho; subst ho; refine ⟨by rfl, fun w hSw => ?_⟩; try dsimp only at hSw
              go_simp; try with_reducible rfl
            try simp only [Act.put, List.setIfInBounds_toArray, List.set_cons_zero, List.set_cons_succ]
            refine tk 4 (some 132) ?_ (by rfl) (by kernel_rfl) (fun _ _ _ h => h) ?_ hHeld ?_; rotate_left
            · intro o ho; simp only [List.getElem?_toArray, List.getElem?_cons_succ, List.getElem?_cons_zero, Option.some.injEq] at ho; subst ho; refine ⟨by rfl, fun w hSw => ?_⟩; try dsimp only at hSw
              go_simp; try with_reducible rfl
            try simp only [Act.put, List.setIfInBounds_toArray, List.set_cons_zero, List.set_cons_succ]
            refine tk 5 (some 133) ?_ (by rfl) (by kernel_rfl) (fun _ _ _ h => h) ?_ hHeld ?_; rotate_left
            · intro o ho; simp only [List.getElem?_toArray, List.getElem?_cons_succ, List.getElem?_cons_zero, Option.some.injEq] at ho; subst ho; refine ⟨by rfl, fun w hSw => ?_⟩; try dsimp only at hSw
              go_simp; try with_reducible rfl
            try simp only [Act.put, List.setIfInBounds_toArray, List.set_cons_zero, List.set_cons_succ]
            refine tk 6 (some 134) ?_ (by rfl) (by kernel_rfl) (fun _ _ _ h => h) ?_ hHeld ?_; rotate_left
            · intro o ho; simp only [List.getElem?_toArray, List.getElem?_cons_succ, List.getElem?_cons_zero, Option.some.injEq] at ho; subst ho; refine ⟨by rfl, fun w hSw => ?_⟩; try dsimp only at hSw
              go_simp; try with_reducible rfl
            try simp only [Act.put, List.setIfInBounds_toArray, List.set_cons_zero, List.set_cons_succ]
            refine tk 7 (some 135) ?_ (by rfl) (by kernel_rfl) (fun _ _ _ h => h) ?_ hHeld ?_; rotate_left
            · intro o ho; simp only [List.getElem?_toArray, List.getElem?_cons_succ, List.getElem?_cons_zero, Option.some.injEq] at ho; subst ho; refine ⟨by rfl, fun w hSw => ?_⟩; try dsimp only at hSw
              go_simp; try with_reducible rfl
            try simp only [Act.put, List.setIfInBounds_toArray, List.set_cons_zero, List.set_cons_succ]
            refine tk 8 (some 136) ?_ (by rfl) (by kernel_rfl) (fun _ _ _ h => h) ?_ hHeld ?_; rotate_left
            · intro o ho; simp only [List.getElem?_toArray, List.getElem?_cons_succ, List.getElem?_cons_zero, Option.some.injEq] at ho; subst ho; refine ⟨by rfl, fun w hSw => ?_⟩; try dsimp only at hSw
              go_simp; try with_reducible rfl
            try simp only [Act.put, List.setIfInBounds_toArray, List.set_cons_zero, List.set_cons_succ]
            refine tk 10 (some 138) ?_ (by rfl) (by kernel_rfl) (fun _ _ _ h => h) ?_ hHeld ?_; rotate_left
            · intro o ho; simp only [List.getElem?_toArray, List.getElem?_cons_succ, List.getElem?_cons_zero, Option.some.injEq] at ho; subst ho; refine ⟨by rfl, fun w hSw => ?_⟩; try dsimp only at hSw
              go_simp; try with_reducible rfl
            try simp only [Act.put, List.setIfInBounds_toArray, List.set_cons_zero, List.set_cons_succ]
            refine oneH 9 (by kernel_rfl) (by rfl) (fun o ho K hK => ?_)
            simp only [List.getElem?_toArray, List.getElem?_cons_succ, List.getElem?_cons_zero, Option.some.injEq] at ho
            subst ho
            go_simp
            refine (bytes_calls _ _ _ _ (lF ++ lL) TX.out.f.len (by have := HL.out; omega) _ (by exact TX.out.f.cells.1) (by exact TX.out.f.bs.drewN 1)).mono ?_
            rintro e x1 ⟨A1', c1', q1', rfl, r1', b1''⟩
            have b1' := nodrew b1''
            try go_wp2_with fail
            refine hK.out _ _ ?_ (fun hHeld2 => ?_)
            · exact cb b1' yr
            clear hK K hHeld
            rename _ => hHeld
            try simp only [Act.put, List.setIfInBounds_toArray, List.set_cons_zero, List.set_cons_succ]
            refine oneH 11 (by kernel_rfl) (by rfl) (fun o ho K hK => ?_)
            simp only [List.getElem?_toArray, List.getElem?_cons_succ, List.getElem?_cons_zero, Option.some.injEq] at ho
            subst ho
            go_simp
            refine (all_calls _ _ _ _ _ _ _ _ _ _ _ _ _ _ nn TX.out.n (by have := HL.out; omega) x1 (TX.out.g.below b1')).mono ?_
            rintro e x2 ⟨A2', c2', q2', rfl, r2', b2''⟩
            have b2' := below_step b1' b2''
            try go_wp2_with fail
            refine hK.out _ _ ?_ (fun hHeld2 => ?_)
            · exact cb b2' yr
            clear hK K hHeld
            rename _ => hHeld
            try simp only [Act.put, List.setIfInBounds_toArray, List.set_cons_zero, List.set_cons_succ]
            refine oneH 12 (by kernel_rfl) (by rfl) (fun o ho K hK => ?_)
            simp only [List.getElem?_toArray, List.getElem?_cons_succ, List.getElem?_cons_zero, Option.some.injEq] at ho
            subst ho
            go_simp
            refine (same_calls _ _ nn (lF ++ lL) TX.out.f.len _ _ nn (lF ++ lL) TX.out.f.len x2 (r1'.below b2'').bs r2'.bs).mono ?_
            rintro e x3 ⟨rfl, hd⟩
            have dd : decide ((lF ++ lL) = (lF ++ lL)) = true := by simp
            rw [dd]
            have b3' := below_step b2' (same_below hd)
            try go_wp2_with fail
            refine hK.out _ _ ?_ (fun hHeld2 => ?_)
            · exact cb b3' yr
            clear hK K hHeld
            rename _ => hHeld
            try simp only [Act.put, List.setIfInBounds_toArray, List.set_cons_zero, List.set_cons_succ]
            refine tk 13 (some 141) ?_ (by rfl) (by kernel_rfl) (fun _ _ _ h => h) ?_ hHeld ?_; rotate_left
            · intro o ho; simp only [List.getElem?_toArray, List.getElem?_cons_succ, List.getElem?_cons_zero, Option.some.injEq] at ho; subst ho; refine ⟨by rfl, fun w hSw => ?_⟩; try dsimp only at hSw
              go_simp; try with_reducible rfl
            try simp only [Act.put, List.setIfInBounds_toArray, List.set_cons_zero, List.set_cons_succ]
            refine tk 14 (some 142) ?_ (by rfl) (by kernel_rfl) (fun _ _ _ h => h) ?_ hHeld ?_; rotate_left
            · intro o ho; simp only [List.getElem?_toArray, List.getElem?_cons_succ, List.getElem?_cons_zero, Option.some.injEq] at ho; subst ho; refine ⟨by rfl, fun w hSw => ?_⟩; try dsimp only at hSw
              go_simp; try with_reducible rfl
            try simp only [Act.put, List.setIfInBounds_toArray, List.set_cons_zero, List.set_cons_succ]
            refine tk 15 (some 143) ?_ (by rfl) (by kernel_rfl) (fun _ _ _ h => h) ?_ hHeld ?_; rotate_left
            · intro o ho; simp only [List.getElem?_toArray, List.getElem?_cons_succ, List.getElem?_cons_zero, Option.some.injEq] at ho; subst ho; refine ⟨by rfl, fun w hSw => ?_⟩; try dsimp only at hSw
              go_simp; try with_reducible rfl
            try simp only [Act.put, List.setIfInBounds_toArray, List.set_cons_zero, List.set_cons_succ]
            refine tk 16 (some 144) ?_ (by rfl) (by kernel_rfl) (fun _ _ _ h => h) ?_ hHeld ?_; rotate_left
            · intro o ho; simp only [List.getElem?_toArray, List.getElem?_cons_succ, List.getElem?_cons_zero, Option.some.injEq] at ho; subst ho; refine ⟨by rfl, fun w hSw => ?_⟩; try dsimp only at hSw
              go_simp; try with_reducible rfl
            try simp only [Act.put, List.setIfInBounds_toArray, List.set_cons_zero, List.set_cons_succ]
            refine tk 18 (some 146) ?_ (by rfl) (by kernel_rfl) (fun _ _ _ h => h) ?_ hHeld ?_; rotate_left
            · intro o ho; simp only [List.getElem?_toArray, List.getElem?_cons_succ, List.getElem?_cons_zero, Option.some.injEq] at ho; subst ho; refine ⟨by rfl, fun w hSw => ?_⟩; try dsimp only at hSw
              go_simp; try with_reducible rfl
            try simp only [Act.put, List.setIfInBounds_toArray, List.set_cons_zero, List.set_cons_succ]
            refine oneH 17 (by kernel_rfl) (by rfl) (fun o ho K hK => ?_)
            simp only [List.getElem?_toArray, List.getElem?_cons_succ, List.getElem?_cons_zero, Option.some.injEq] at ho
            subst ho
            go_simp
            refine (len_calls _ _ _ _ x3 (TX.out.f.below b3').cells.1).mono ?_
            rintro e x4 ⟨rfl, rfl⟩
            try go_wp2_with fail
            refine hK.out _ _ ?_ (fun hHeld2 => ?_)
            · exact hHeld
            clear hK K hHeld
            rename _ => hHeld
            try simp only [Act.put, List.setIfInBounds_toArray, List.set_cons_zero, List.set_cons_succ]
            refine oneH 19 (by kernel_rfl) (by rfl) (fun o ho K hK => ?_)
            simp only [List.getElem?_toArray, List.getElem?_cons_succ, List.getElem?_cons_zero, Option.some.injEq] at ho
            subst ho
            go_simp
            refine (all_calls _ _ _ _ _ _ _ _ _ _ _ _ _ _ nn TX.out.n (by have := HL.out; omega) x3 (TX.out.g.below b3')).mono ?_
            rintro e x5 ⟨A5', c5', q5', rfl, r5', b5''⟩
            have b5' := below_step b3' b5''
            try go_wp2_with fail
            refine hK.out _ _ ?_ (fun hHeld2 => ?_)
            · exact cb b5' yr
            clear hK K hHeld
            rename _ => hHeld
            try simp only [Act.put, List.setIfInBounds_toArray, List.set_cons_zero, List.set_cons_succ]
            refine tk 20 (some 148) ?_ (by rfl) (by kernel_rfl) (fun _ _ _ h => h) ?_ hHeld ?_; rotate_left
            · intro o ho; simp only [List.getElem?_toArray, List.getElem?_cons_succ, List.getElem?_cons_zero, Option.some.injEq] at ho; subst ho; refine ⟨by rfl, fun w hSw => ?_⟩; try dsimp only at hSw
              go_simp; try with_reducible rfl
            try simp only [Act.put, List.setIfInBounds_toArray, List.set_cons_zero, List.set_cons_succ]
            refine tk 21 (some 149) ?_ (by rfl) (by kernel_rfl) (fun _ _ _ h => h) ?_ hHeld ?_; rotate_left
            · intro o ho; simp only [List.getElem?_toArray, List.getElem?_cons_succ, List.getElem?_cons_zero, Option.some.injEq] at ho; subst ho; refine ⟨by rfl, fun w hSw => ?_⟩; try dsimp only at hSw
              go_simp; try with_reducible rfl
            try simp only [Act.put, List.setIfInBounds_toArray, List.set_cons_zero, List.set_cons_succ]
            refine tk 22 (some 150) ?_ (by rfl) (by kernel_rfl) (fun _ _ _ h => h) ?_ hHeld ?_; rotate_left
            · intro o ho; simp only [List.getElem?_toArray, List.getElem?_cons_succ, List.getElem?_cons_zero, Option.some.injEq] at ho; subst ho; refine ⟨by rfl, fun w hSw => ?_⟩; try dsimp only at hSw
              go_simp; try with_reducible rfl
            try simp only [Act.put, List.setIfInBounds_toArray, List.set_cons_zero, List.set_cons_succ]
            refine tk 23 (some 151) ?_ (by rfl) (by kernel_rfl) (fun _ _ _ h => h) ?_ hHeld ?_; rotate_left
            · intro o ho; simp only [List.getElem?_toArray, List.getElem?_cons_succ, List.getElem?_cons_zero, Option.some.injEq] at ho; subst ho; refine ⟨by rfl, fun w hSw => ?_⟩; try dsimp only at hSw
              go_simp; try with_reducible rfl
            try simp only [Act.put, List.setIfInBounds_toArray, List.set_cons_zero, List.set_cons_succ]
            refine tk 24 (some 152) ?_ (by rfl) (by kernel_rfl) (fun _ _ _ h => h) ?_ hHeld ?_; rotate_left
            · intro o ho; simp only [List.getElem?_toArray, List.getElem?_cons_succ, List.getElem?_cons_zero, Option.some.injEq] at ho; subst ho; refine ⟨by rfl, fun w hSw => ?_⟩; try dsimp only at hSw
              go_simp; try with_reducible rfl
            try simp only [Act.put, List.setIfInBounds_toArray, List.set_cons_zero, List.set_cons_succ]
            refine tk 26 (some 154) ?_ (by rfl) (by kernel_rfl) (fun _ _ _ h => h) ?_ hHeld ?_; rotate_left
            · intro o ho; simp only [List.getElem?_toArray, List.getElem?_cons_succ, List.getElem?_cons_zero, Option.some.injEq] at ho; subst ho; refine ⟨by rfl, fun w hSw => ?_⟩; try dsimp only at hSw
              go_simp; try with_reducible rfl
            try simp only [Act.put, List.setIfInBounds_toArray, List.set_cons_zero, List.set_cons_succ]
            refine tk 27 (some 155) ?_ (by rfl) (by kernel_rfl) (fun _ _ _ h => h) ?_ hHeld ?_; rotate_left
            · intro o ho; simp only [List.getElem?_toArray, List.getElem?_cons_succ, List.getElem?_cons_zero, Option.some.injEq] at ho; subst ho; refine ⟨by rfl, fun w hSw => ?_⟩; try dsimp only at hSw
              go_simp; try with_reducible rfl
            try simp only [Act.put, List.setIfInBounds_toArray, List.set_cons_zero, List.set_cons_succ]
            refine tk 28 (some 156) ?_ (by rfl) (by kernel_rfl) (fun _ _ _ h => h) ?_ hHeld ?_; rotate_left
            · intro o ho; simp only [List.getElem?_toArray, List.getElem?_cons_succ, List.getElem?_cons_zero, Option.some.injEq] at ho; subst ho; refine ⟨by rfl, fun w hSw => ?_⟩; try dsimp only at hSw
              go_simp; try with_reducible rfl
            try simp only [Act.put, List.setIfInBounds_toArray, List.set_cons_zero, List.set_cons_succ]
            refine tk 29 (some 157) ?_ (by rfl) (by kernel_rfl) (fun _ _ _ h => h) ?_ hHeld ?_; rotate_left
            · intro o ho; simp only [List.getElem?_toArray, List.getElem?_cons_succ, List.getElem?_cons_zero, Option.some.injEq] at ho; subst ho; refine ⟨by rfl, fun w hSw => ?_⟩; try dsimp only at hSw
              go_simp; try with_reducible rfl
            try simp only [Act.put, List.setIfInBounds_toArray, List.set_cons_zero, List.set_cons_succ]
            refine tk 30 (some 158) ?_ (by rfl) (by kernel_rfl) (fun _ _ _ h => h) ?_ hHeld ?_; rotate_left
            · intro o ho; simp only [List.getElem?_toArray, List.getElem?_cons_succ, List.getElem?_cons_zero, Option.some.injEq] at ho; subst ho; refine ⟨by rfl, fun w hSw => ?_⟩; try dsimp only at hSw
              go_simp; try with_reducible rfl
            try simp only [Act.put, List.setIfInBounds_toArray, List.set_cons_zero, List.set_cons_succ]
            refine oneH 25 (by kernel_rfl) (by rfl) (fun o ho K hK => ?_)
            simp only [List.getElem?_toArray, List.getElem?_cons_succ, List.getElem?_cons_zero, Option.some.injEq] at ho
            subst ho
            go_simp
            refine (sure_calls _ _ x5 (TX.out.f.below b5').cells.2.1).mono ?_
            rintro e x6 ⟨rfl, rfl⟩
            try go_wp2_with fail
            refine hK.out _ _ ?_ (fun hHeld2 => ?_)
            · exact hHeld
            clear hK K hHeld
            rename _ => hHeld
            try simp only [Act.put, List.setIfInBounds_toArray, List.set_cons_zero, List.set_cons_succ]
            refine tk 31 (some 159) ?_ (by rfl) (by kernel_rfl) (fun _ _ _ h => h) ?_ hHeld ?_; rotate_left
            · intro o ho; simp only [List.getElem?_toArray, List.getElem?_cons_succ, List.getElem?_cons_zero, Option.some.injEq] at ho; subst ho; refine ⟨by rfl, fun w hSw => ?_⟩; try dsimp only at hSw
              go_simp; try with_reducible rfl
            try simp only [Act.put, List.setIfInBounds_toArray, List.set_cons_zero, List.set_cons_succ]
            refine tk 32 (some 160) ?_ (by rfl) (by kernel_rfl) (fun _ _ _ h => h) ?_ hHeld ?_; rotate_left
            · intro o ho; simp only [List.getElem?_toArray, List.getElem?_cons_succ, List.getElem?_cons_zero, Option.some.injEq] at ho; subst ho; refine ⟨by rfl, fun w hSw => ?_⟩; try dsimp only at hSw
              go_simp; try with_reducible rfl
            try simp only [Act.put, List.setIfInBounds_toArray, List.set_cons_zero, List.set_cons_succ]
            refine wpAnyH_done (by kernel_rfl) ?_ _
            have TY := Aside0.mk (TX.out.below b5')
            have BY := Aside0.mk (BX.out.trans (b5'.mono BX.out.size))
            clear hHeld b1' b2' b3' b5' b1'' b2'' b5'' r1' r2' r5' hd dd yr TX BX
            go_wp2_with fail
            go_roundw
            case rel => exact ⟨k + 1, by omega, by go_num, ⟨p, qf, Af, cf, nn, r, qF, AF, cF, nF, lF, qL, AL, cL, nL, lL, true, rfl, rfl, TY.out, HL.out⟩, BY.out⟩
            case measure => simp [intOf]; omega
      by_cases hd : d = 3
      · have n0 : (d == 0) = false := by rw [hd]; rfl
        have n1 : (d == 1) = false := by rw [hd]; rfl
        have n2 : (d == 2) = false := by rw [hd]; rfl
        have n3 : (d == 3) = true := by rw [hd]; rfl
        have n4 : (d == 4) = false := by rw [hd]; rfl
        clear hd
        cases cr
        · by_cases cj : j < 0 ∨ (nn : Int) - nF < j
          · as_aux_lemma =>
              go_wp2_with fail
              refine wp_region_held_drew (S := fun w' => w'.cell? ⟨(a.add (k * 3)).block, (a.add (k * 3)).off + 1, none⟩ = some (.int .i64 j) ∧ w'.cell? ⟨(a.add (k * 3)).block, (a.add (k * 3)).off + 2, none⟩ = some (.slice X (ml k) cx)) (by kernel_rfl) ?_ (fun hHeld => ?_)
              · exact ⟨z1, z2⟩
              refine tk 0 (some 95) ?_ (by rfl) (by kernel_rfl) (fun _ _ _ h => h) ?_ hHeld ?_; rotate_left
              · intro o ho; simp only [List.getElem?_toArray, List.getElem?_cons_zero, Option.some.injEq] at ho; subst ho; refine ⟨by rfl, fun w hSw => ?_⟩; try dsimp only at hSw
                go_simp; try with_reducible rfl
              try simp only [Act.put, List.setIfInBounds_toArray, List.set_cons_zero, List.set_cons_succ]
              refine tk 1 (some 96) ?_ (by rfl) (by kernel_rfl) (fun _ _ _ h => h) ?_ hHeld ?_; rotate_left
              · intro o ho; simp only [List.getElem?_toArray, List.getElem?_cons_succ, List.getElem?_cons_zero, Option.some.injEq] at ho; subst ho; refine ⟨by rfl, fun w hSw => ?_⟩; try dsimp only at hSw
                go_simp; try with_reducible rfl
              try simp only [Act.put, List.setIfInBounds_toArray, List.set_cons_zero, List.set_cons_succ]
              refine tk 2 (some 97) ?_ (by rfl) (by kernel_rfl) (fun _ _ _ h => h) ?_ hHeld ?_; rotate_left
              · intro o ho; simp only [List.getElem?_toArray, List.getElem?_cons_succ, List.getElem?_cons_zero, Option.some.injEq] at ho; subst ho; refine ⟨by rfl, fun w hSw => ?_⟩; try dsimp only at hSw
                go_simp; try with_reducible rfl
              try simp only [Act.put, List.setIfInBounds_toArray, List.set_cons_zero, List.set_cons_succ]
              refine tk 3 (some 98) ?_ (by rfl) (by kernel_rfl) (fun _ _ _ h => h) ?_ hHeld ?_; rotate_left
              · intro o ho; simp only [List.getElem?_toArray, List.getElem?_cons_succ, List.getElem?_cons_zero, Option.some.injEq] at ho; subst ho; refine ⟨by rfl, fun w hSw => ?_⟩; try dsimp only at hSw
                go_simp; try with_reducible rfl
              try simp only [Act.put, List.setIfInBounds_toArray, List.set_cons_zero, List.set_cons_succ]
              refine tk 4 (some 99) ?_ (by rfl) (by kernel_rfl) (fun _ _ _ h => h) ?_ hHeld ?_; rotate_left
              · intro o ho; simp only [List.getElem?_toArray, List.getElem?_cons_succ, List.getElem?_cons_zero, Option.some.injEq] at ho; subst ho; refine ⟨by rfl, fun w hSw => ?_⟩; try dsimp only at hSw
                go_simp; try with_reducible rfl
              try simp only [Act.put, List.setIfInBounds_toArray, List.set_cons_zero, List.set_cons_succ]
              refine tk 5 (some 100) ?_ (by rfl) (by kernel_rfl) (fun _ _ _ h => h) ?_ hHeld ?_; rotate_left
              · intro o ho; simp only [List.getElem?_toArray, List.getElem?_cons_succ, List.getElem?_cons_zero, Option.some.injEq] at ho; subst ho; refine ⟨by rfl, fun w hSw => ?_⟩; try dsimp only at hSw
                go_simp; try with_reducible rfl
              try simp only [Act.put, List.setIfInBounds_toArray, List.set_cons_zero, List.set_cons_succ]
              refine tk 6 (some 101) ?_ (by rfl) (by kernel_rfl) (fun _ _ _ h => h) ?_ hHeld ?_; rotate_left
              · intro o ho; simp only [List.getElem?_toArray, List.getElem?_cons_succ, List.getElem?_cons_zero, Option.some.injEq] at ho; subst ho; refine ⟨by rfl, fun w hSw => ?_⟩; try dsimp only at hSw
                go_simp; try with_reducible rfl
              try simp only [Act.put, List.setIfInBounds_toArray, List.set_cons_zero, List.set_cons_succ]
              refine tk 7 (some 102) ?_ (by rfl) (by kernel_rfl) (fun _ _ _ h => h) ?_ hHeld ?_; rotate_left
              · intro o ho; simp only [List.getElem?_toArray, List.getElem?_cons_succ, List.getElem?_cons_zero, Option.some.injEq] at ho; subst ho; refine ⟨by rfl, fun w hSw => ?_⟩; try dsimp only at hSw
                go_simp; try with_reducible rfl
              try simp only [Act.put, List.setIfInBounds_toArray, List.set_cons_zero, List.set_cons_succ]
              refine tk 8 (some 103) ?_ (by rfl) (by kernel_rfl) (fun _ _ _ h => h) ?_ hHeld ?_; rotate_left
              · intro o ho; simp only [List.getElem?_toArray, List.getElem?_cons_succ, List.getElem?_cons_zero, Option.some.injEq] at ho; subst ho; refine ⟨by rfl, fun w hSw => ?_⟩; try dsimp only at hSw
                go_simp; try with_reducible rfl
              try simp only [Act.put, List.setIfInBounds_toArray, List.set_cons_zero, List.set_cons_succ]
              refine tk 9 (some 104) ?_ (by rfl) (by kernel_rfl) (fun _ _ _ h => h) ?_ hHeld ?_; rotate_left
              · intro o ho; simp only [List.getElem?_toArray, List.getElem?_cons_succ, List.getElem?_cons_zero, Option.some.injEq] at ho; subst ho; refine ⟨by rfl, fun w hSw => ?_⟩; try dsimp only at hSw
                go_simp; try with_reducible rfl
              try simp only [Act.put, List.setIfInBounds_toArray, List.set_cons_zero, List.set_cons_succ]
              refine tk 10 (some 105) ?_ (by rfl) (by kernel_rfl) (fun _ _ _ h => h) ?_ hHeld ?_; rotate_left
              · intro o ho; simp only [List.getElem?_toArray, List.getElem?_cons_succ, List.getElem?_cons_zero, Option.some.injEq] at ho; subst ho; refine ⟨by rfl, fun w hSw => ?_⟩; try dsimp only at hSw
                go_simp; try with_reducible rfl
              try simp only [Act.put, List.setIfInBounds_toArray, List.set_cons_zero, List.set_cons_succ]
              refine oneH 11 (by kernel_rfl) (by rfl) (fun o ho K hK => ?_)
              simp only [List.getElem?_toArray, List.getElem?_cons_succ, List.getElem?_cons_zero, Option.some.injEq] at ho
              subst ho
              go_simp
              refine (crash_range _ _ _ _ _ _ _ _ _ _ _ _ _ wr.drew (ST.out.f.below (Below.refl _ _).drew) cj).mono ?_
              rintro e w3 ⟨rfl, b3'⟩
              have b3 := nodrew b3'
              try go_wp2_with fail
              refine hK.out _ _ ?_ (fun hHeld2 => ?_)
              · exact ⟨cb b3 z1, cb b3 z2⟩
              clear hK K hHeld
              rename _ => hHeld
              try simp only [Act.put, List.setIfInBounds_toArray, List.set_cons_zero, List.set_cons_succ]
              refine tk 12 (some 9) ?_ (by rfl) (by kernel_rfl) (fun _ _ _ h => h) ?_ hHeld ?_; rotate_left
              · intro o ho; simp only [List.getElem?_toArray, List.getElem?_cons_succ, List.getElem?_cons_zero, Option.some.injEq] at ho; subst ho; refine ⟨by rfl, fun w hSw => ?_⟩; try dsimp only at hSw
                go_simp; try with_reducible rfl
              try simp only [Act.put, List.setIfInBounds_toArray, List.set_cons_zero, List.set_cons_succ]
              refine wpAnyH_done (by kernel_rfl) ?_ _
              go_wp2_with fail
              have SU := Aside0.mk (ST.out.below b3)
              have BU := Aside0.mk (HB.out.trans (b3.mono HB.out.size))
              clear ST HB z0 z1 z2 b3 b3'
              obtain ⟨u1', u2'⟩ := hHeld
              refine wp_region_held_drew (S := fun w' => w'.cell? ⟨(a.add (k * 3)).block, (a.add (k * 3)).off + 1, none⟩ = some (.int .i64 j) ∧ w'.cell? ⟨(a.add (k * 3)).block, (a.add (k * 3)).off + 2, none⟩ = some (.slice X (ml k) cx)) (by kernel_rfl) ?_ (fun hHeld => ?_)
              · exact ⟨u1', u2'⟩
              refine tk 0 (some 107) ?_ (by rfl) (by kernel_rfl) (fun _ _ _ h => h) ?_ hHeld ?_; rotate_left
              · intro o ho; simp only [List.getElem?_toArray, List.getElem?_cons_zero, Option.some.injEq] at ho; subst ho; refine ⟨by rfl, fun w hSw => ?_⟩; try dsimp only at hSw
                go_simp; try with_reducible rfl
              try simp only [Act.put, List.setIfInBounds_toArray, List.set_cons_zero, List.set_cons_succ]
              refine tk 1 (some 108) ?_ (by rfl) (by kernel_rfl) (fun _ _ _ h => h) ?_ hHeld ?_; rotate_left
              · intro o ho; simp only [List.getElem?_toArray, List.getElem?_cons_succ, List.getElem?_cons_zero, Option.some.injEq] at ho; subst ho; refine ⟨by rfl, fun w hSw => ?_⟩; try dsimp only at hSw
                go_simp; try with_reducible rfl
              try simp only [Act.put, List.setIfInBounds_toArray, List.set_cons_zero, List.set_cons_succ]
              refine tk 2 (some 109) ?_ (by rfl) (by kernel_rfl) (fun _ _ _ h => h) ?_ hHeld ?_; rotate_left
              · intro o ho; simp only [List.getElem?_toArray, List.getElem?_cons_succ, List.getElem?_cons_zero, Option.some.injEq] at ho; subst ho; refine ⟨by rfl, fun w hSw => ?_⟩; try dsimp only at hSw
                go_simp; try with_reducible rfl
              try simp only [Act.put, List.setIfInBounds_toArray, List.set_cons_zero, List.set_cons_succ]
              refine tk 3 (some 110) ?_ (by rfl) (by kernel_rfl) (fun _ _ _ h => h) ?_ hHeld ?_; rotate_left
              · intro o ho; simp only [List.getElem?_toArray, List.getElem?_cons_succ, List.getElem?_cons_zero, Option.some.injEq] at ho; subst ho; refine ⟨by rfl, fun w hSw => ?_⟩; try dsimp only at hSw
                go_simp; try with_reducible rfl
              try simp only [Act.put, List.setIfInBounds_toArray, List.set_cons_zero, List.set_cons_succ]
              refine tk 4 (some 111) ?_ (by rfl) (by kernel_rfl) (fun _ _ _ h => h) ?_ hHeld ?_; rotate_left
              · intro o ho; simp only [List.getElem?_toArray, List.getElem?_cons_succ, List.getElem?_cons_zero, Option.some.injEq] at ho; subst ho; refine ⟨by rfl, fun w hSw => ?_⟩; try dsimp only at hSw
                go_simp; try with_reducible rfl
              try simp only [Act.put, List.setIfInBounds_toArray, List.set_cons_zero, List.set_cons_succ]
              refine tk 5 (some 112) ?_ (by rfl) (by kernel_rfl) (fun _ _ _ h => h) ?_ hHeld ?_; rotate_left
              · intro o ho; simp only [List.getElem?_toArray, List.getElem?_cons_succ, List.getElem?_cons_zero, Option.some.injEq] at ho; subst ho; refine ⟨by rfl, fun w hSw => ?_⟩; try dsimp only at hSw
                go_simp; try with_reducible rfl
              try simp only [Act.put, List.setIfInBounds_toArray, List.set_cons_zero, List.set_cons_succ]
              refine tk 6 (some 113) ?_ (by rfl) (by kernel_rfl) (fun _ _ _ h => h) ?_ hHeld ?_; rotate_left
              · intro o ho; simp only [List.getElem?_toArray, List.getElem?_cons_succ, List.getElem?_cons_zero, Option.some.injEq] at ho; subst ho; refine ⟨by rfl, fun w hSw => ?_⟩; try dsimp only at hSw
                go_simp; try with_reducible rfl
              try simp only [Act.put, List.setIfInBounds_toArray, List.set_cons_zero, List.set_cons_succ]
              refine tk 7 (some 114) ?_ (by rfl) (by kernel_rfl) (fun _ _ _ h => h) ?_ hHeld ?_; rotate_left
              · intro o ho; simp only [List.getElem?_toArray, List.getElem?_cons_succ, List.getElem?_cons_zero, Option.some.injEq] at ho; subst ho; refine ⟨by rfl, fun w hSw => ?_⟩; try dsimp only at hSw
                go_simp; try with_reducible rfl
              try simp only [Act.put, List.setIfInBounds_toArray, List.set_cons_zero, List.set_cons_succ]
              refine tk 8 (some 115) ?_ (by rfl) (by kernel_rfl) (fun _ _ _ h => h) ?_ hHeld ?_; rotate_left
              · intro o ho; simp only [List.getElem?_toArray, List.getElem?_cons_succ, List.getElem?_cons_zero, Option.some.injEq] at ho; subst ho; refine ⟨by rfl, fun w hSw => ?_⟩; try dsimp only at hSw
                go_simp; try with_reducible rfl
              try simp only [Act.put, List.setIfInBounds_toArray, List.set_cons_zero, List.set_cons_succ]
              refine tk 9 (some 116) ?_ (by rfl) (by kernel_rfl) (fun _ _ _ h => h) ?_ hHeld ?_; rotate_left
              · intro o ho; simp only [List.getElem?_toArray, List.getElem?_cons_succ, List.getElem?_cons_zero, Option.some.injEq] at ho; subst ho; refine ⟨by rfl, fun w hSw => ?_⟩; try dsimp only at hSw
                go_simp; try with_reducible rfl
              try simp only [Act.put, List.setIfInBounds_toArray, List.set_cons_zero, List.set_cons_succ]
              refine tk 10 (some 117) ?_ (by rfl) (by kernel_rfl) (fun _ _ _ h => h) ?_ hHeld ?_; rotate_left
              · intro o ho; simp only [List.getElem?_toArray, List.getElem?_cons_succ, List.getElem?_cons_zero, Option.some.injEq] at ho; subst ho; refine ⟨by rfl, fun w hSw => ?_⟩; try dsimp only at hSw
                go_simp; try with_reducible rfl
              try simp only [Act.put, List.setIfInBounds_toArray, List.set_cons_zero, List.set_cons_succ]
              refine oneH 11 (by kernel_rfl) (by rfl) (fun o ho K hK => ?_)
              simp only [List.getElem?_toArray, List.getElem?_cons_succ, List.getElem?_cons_zero, Option.some.injEq] at ho
              subst ho
              go_simp
              refine (rcrash_range _ _ _ _ _ _ _ _ _ _ _ _ _ _ _ _ _ w3.drew (SU.out.g.below (Below.refl _ _).drew) (by have := SU.out.n; omega)).mono ?_
              rintro e x0 ⟨rfl, rfl⟩
              try go_wp2_with fail
              refine hK.out _ _ ?_ (fun hHeld2 => ?_)
              · exact hHeld
              clear hK K hHeld
              rename _ => hHeld
              try simp only [Act.put, List.setIfInBounds_toArray, List.set_cons_zero, List.set_cons_succ]
              refine tk 12 (some 10) ?_ (by rfl) (by kernel_rfl) (fun _ _ _ h => h) ?_ hHeld ?_; rotate_left
              · intro o ho; simp only [List.getElem?_toArray, List.getElem?_cons_succ, List.getElem?_cons_zero, Option.some.injEq] at ho; subst ho; refine ⟨by rfl, fun w hSw => ?_⟩; try dsimp only at hSw
                go_simp; try with_reducible rfl
              try simp only [Act.put, List.setIfInBounds_toArray, List.set_cons_zero, List.set_cons_succ]
              refine wpAnyH_done (by kernel_rfl) ?_ _
              have TX' := Aside0.mk (SU.out.below (Below.refl _ _).drew)
              have BX' := Aside0.mk (BU.out.drew)
              obtain ⟨u2, hu2⟩ : ∃ u2, w3.drew = u2 := ⟨_, rfl⟩
              rw [hu2] at TX' BX' ⊢
              have TX := TX'
              have BX := BX'
              have HL := Aside0.mk (show nn ≤ 100 * (k + 1) by omega)
              clear hHeld hu2 u1' u2' SU BU TX' BX'
              obtain ⟨-, yr, -, -⟩ := TX.out.g.cells
              go_upto_region 30 with fail
              refine wp_region_held_drew (S := fun w' => w'.cell? ⟨r, 1, none⟩ = some (.slice AF nF cF)) (by kernel_rfl) ?_ (fun hHeld => ?_)
              · exact yr
              refine tk 0 (some 128) ?_ (by rfl) (by kernel_rfl) (fun _ _ _ h => h) ?_ hHeld ?_; rotate_left
              · intro o ho; simp only [List.getElem?_toArray, List.getElem?_cons_zero, Option.some.injEq] at ho; subst ho; refine ⟨by rfl, fun w hSw => ?_⟩; try dsimp only at hSw
                go_simp; try with_reducible rfl
              try simp only [Act.put, List.setIfInBounds_toArray, List.set_cons_zero, List.set_cons_succ]
              refine tk 1 (some 129) ?_ (by rfl) (by kernel_rfl) (fun _ _ _ h => h) ?_ hHeld ?_; rotate_left
              · intro o ho; simp only [List.getElem?_toArray, List.getElem?_cons_succ, List.getElem?_cons_zero, Option.some.injEq] at ho; subst ho; refine ⟨by rfl, fun w hSw => ?_⟩; try dsimp only at hSw
                go_simp; try with_reducible rfl
              try simp only [Act.put, List.setIfInBounds_toArray, List.set_cons_zero, List.set_cons_succ]
              refine tk 2 (some 130) ?_ (by rfl) (by kernel_rfl) (fun _ _ _ h => h) ?_ hHeld ?_; rotate_left
              · intro o ho; simp only [List.getElem?_toArray, List.getElem?_cons_succ, List.getElem?_cons_zero, Option.some.injEq] at ho; subst ho; refine ⟨by rfl, fun w hSw => ?_⟩; try dsimp only at hSw
                go_simp; try with_reducible rfl
              try simp only [Act.put, List.setIfInBounds_toArray, List.set_cons_zero, List.set_cons_succ]
              refine tk 3 (some 131) ?_ (by rfl) (by kernel_rfl) (fun _ _ _ h => h) ?_ hHeld ?_; rotate_left
              · intro o ho; simp only [List.getElem?_toArray, List.getElem?_cons_succ, List.getElem?_cons_zero, Option.some.injEq] at ho; subst ho; refine ⟨by rfl, fun w hSw => ?_⟩; try dsimp only at hSw
                go_simp; try with_reducible rfl
              try simp only [Act.put, List.setIfInBounds_toArray, List.set_cons_zero, List.set_cons_succ]
              refine tk 4 (some 132) ?_ (by rfl) (by kernel_rfl) (fun _ _ _ h => h) ?_ hHeld ?_; rotate_left
              · intro o ho; simp only [List.getElem?_toArray, List.getElem?_cons_succ, List.getElem?_cons_zero, Option.some.injEq] at ho; subst ho; refine ⟨by rfl, fun w hSw => ?_⟩; try dsimp only at hSw
                go_simp; try with_reducible rfl
              try simp only [Act.put, List.setIfInBounds_toArray, List.set_cons_zero, List.set_cons_succ]
              refine tk 5 (some 133) ?_ (by rfl) (by kernel_rfl) (fun _ _ _ h => h) ?_ hHeld ?_; rotate_left
              · intro o ho; simp only [List.getElem?_toArray, List.getElem?_cons_succ, List.getElem?_cons_zero, Option.some.injEq] at ho; subst ho; refine ⟨by rfl, fun w hSw => ?_⟩; try dsimp only at hSw
                go_simp; try with_reducible rfl
              try simp only [Act.put, List.setIfInBounds_toArray, List.set_cons_zero, List.set_cons_succ]
              refine tk 6 (some 134) ?_ (by rfl) (by kernel_rfl) (fun _ _ _ h => h) ?_ hHeld ?_; rotate_left
              · intro o ho; simp only [List.getElem?_toArray, List.getElem?_cons_succ, List.getElem?_cons_zero, Option.some.injEq] at ho; subst ho; refine ⟨by rfl, fun w hSw => ?_⟩; try dsimp only at hSw
                go_simp; try with_reducible rfl
              try simp only [Act.put, List.setIfInBounds_toArray, List.set_cons_zero, List.set_cons_succ]
              refine tk 7 (some 135) ?_ (by rfl) (by kernel_rfl) (fun _ _ _ h => h) ?_ hHeld ?_; rotate_left
              · intro o ho; simp only [List.getElem?_toArray, List.getElem?_cons_succ, List.getElem?_cons_zero, Option.some.injEq] at ho; subst ho; refine ⟨by rfl, fun w hSw => ?_⟩; try dsimp only at hSw
                go_simp; try with_reducible rfl
              try simp only [Act.put, List.setIfInBounds_toArray, List.set_cons_zero, List.set_cons_succ]
              refine tk 8 (some 136) ?_ (by rfl) (by kernel_rfl) (fun _ _ _ h => h) ?_ hHeld ?_; rotate_left
              · intro o ho; simp only [List.getElem?_toArray, List.getElem?_cons_succ, List.getElem?_cons_zero, Option.some.injEq] at ho; subst ho; refine ⟨by rfl, fun w hSw => ?_⟩; try dsimp only at hSw
                go_simp; try with_reducible rfl
              try simp only [Act.put, List.setIfInBounds_toArray, List.set_cons_zero, List.set_cons_succ]
              refine tk 10 (some 138) ?_ (by rfl) (by kernel_rfl) (fun _ _ _ h => h) ?_ hHeld ?_; rotate_left
              · intro o ho; simp only [List.getElem?_toArray, List.getElem?_cons_succ, List.getElem?_cons_zero, Option.some.injEq] at ho; subst ho; refine ⟨by rfl, fun w hSw => ?_⟩; try dsimp only at hSw
                go_simp; try with_reducible rfl
              try simp only [Act.put, List.setIfInBounds_toArray, List.set_cons_zero, List.set_cons_succ]
              refine oneH 9 (by kernel_rfl) (by rfl) (fun o ho K hK => ?_)
              simp only [List.getElem?_toArray, List.getElem?_cons_succ, List.getElem?_cons_zero, Option.some.injEq] at ho
              subst ho
              go_simp
              refine (bytes_calls _ _ _ _ (lF ++ lL) TX.out.f.len (by have := HL.out; omega) _ (by exact TX.out.f.cells.1) (by exact TX.out.f.bs.drewN 1)).mono ?_
              rintro e x1 ⟨A1', c1', q1', rfl, r1', b1''⟩
              have b1' := nodrew b1''
              try go_wp2_with fail
              refine hK.out _ _ ?_ (fun hHeld2 => ?_)
              · exact cb b1' yr
              clear hK K hHeld
              rename _ => hHeld
              try simp only [Act.put, List.setIfInBounds_toArray, List.set_cons_zero, List.set_cons_succ]
              refine oneH 11 (by kernel_rfl) (by rfl) (fun o ho K hK => ?_)
              simp only [List.getElem?_toArray, List.getElem?_cons_succ, List.getElem?_cons_zero, Option.some.injEq] at ho
              subst ho
              go_simp
              refine (all_calls _ _ _ _ _ _ _ _ _ _ _ _ _ _ nn TX.out.n (by have := HL.out; omega) x1 (TX.out.g.below b1')).mono ?_
              rintro e x2 ⟨A2', c2', q2', rfl, r2', b2''⟩
              have b2' := below_step b1' b2''
              try go_wp2_with fail
              refine hK.out _ _ ?_ (fun hHeld2 => ?_)
              · exact cb b2' yr
              clear hK K hHeld
              rename _ => hHeld
              try simp only [Act.put, List.setIfInBounds_toArray, List.set_cons_zero, List.set_cons_succ]
              refine oneH 12 (by kernel_rfl) (by rfl) (fun o ho K hK => ?_)
              simp only [List.getElem?_toArray, List.getElem?_cons_succ, List.getElem?_cons_zero, Option.some.injEq] at ho
              subst ho
              go_simp
              refine (same_calls _ _ nn (lF ++ lL) TX.out.f.len _ _ nn (lF ++ lL) TX.out.f.len x2 (r1'.below b2'').bs r2'.bs).mono ?_
              rintro e x3 ⟨rfl, hd⟩
              have dd : decide ((lF ++ lL) = (lF ++ lL)) = true := by simp
              rw [dd]
              have b3' := below_step b2' (same_below hd)
              try go_wp2_with fail
              refine hK.out _ _ ?_ (fun hHeld2 => ?_)
              · exact cb b3' yr
              clear hK K hHeld
              rename _ => hHeld
              try simp only [Act.put, List.setIfInBounds_toArray, List.set_cons_zero, List.set_cons_succ]
              refine tk 13 (some 141) ?_ (by rfl) (by kernel_rfl) (fun _ _ _ h => h) ?_ hHeld ?_; rotate_left
              · intro o ho; simp only [List.getElem?_toArray, List.getElem?_cons_succ, List.getElem?_cons_zero, Option.some.injEq] at ho; subst ho; refine ⟨by rfl, fun w hSw => ?_⟩; try dsimp only at hSw
                go_simp; try with_reducible rfl
              try simp only [Act.put, List.setIfInBounds_toArray, List.set_cons_zero, List.set_cons_succ]
              refine tk 14 (some 142) ?_ (by rfl) (by kernel_rfl) (fun _ _ _ h => h) ?_ hHeld ?_; rotate_left
              · intro o ho; simp only [List.getElem?_toArray, List.getElem?_cons_succ, List.getElem?_cons_zero, Option.some.injEq] at ho; subst ho; refine ⟨by rfl, fun w hSw => ?_⟩; try dsimp only at hSw
                go_simp; try with_reducible rfl
              try simp only [Act.put, List.setIfInBounds_toArray, List.set_cons_zero, List.set_cons_succ]
              refine tk 15 (some 143) ?_ (by rfl) (by kernel_rfl) (fun _ _ _ h => h) ?_ hHeld ?_; rotate_left
              · intro o ho; simp only [List.getElem?_toArray, List.getElem?_cons_succ, List.getElem?_cons_zero, Option.some.injEq] at ho; subst ho; refine ⟨by rfl, fun w hSw => ?_⟩; try dsimp only at hSw
                go_simp; try with_reducible rfl
              try simp only [Act.put, List.setIfInBounds_toArray, List.set_cons_zero, List.set_cons_succ]
              refine tk 16 (some 144) ?_ (by rfl) (by kernel_rfl) (fun _ _ _ h => h) ?_ hHeld ?_; rotate_left
              · intro o ho; simp only [List.getElem?_toArray, List.getElem?_cons_succ, List.getElem?_cons_zero, Option.some.injEq] at ho; subst ho; refine ⟨by rfl, fun w hSw => ?_⟩; try dsimp only at hSw
                go_simp; try with_reducible rfl
              try simp only [Act.put, List.setIfInBounds_toArray, List.set_cons_zero, List.set_cons_succ]
              refine tk 18 (some 146) ?_ (by rfl) (by kernel_rfl) (fun _ _ _ h => h) ?_ hHeld ?_; rotate_left
              · intro o ho; simp only [List.getElem?_toArray, List.getElem?_cons_succ, List.getElem?_cons_zero, Option.some.injEq] at ho; subst ho; refine ⟨by rfl, fun w hSw => ?_⟩; try dsimp only at hSw
                go_simp; try with_reducible rfl
              try simp only [Act.put, List.setIfInBounds_toArray, List.set_cons_zero, List.set_cons_succ]
              refine oneH 17 (by kernel_rfl) (by rfl) (fun o ho K hK => ?_)
              simp only [List.getElem?_toArray, List.getElem?_cons_succ, List.getElem?_cons_zero, Option.some.injEq] at ho
              subst ho
              go_simp
              refine (len_calls _ _ _ _ x3 (TX.out.f.below b3').cells.1).mono ?_
              rintro e x4 ⟨rfl, rfl⟩
              try go_wp2_with fail
              refine hK.out _ _ ?_ (fun hHeld2 => ?_)
              · exact hHeld
              clear hK K hHeld
              rename _ => hHeld
              try simp only [Act.put, List.setIfInBounds_toArray, List.set_cons_zero, List.set_cons_succ]
              refine oneH 19 (by kernel_rfl) (by rfl) (fun o ho K hK => ?_)
              simp only [List.getElem?_toArray, List.getElem?_cons_succ, List.getElem?_cons_zero, Option.some.injEq] at ho
              subst ho
              go_simp
              refine (all_calls _ _ _ _ _ _ _ _ _ _ _ _ _ _ nn TX.out.n (by have := HL.out; omega) x3 (TX.out.g.below b3')).mono ?_
              rintro e x5 ⟨A5', c5', q5', rfl, r5', b5''⟩
              have b5' := below_step b3' b5''
              try go_wp2_with fail
              refine hK.out _ _ ?_ (fun hHeld2 => ?_)
              · exact cb b5' yr
              clear hK K hHeld
              rename _ => hHeld
              try simp only [Act.put, List.setIfInBounds_toArray, List.set_cons_zero, List.set_cons_succ]
              refine tk 20 (some 148) ?_ (by rfl) (by kernel_rfl) (fun _ _ _ h => h) ?_ hHeld ?_; rotate_left
              · intro o ho; simp only [List.getElem?_toArray, List.getElem?_cons_succ, List.getElem?_cons_zero, Option.some.injEq] at ho; subst ho; refine ⟨by rfl, fun w hSw => ?_⟩; try dsimp only at hSw
                go_simp; try with_reducible rfl
              try simp only [Act.put, List.setIfInBounds_toArray, List.set_cons_zero, List.set_cons_succ]
              refine tk 21 (some 149) ?_ (by rfl) (by kernel_rfl) (fun _ _ _ h => h) ?_ hHeld ?_; rotate_left
              · intro o ho; simp only [List.getElem?_toArray, List.getElem?_cons_succ, List.getElem?_cons_zero, Option.some.injEq] at ho; subst ho; refine ⟨by rfl, fun w hSw => ?_⟩; try dsimp only at hSw
                go_simp; try with_reducible rfl
              try simp only [Act.put, List.setIfInBounds_toArray, List.set_cons_zero, List.set_cons_succ]
              refine tk 22 (some 150) ?_ (by rfl) (by kernel_rfl) (fun _ _ _ h => h) ?_ hHeld ?_; rotate_left
              · intro o ho; simp only [List.getElem?_toArray, List.getElem?_cons_succ, List.getElem?_cons_zero, Option.some.injEq] at ho; subst ho; refine ⟨by rfl, fun w hSw => ?_⟩; try dsimp only at hSw
                go_simp; try with_reducible rfl
              try simp only [Act.put, List.setIfInBounds_toArray, List.set_cons_zero, List.set_cons_succ]
              refine tk 23 (some 151) ?_ (by rfl) (by kernel_rfl) (fun _ _ _ h => h) ?_ hHeld ?_; rotate_left
              · intro o ho; simp only [List.getElem?_toArray, List.getElem?_cons_succ, List.getElem?_cons_zero, Option.some.injEq] at ho; subst ho; refine ⟨by rfl, fun w hSw => ?_⟩; try dsimp only at hSw
                go_simp; try with_reducible rfl
              try simp only [Act.put, List.setIfInBounds_toArray, List.set_cons_zero, List.set_cons_succ]
              refine tk 24 (some 152) ?_ (by rfl) (by kernel_rfl) (fun _ _ _ h => h) ?_ hHeld ?_; rotate_left
              · intro o ho; simp only [List.getElem?_toArray, List.getElem?_cons_succ, List.getElem?_cons_zero, Option.some.injEq] at ho; subst ho; refine ⟨by rfl, fun w hSw => ?_⟩; try dsimp only at hSw
                go_simp; try with_reducible rfl
              try simp only [Act.put, List.setIfInBounds_toArray, List.set_cons_zero, List.set_cons_succ]
              refine tk 26 (some 154) ?_ (by rfl) (by kernel_rfl) (fun _ _ _ h => h) ?_ hHeld ?_; rotate_left
              · intro o ho; simp only [List.getElem?_toArray, List.getElem?_cons_succ, List.getElem?_cons_zero, Option.some.injEq] at ho; subst ho; refine ⟨by rfl, fun w hSw => ?_⟩; try dsimp only at hSw
                go_simp; try with_reducible rfl
              try simp only [Act.put, List.setIfInBounds_toArray, List.set_cons_zero, List.set_cons_succ]
              refine tk 27 (some 155) ?_ (by rfl) (by kernel_rfl) (fun _ _ _ h => h) ?_ hHeld ?_; rotate_left
              · intro o ho; simp only [List.getElem?_toArray, List.getElem?_cons_succ, List.getElem?_cons_zero, Option.some.injEq] at ho; subst ho; refine ⟨by rfl, fun w hSw => ?_⟩; try dsimp only at hSw
                go_simp; try with_reducible rfl
              try simp only [Act.put, List.setIfInBounds_toArray, List.set_cons_zero, List.set_cons_succ]
              refine tk 28 (some 156) ?_ (by rfl) (by kernel_rfl) (fun _ _ _ h => h) ?_ hHeld ?_; rotate_left
              · intro o ho; simp only [List.getElem?_toArray, List.getElem?_cons_succ, List.getElem?_cons_zero, Option.some.injEq] at ho; subst ho; refine ⟨by rfl, fun w hSw => ?_⟩; try dsimp only at hSw
                go_simp; try with_reducible rfl
              try simp only [Act.put, List.setIfInBounds_toArray, List.set_cons_zero, List.set_cons_succ]
              refine tk 29 (some 157) ?_ (by rfl) (by kernel_rfl) (fun _ _ _ h => h) ?_ hHeld ?_; rotate_left
              · intro o ho; simp only [List.getElem?_toArray, List.getElem?_cons_succ, List.getElem?_cons_zero, Option.some.injEq] at ho; subst ho; refine ⟨by rfl, fun w hSw => ?_⟩; try dsimp only at hSw
                go_simp; try with_reducible rfl
              try simp only [Act.put, List.setIfInBounds_toArray, List.set_cons_zero, List.set_cons_succ]
              refine tk 30 (some 158) ?_ (by rfl) (by kernel_rfl) (fun _ _ _ h => h) ?_ hHeld ?_; rotate_left
              · intro o ho; simp only [List.getElem?_toArray, List.getElem?_cons_succ, List.getElem?_cons_zero, Option.some.injEq] at ho; subst ho; refine ⟨by rfl, fun w hSw => ?_⟩; try dsimp only at hSw
                go_simp; try with_reducible rfl
              try simp only [Act.put, List.setIfInBounds_toArray, List.set_cons_zero, List.set_cons_succ]
              refine oneH 25 (by kernel_rfl) (by rfl) (fun o ho K hK => ?_)
              simp only [List.getElem?_toArray, List.getElem?_cons_succ, List.getElem?_cons_zero, Option.some.injEq] at ho
              subst ho
              go_simp
              refine (sure_calls _ _ x5 (TX.out.f.below b5').cells.2.1).mono ?_
              rintro e x6 ⟨rfl, rfl⟩
              try go_wp2_with fail
              refine hK.out _ _ ?_ (fun hHeld2 => ?_)
              · exact hHeld
              clear hK K hHeld
              rename _ => hHeld
              try simp only [Act.put, List.setIfInBounds_toArray, List.set_cons_zero, List.set_cons_succ]
              refine tk 31 (some 159) ?_ (by rfl) (by kernel_rfl) (fun _ _ _ h => h) ?_ hHeld ?_; rotate_left
              · intro o ho; simp only [List.getElem?_toArray, List.getElem?_cons_succ, List.getElem?_cons_zero, Option.some.injEq] at ho; subst ho; refine ⟨by rfl, fun w hSw => ?_⟩; try dsimp only at hSw
                go_simp; try with_reducible rfl
              try simp only [Act.put, List.setIfInBounds_toArray, List.set_cons_zero, List.set_cons_succ]
              refine tk 32 (some 160) ?_ (by rfl) (by kernel_rfl) (fun _ _ _ h => h) ?_ hHeld ?_; rotate_left
              · intro o ho; simp only [List.getElem?_toArray, List.getElem?_cons_succ, List.getElem?_cons_zero, Option.some.injEq] at ho; subst ho; refine ⟨by rfl, fun w hSw => ?_⟩; try dsimp only at hSw
                go_simp; try with_reducible rfl
              try simp only [Act.put, List.setIfInBounds_toArray, List.set_cons_zero, List.set_cons_succ]
              refine wpAnyH_done (by kernel_rfl) ?_ _
              have TY := Aside0.mk (TX.out.below b5')
              have BY := Aside0.mk (BX.out.trans (b5'.mono BX.out.size))
              clear hHeld b1' b2' b3' b5' b1'' b2'' b5'' r1' r2' r5' hd dd yr TX BX
              go_wp2_with fail
              go_roundw
              case rel => exact ⟨k + 1, by omega, by go_num, ⟨p, qf, Af, cf, nn, r, qF, AF, cF, nF, lF, qL, AL, cL, nL, lL, false, rfl, rfl, TY.out, HL.out⟩, BY.out⟩
              case measure => simp [intOf]; omega
          · as_aux_lemma =>
              obtain ⟨i, rfl⟩ : ∃ i : Nat, j = (i : Int) := ⟨j.toNat, by omega⟩
              have hi : i ≤ nL := by have := ST.out.n; omega
              obtain ⟨N, hN⟩ : ∃ N, nF + i = N := ⟨_, rfl⟩
              have hNn : N ≤ nn := by have := ST.out.n; omega
              obtain ⟨J, hJ⟩ : ∃ J, J = min i (ml k) := ⟨_, rfl⟩
              have hXp : 0 < ml k → ∀ b, X = some b → b.block ≠ p ∧ some b.block ≠ qf := by
                intro hm b hb
                have hl := HY.out.1.blocks (by have := HY.out.2; omega) b hb
                exact ⟨by have := ST.out.f.own; omega, fun e => by have := (ST.out.f.row.size _ e.symm).1; omega⟩
              have HN := Aside0.mk (And.intro hN hNn)
              have HJ := Aside0.mk hJ
              have HXP := Aside0.mk hXp
              clear hN hNn hJ hXp
              go_wp2_with fail
              refine wp_region_held_drew (S := fun w' => w'.cell? ⟨(a.add (k * 3)).block, (a.add (k * 3)).off + 1, none⟩ = some (.int .i64 i) ∧ w'.cell? ⟨(a.add (k * 3)).block, (a.add (k * 3)).off + 2, none⟩ = some (.slice X (ml k) cx)) (by kernel_rfl) ?_ (fun hHeld => ?_)
              · exact ⟨z1, z2⟩
              refine tk 0 (some 95) ?_ (by rfl) (by kernel_rfl) (fun _ _ _ h => h) ?_ hHeld ?_; rotate_left
              · intro o ho; simp only [List.getElem?_toArray, List.getElem?_cons_zero, Option.some.injEq] at ho; subst ho; refine ⟨by rfl, fun w hSw => ?_⟩; try dsimp only at hSw
                go_simp; try with_reducible rfl
              try simp only [Act.put, List.setIfInBounds_toArray, List.set_cons_zero, List.set_cons_succ]
              refine tk 1 (some 96) ?_ (by rfl) (by kernel_rfl) (fun _ _ _ h => h) ?_ hHeld ?_; rotate_left
              · intro o ho; simp only [List.getElem?_toArray, List.getElem?_cons_succ, List.getElem?_cons_zero, Option.some.injEq] at ho; subst ho; refine ⟨by rfl, fun w hSw => ?_⟩; try dsimp only at hSw
                go_simp; try with_reducible rfl
              try simp only [Act.put, List.setIfInBounds_toArray, List.set_cons_zero, List.set_cons_succ]
              refine tk 2 (some 97) ?_ (by rfl) (by kernel_rfl) (fun _ _ _ h => h) ?_ hHeld ?_; rotate_left
              · intro o ho; simp only [List.getElem?_toArray, List.getElem?_cons_succ, List.getElem?_cons_zero, Option.some.injEq] at ho; subst ho; refine ⟨by rfl, fun w hSw => ?_⟩; try dsimp only at hSw
                go_simp; try with_reducible rfl
              try simp only [Act.put, List.setIfInBounds_toArray, List.set_cons_zero, List.set_cons_succ]
              refine tk 3 (some 98) ?_ (by rfl) (by kernel_rfl) (fun _ _ _ h => h) ?_ hHeld ?_; rotate_left
              · intro o ho; simp only [List.getElem?_toArray, List.getElem?_cons_succ, List.getElem?_cons_zero, Option.some.injEq] at ho; subst ho; refine ⟨by rfl, fun w hSw => ?_⟩; try dsimp only at hSw
                go_simp; try with_reducible rfl
              try simp only [Act.put, List.setIfInBounds_toArray, List.set_cons_zero, List.set_cons_succ]
              refine tk 4 (some 99) ?_ (by rfl) (by kernel_rfl) (fun _ _ _ h => h) ?_ hHeld ?_; rotate_left
              · intro o ho; simp only [List.getElem?_toArray, List.getElem?_cons_succ, List.getElem?_cons_zero, Option.some.injEq] at ho; subst ho; refine ⟨by rfl, fun w hSw => ?_⟩; try dsimp only at hSw
                go_simp; try with_reducible rfl
              try simp only [Act.put, List.setIfInBounds_toArray, List.set_cons_zero, List.set_cons_succ]
              refine tk 5 (some 100) ?_ (by rfl) (by kernel_rfl) (fun _ _ _ h => h) ?_ hHeld ?_; rotate_left
              · intro o ho; simp only [List.getElem?_toArray, List.getElem?_cons_succ, List.getElem?_cons_zero, Option.some.injEq] at ho; subst ho; refine ⟨by rfl, fun w hSw => ?_⟩; try dsimp only at hSw
                go_simp; try with_reducible rfl
              try simp only [Act.put, List.setIfInBounds_toArray, List.set_cons_zero, List.set_cons_succ]
              refine tk 6 (some 101) ?_ (by rfl) (by kernel_rfl) (fun _ _ _ h => h) ?_ hHeld ?_; rotate_left
              · intro o ho; simp only [List.getElem?_toArray, List.getElem?_cons_succ, List.getElem?_cons_zero, Option.some.injEq] at ho; subst ho; refine ⟨by rfl, fun w hSw => ?_⟩; try dsimp only at hSw
                go_simp; try with_reducible rfl
              try simp only [Act.put, List.setIfInBounds_toArray, List.set_cons_zero, List.set_cons_succ]
              refine tk 7 (some 102) ?_ (by rfl) (by kernel_rfl) (fun _ _ _ h => h) ?_ hHeld ?_; rotate_left
              · intro o ho; simp only [List.getElem?_toArray, List.getElem?_cons_succ, List.getElem?_cons_zero, Option.some.injEq] at ho; subst ho; refine ⟨by rfl, fun w hSw => ?_⟩; try dsimp only at hSw
                go_simp; try with_reducible rfl
              try simp only [Act.put, List.setIfInBounds_toArray, List.set_cons_zero, List.set_cons_succ]
              refine tk 8 (some 103) ?_ (by rfl) (by kernel_rfl) (fun _ _ _ h => h) ?_ hHeld ?_; rotate_left
              · intro o ho; simp only [List.getElem?_toArray, List.getElem?_cons_succ, List.getElem?_cons_zero, Option.some.injEq] at ho; subst ho; refine ⟨by rfl, fun w hSw => ?_⟩; try dsimp only at hSw
                go_simp; try with_reducible rfl
              try simp only [Act.put, List.setIfInBounds_toArray, List.set_cons_zero, List.set_cons_succ]
              refine tk 9 (some 104) ?_ (by rfl) (by kernel_rfl) (fun _ _ _ h => h) ?_ hHeld ?_; rotate_left
              · intro o ho; simp only [List.getElem?_toArray, List.getElem?_cons_succ, List.getElem?_cons_zero, Option.some.injEq] at ho; subst ho; refine ⟨by rfl, fun w hSw => ?_⟩; try dsimp only at hSw
                go_simp; try with_reducible rfl
              try simp only [Act.put, List.setIfInBounds_toArray, List.set_cons_zero, List.set_cons_succ]
              refine tk 10 (some 105) ?_ (by rfl) (by kernel_rfl) (fun _ _ _ h => h) ?_ hHeld ?_; rotate_left
              · intro o ho; simp only [List.getElem?_toArray, List.getElem?_cons_succ, List.getElem?_cons_zero, Option.some.injEq] at ho; subst ho; refine ⟨by rfl, fun w hSw => ?_⟩; try dsimp only at hSw
                go_simp; try with_reducible rfl
              try simp only [Act.put, List.setIfInBounds_toArray, List.set_cons_zero, List.set_cons_succ]
              refine oneH 11 (by kernel_rfl) (by rfl) (fun o ho K hK => ?_)
              simp only [List.getElem?_toArray, List.getElem?_cons_succ, List.getElem?_cons_zero, Option.some.injEq] at ho
              subst ho
              go_simp
              refine (crash_calls _ _ _ _ _ _ _ _ _ i N HN.out.1 HN.out.2 X cx (ml k) ys J HJ.out wr.drew (ST.out.f.below (Below.refl _ _).drew) ((HY.out.1.below HB.out).drewN 1) HY.out.2 HXP.out HB.out.size).mono ?_
              rintro e w3 ⟨rfl, hf3, hd3⟩
              have hB3 := HB.out.drew.trans hd3.below
              try go_wp2_with fail
              refine hK.out _ _ ?_ (fun hHeld2 => ?_)
              · exact ⟨pw_cell_below hB3 V1.out, pw_cell_below hB3 V2.out⟩
              clear hK K hHeld
              rename _ => hHeld
              try simp only [Act.put, List.setIfInBounds_toArray, List.set_cons_zero, List.set_cons_succ]
              refine tk 12 (some 9) ?_ (by rfl) (by kernel_rfl) (fun _ _ _ h => h) ?_ hHeld ?_; rotate_left
              · intro o ho; simp only [List.getElem?_toArray, List.getElem?_cons_succ, List.getElem?_cons_zero, Option.some.injEq] at ho; subst ho; refine ⟨by rfl, fun w hSw => ?_⟩; try dsimp only at hSw
                go_simp; try with_reducible rfl
              try simp only [Act.put, List.setIfInBounds_toArray, List.set_cons_zero, List.set_cons_succ]
              refine wpAnyH_done (by kernel_rfl) ?_ _
              go_wp2_with fail
              have SG := Aside0.mk ((ST.out.below (Below.refl _ _).drew).refDid hd3)
              have SF := Aside0.mk hf3
              have BU := Aside0.mk hB3
              have S0 := Aside0.mk (And.intro ST.out.s1 (And.intro ST.out.s2 ST.out.n))
              clear hf3 hd3 hB3 ST HB z0 z1 z2
              obtain ⟨u1', u2'⟩ := hHeld
              refine wp_region_held_drew (S := fun w' => w'.cell? ⟨(a.add (k * 3)).block, (a.add (k * 3)).off + 1, none⟩ = some (.int .i64 i) ∧ w'.cell? ⟨(a.add (k * 3)).block, (a.add (k * 3)).off + 2, none⟩ = some (.slice X (ml k) cx)) (by kernel_rfl) ?_ (fun hHeld => ?_)
              · exact ⟨u1', u2'⟩
              refine tk 0 (some 107) ?_ (by rfl) (by kernel_rfl) (fun _ _ _ h => h) ?_ hHeld ?_; rotate_left
              · intro o ho; simp only [List.getElem?_toArray, List.getElem?_cons_zero, Option.some.injEq] at ho; subst ho; refine ⟨by rfl, fun w hSw => ?_⟩; try dsimp only at hSw
                go_simp; try with_reducible rfl
              try simp only [Act.put, List.setIfInBounds_toArray, List.set_cons_zero, List.set_cons_succ]
              refine tk 1 (some 108) ?_ (by rfl) (by kernel_rfl) (fun _ _ _ h => h) ?_ hHeld ?_; rotate_left
              · intro o ho; simp only [List.getElem?_toArray, List.getElem?_cons_succ, List.getElem?_cons_zero, Option.some.injEq] at ho; subst ho; refine ⟨by rfl, fun w hSw => ?_⟩; try dsimp only at hSw
                go_simp; try with_reducible rfl
              try simp only [Act.put, List.setIfInBounds_toArray, List.set_cons_zero, List.set_cons_succ]
              refine tk 2 (some 109) ?_ (by rfl) (by kernel_rfl) (fun _ _ _ h => h) ?_ hHeld ?_; rotate_left
              · intro o ho; simp only [List.getElem?_toArray, List.getElem?_cons_succ, List.getElem?_cons_zero, Option.some.injEq] at ho; subst ho; refine ⟨by rfl, fun w hSw => ?_⟩; try dsimp only at hSw
                go_simp; try with_reducible rfl
              try simp only [Act.put, List.setIfInBounds_toArray, List.set_cons_zero, List.set_cons_succ]
              refine tk 3 (some 110) ?_ (by rfl) (by kernel_rfl) (fun _ _ _ h => h) ?_ hHeld ?_; rotate_left
              · intro o ho; simp only [List.getElem?_toArray, List.getElem?_cons_succ, List.getElem?_cons_zero, Option.some.injEq] at ho; subst ho; refine ⟨by rfl, fun w hSw => ?_⟩; try dsimp only at hSw
                go_simp; try with_reducible rfl
              try simp only [Act.put, List.setIfInBounds_toArray, List.set_cons_zero, List.set_cons_succ]
              refine tk 4 (some 111) ?_ (by rfl) (by kernel_rfl) (fun _ _ _ h => h) ?_ hHeld ?_; rotate_left
              · intro o ho; simp only [List.getElem?_toArray, List.getElem?_cons_succ, List.getElem?_cons_zero, Option.some.injEq] at ho; subst ho; refine ⟨by rfl, fun w hSw => ?_⟩; try dsimp only at hSw
                go_simp; try with_reducible rfl
              try simp only [Act.put, List.setIfInBounds_toArray, List.set_cons_zero, List.set_cons_succ]
              refine tk 5 (some 112) ?_ (by rfl) (by kernel_rfl) (fun _ _ _ h => h) ?_ hHeld ?_; rotate_left
              · intro o ho; simp only [List.getElem?_toArray, List.getElem?_cons_succ, List.getElem?_cons_zero, Option.some.injEq] at ho; subst ho; refine ⟨by rfl, fun w hSw => ?_⟩; try dsimp only at hSw
                go_simp; try with_reducible rfl
              try simp only [Act.put, List.setIfInBounds_toArray, List.set_cons_zero, List.set_cons_succ]
              refine tk 6 (some 113) ?_ (by rfl) (by kernel_rfl) (fun _ _ _ h => h) ?_ hHeld ?_; rotate_left
              · intro o ho; simp only [List.getElem?_toArray, List.getElem?_cons_succ, List.getElem?_cons_zero, Option.some.injEq] at ho; subst ho; refine ⟨by rfl, fun w hSw => ?_⟩; try dsimp only at hSw
                go_simp; try with_reducible rfl
              try simp only [Act.put, List.setIfInBounds_toArray, List.set_cons_zero, List.set_cons_succ]
              refine tk 7 (some 114) ?_ (by rfl) (by kernel_rfl) (fun _ _ _ h => h) ?_ hHeld ?_; rotate_left
              · intro o ho; simp only [List.getElem?_toArray, List.getElem?_cons_succ, List.getElem?_cons_zero, Option.some.injEq] at ho; subst ho; refine ⟨by rfl, fun w hSw => ?_⟩; try dsimp only at hSw
                go_simp; try with_reducible rfl
              try simp only [Act.put, List.setIfInBounds_toArray, List.set_cons_zero, List.set_cons_succ]
              refine tk 8 (some 115) ?_ (by rfl) (by kernel_rfl) (fun _ _ _ h => h) ?_ hHeld ?_; rotate_left
              · intro o ho; simp only [List.getElem?_toArray, List.getElem?_cons_succ, List.getElem?_cons_zero, Option.some.injEq] at ho; subst ho; refine ⟨by rfl, fun w hSw => ?_⟩; try dsimp only at hSw
                go_simp; try with_reducible rfl
              try simp only [Act.put, List.setIfInBounds_toArray, List.set_cons_zero, List.set_cons_succ]
              refine tk 9 (some 116) ?_ (by rfl) (by kernel_rfl) (fun _ _ _ h => h) ?_ hHeld ?_; rotate_left
              · intro o ho; simp only [List.getElem?_toArray, List.getElem?_cons_succ, List.getElem?_cons_zero, Option.some.injEq] at ho; subst ho; refine ⟨by rfl, fun w hSw => ?_⟩; try dsimp only at hSw
                go_simp; try with_reducible rfl
              try simp only [Act.put, List.setIfInBounds_toArray, List.set_cons_zero, List.set_cons_succ]
              refine tk 10 (some 117) ?_ (by rfl) (by kernel_rfl) (fun _ _ _ h => h) ?_ hHeld ?_; rotate_left
              · intro o ho; simp only [List.getElem?_toArray, List.getElem?_cons_succ, List.getElem?_cons_zero, Option.some.injEq] at ho; subst ho; refine ⟨by rfl, fun w hSw => ?_⟩; try dsimp only at hSw
                go_simp; try with_reducible rfl
              try simp only [Act.put, List.setIfInBounds_toArray, List.set_cons_zero, List.set_cons_succ]
              refine oneH 11 (by kernel_rfl) (by rfl) (fun o ho K hK => ?_)
              simp only [List.getElem?_toArray, List.getElem?_cons_succ, List.getElem?_cons_zero, Option.some.injEq] at ho
              subst ho
              go_simp
              refine (rcrash_calls _ _ _ _ _ _ _ _ _ _ _ _ _ i hi X cx (ml k) ys w3.drew (SG.out.below (Below.refl _ _).drew) ((HY.out.1.below BU.out).drewN 1) HY.out.2 BU.out.size (by omega)).mono ?_
              rintro e w4 ⟨rfl, qL4, AL4, cL4, hg4, hd4, hq4⟩
              have hB4 := BU.out.drew.trans hd4.below
              try go_wp2_with fail
              refine hK.out _ _ ?_ (fun hHeld2 => ?_)
              · exact ⟨pw_cell_below hB4 V1.out, pw_cell_below hB4 V2.out⟩
              clear hK K hHeld
              rename _ => hHeld
              try simp only [Act.put, List.setIfInBounds_toArray, List.set_cons_zero, List.set_cons_succ]
              refine tk 12 (some 10) ?_ (by rfl) (by kernel_rfl) (fun _ _ _ h => h) ?_ hHeld ?_; rotate_left
              · intro o ho; simp only [List.getElem?_toArray, List.getElem?_cons_succ, List.getElem?_cons_zero, Option.some.injEq] at ho; subst ho; refine ⟨by rfl, fun w hSw => ?_⟩; try dsimp only at hSw
                go_simp; try with_reducible rfl
              try simp only [Act.put, List.setIfInBounds_toArray, List.set_cons_zero, List.set_cons_succ]
              refine wpAnyH_done (by kernel_rfl) ?_ _
              have hf4 := (SF.out.below (Below.refl _ _).drew).did hd4 S0.out.1 (by simp) S0.out.2.1 (by simp)
              have hgr : grb nF ys ((lF ++ lL).take N) J = lF ++ rg ys lL i := by rw [HJ.out, ← HN.out.1, ← HY.out.2]; exact grb_rg nF i ys lF lL SG.out.lenF (by have := SG.out.lenL; omega)
              rw [hgr] at hf4
              obtain ⟨l2, hl2⟩ : ∃ l2, rg ys lL i = l2 := ⟨_, rfl⟩
              rw [hl2] at hf4 hg4
              have TX := Aside0.mk (show St w4 W.heap.size p qf Af N N r qF AF cF nF lF qL4 AL4 cL4 i l2 most true from
                ⟨hf4, hg4, HN.out.1, S0.out.1, S0.out.2.1, fun e => SEP3.out e, fun e => by have := hq4 _ e; have h := SF.out.lt; have : w3.drew.heap.size = w3.heap.size := rfl; omega, fun j hj => ⟨fun e => SEP5.out j hj e, fun e => by have := hq4 _ e; have h := (SF.out.row.size j hj).2; have : w3.drew.heap.size = w3.heap.size := rfl; omega⟩⟩)
              have BX := Aside0.mk hB4
              have HL := Aside0.mk (show N ≤ 100 * (k + 1) by have := HN.out.2; omega)
              clear hHeld u1' u2' hf4 hg4 hd4 hq4 hB4 hgr hl2 SG SF BU S0 hi
              obtain ⟨-, yr, -, -⟩ := TX.out.g.cells
              go_upto_region 30 with fail
              refine wp_region_held_drew (S := fun w' => w'.cell? ⟨r, 1, none⟩ = some (.slice AF nF cF)) (by kernel_rfl) ?_ (fun hHeld => ?_)
              · exact yr
              refine tk 0 (some 128) ?_ (by rfl) (by kernel_rfl) (fun _ _ _ h => h) ?_ hHeld ?_; rotate_left
              · intro o ho; simp only [List.getElem?_toArray, List.getElem?_cons_zero, Option.some.injEq] at ho; subst ho; refine ⟨by rfl, fun w hSw => ?_⟩; try dsimp only at hSw
                go_simp; try with_reducible rfl
              try simp only [Act.put, List.setIfInBounds_toArray, List.set_cons_zero, List.set_cons_succ]
              refine tk 1 (some 129) ?_ (by rfl) (by kernel_rfl) (fun _ _ _ h => h) ?_ hHeld ?_; rotate_left
              · intro o ho; simp only [List.getElem?_toArray, List.getElem?_cons_succ, List.getElem?_cons_zero, Option.some.injEq] at ho; subst ho; refine ⟨by rfl, fun w hSw => ?_⟩; try dsimp only at hSw
                go_simp; try with_reducible rfl
              try simp only [Act.put, List.setIfInBounds_toArray, List.set_cons_zero, List.set_cons_succ]
              refine tk 2 (some 130) ?_ (by rfl) (by kernel_rfl) (fun _ _ _ h => h) ?_ hHeld ?_; rotate_left
              · intro o ho; simp only [List.getElem?_toArray, List.getElem?_cons_succ, List.getElem?_cons_zero, Option.some.injEq] at ho; subst ho; refine ⟨by rfl, fun w hSw => ?_⟩; try dsimp only at hSw
                go_simp; try with_reducible rfl
              try simp only [Act.put, List.setIfInBounds_toArray, List.set_cons_zero, List.set_cons_succ]
              refine tk 3 (some 131) ?_ (by rfl) (by kernel_rfl) (fun _ _ _ h => h) ?_ hHeld ?_; rotate_left
              · intro o ho; simp only [List.getElem?_toArray, List.getElem?_cons_succ, List.getElem?_cons_zero, Option.some.injEq] at ho; subst ho; refine ⟨by rfl, fun w hSw => ?_⟩; try dsimp only at hSw
                go_simp; try with_reducible rfl
              try simp only [Act.put, List.setIfInBounds_toArray, List.set_cons_zero, List.set_cons_succ]
              refine tk 4 (some 132) ?_ (by rfl) (by kernel_rfl) (fun _ _ _ h => h) ?_ hHeld ?_; rotate_left
              · intro o ho; simp only [List.getElem?_toArray, List.getElem?_cons_succ, List.getElem?_cons_zero, Option.some.injEq] at ho; subst ho; refine ⟨by rfl, fun w hSw => ?_⟩; try dsimp only at hSw
                go_simp; try with_reducible rfl
              try simp only [Act.put, List.setIfInBounds_toArray, List.set_cons_zero, List.set_cons_succ]
              refine tk 5 (some 133) ?_ (by rfl) (by kernel_rfl) (fun _ _ _ h => h) ?_ hHeld ?_; rotate_left
              · intro o ho; simp only [List.getElem?_toArray, List.getElem?_cons_succ, List.getElem?_cons_zero, Option.some.injEq] at ho; subst ho; refine ⟨by rfl, fun w hSw => ?_⟩; try dsimp only at hSw
                go_simp; try with_reducible rfl
              try simp only [Act.put, List.setIfInBounds_toArray, List.set_cons_zero, List.set_cons_succ]
              refine tk 6 (some 134) ?_ (by rfl) (by kernel_rfl) (fun _ _ _ h => h) ?_ hHeld ?_; rotate_left
              · intro o ho; simp only [List.getElem?_toArray, List.getElem?_cons_succ, List.getElem?_cons_zero, Option.some.injEq] at ho; subst ho; refine ⟨by rfl, fun w hSw => ?_⟩; try dsimp only at hSw
                go_simp; try with_reducible rfl
              try simp only [Act.put, List.setIfInBounds_toArray, List.set_cons_zero, List.set_cons_succ]
              refine tk 7 (some 135) ?_ (by rfl) (by kernel_rfl) (fun _ _ _ h => h) ?_ hHeld ?_; rotate_left
              · intro o ho; simp only [List.getElem?_toArray, List.getElem?_cons_succ, List.getElem?_cons_zero, Option.some.injEq] at ho; subst ho; refine ⟨by rfl, fun w hSw => ?_⟩; try dsimp only at hSw
                go_simp; try with_reducible rfl
              try simp only [Act.put, List.setIfInBounds_toArray, List.set_cons_zero, List.set_cons_succ]
              refine tk 8 (some 136) ?_ (by rfl) (by kernel_rfl) (fun _ _ _ h => h) ?_ hHeld ?_; rotate_left
              · intro o ho; simp only [List.getElem?_toArray, List.getElem?_cons_succ, List.getElem?_cons_zero, Option.some.injEq] at ho; subst ho; refine ⟨by rfl, fun w hSw => ?_⟩; try dsimp only at hSw
                go_simp; try with_reducible rfl
              try simp only [Act.put, List.setIfInBounds_toArray, List.set_cons_zero, List.set_cons_succ]
              refine tk 10 (some 138) ?_ (by rfl) (by kernel_rfl) (fun _ _ _ h => h) ?_ hHeld ?_; rotate_left
              · intro o ho; simp only [List.getElem?_toArray, List.getElem?_cons_succ, List.getElem?_cons_zero, Option.some.injEq] at ho; subst ho; refine ⟨by rfl, fun w hSw => ?_⟩; try dsimp only at hSw
                go_simp; try with_reducible rfl
              try simp only [Act.put, List.setIfInBounds_toArray, List.set_cons_zero, List.set_cons_succ]
              refine oneH 9 (by kernel_rfl) (by rfl) (fun o ho K hK => ?_)
              simp only [List.getElem?_toArray, List.getElem?_cons_succ, List.getElem?_cons_zero, Option.some.injEq] at ho
              subst ho
              go_simp
              refine (bytes_calls _ _ _ _ (lF ++ l2) TX.out.f.len (by have := HL.out; omega) _ (by exact TX.out.f.cells.1) (by exact TX.out.f.bs.drewN 1)).mono ?_
              rintro e x1 ⟨A1', c1', q1', rfl, r1', b1''⟩
              have b1' := nodrew b1''
              try go_wp2_with fail
              refine hK.out _ _ ?_ (fun hHeld2 => ?_)
              · exact cb b1' yr
              clear hK K hHeld
              rename _ => hHeld
              try simp only [Act.put, List.setIfInBounds_toArray, List.set_cons_zero, List.set_cons_succ]
              refine oneH 11 (by kernel_rfl) (by rfl) (fun o ho K hK => ?_)
              simp only [List.getElem?_toArray, List.getElem?_cons_succ, List.getElem?_cons_zero, Option.some.injEq] at ho
              subst ho
              go_simp
              refine (all_calls _ _ _ _ _ _ _ _ _ _ _ _ _ _ N TX.out.n (by have := HL.out; omega) x1 (TX.out.g.below b1')).mono ?_
              rintro e x2 ⟨A2', c2', q2', rfl, r2', b2''⟩
              have b2' := below_step b1' b2''
              try go_wp2_with fail
              refine hK.out _ _ ?_ (fun hHeld2 => ?_)
              · exact cb b2' yr
              clear hK K hHeld
              rename _ => hHeld
              try simp only [Act.put, List.setIfInBounds_toArray, List.set_cons_zero, List.set_cons_succ]
              refine oneH 12 (by kernel_rfl) (by rfl) (fun o ho K hK => ?_)
              simp only [List.getElem?_toArray, List.getElem?_cons_succ, List.getElem?_cons_zero, Option.some.injEq] at ho
              subst ho
              go_simp
              refine (same_calls _ _ N (lF ++ l2) TX.out.f.len _ _ N (lF ++ l2) TX.out.f.len x2 (r1'.below b2'').bs r2'.bs).mono ?_
              rintro e x3 ⟨rfl, hd⟩
              have dd : decide ((lF ++ l2) = (lF ++ l2)) = true := by simp
              rw [dd]
              have b3' := below_step b2' (same_below hd)
              try go_wp2_with fail
              refine hK.out _ _ ?_ (fun hHeld2 => ?_)
              · exact cb b3' yr
              clear hK K hHeld
              rename _ => hHeld
              try simp only [Act.put, List.setIfInBounds_toArray, List.set_cons_zero, List.set_cons_succ]
              refine tk 13 (some 141) ?_ (by rfl) (by kernel_rfl) (fun _ _ _ h => h) ?_ hHeld ?_; rotate_left
              · intro o ho; simp only [List.getElem?_toArray, List.getElem?_cons_succ, List.getElem?_cons_zero, Option.some.injEq] at ho; subst ho; refine ⟨by rfl, fun w hSw => ?_⟩; try dsimp only at hSw
                go_simp; try with_reducible rfl
              try simp only [Act.put, List.setIfInBounds_toArray, List.set_cons_zero, List.set_cons_succ]
              refine tk 14 (some 142) ?_ (by rfl) (by kernel_rfl) (fun _ _ _ h => h) ?_ hHeld ?_; rotate_left
              · intro o ho; simp only [List.getElem?_toArray, List.getElem?_cons_succ, List.getElem?_cons_zero, Option.some.injEq] at ho; subst ho; refine ⟨by rfl, fun w hSw => ?_⟩; try dsimp only at hSw
                go_simp; try with_reducible rfl
              try simp only [Act.put, List.setIfInBounds_toArray, List.set_cons_zero, List.set_cons_succ]
              refine tk 15 (some 143) ?_ (by rfl) (by kernel_rfl) (fun _ _ _ h => h) ?_ hHeld ?_; rotate_left
              · intro o ho; simp only [List.getElem?_toArray, List.getElem?_cons_succ, List.getElem?_cons_zero, Option.some.injEq] at ho; subst ho; refine ⟨by rfl, fun w hSw => ?_⟩; try dsimp only at hSw
                go_simp; try with_reducible rfl
              try simp only [Act.put, List.setIfInBounds_toArray, List.set_cons_zero, List.set_cons_succ]
              refine tk 16 (some 144) ?_ (by rfl) (by kernel_rfl) (fun _ _ _ h => h) ?_ hHeld ?_; rotate_left
              · intro o ho; simp only [List.getElem?_toArray, List.getElem?_cons_succ, List.getElem?_cons_zero, Option.some.injEq] at ho; subst ho; refine ⟨by rfl, fun w hSw => ?_⟩; try dsimp only at hSw
                go_simp; try with_reducible rfl
              try simp only [Act.put, List.setIfInBounds_toArray, List.set_cons_zero, List.set_cons_succ]
              refine tk 18 (some 146) ?_ (by rfl) (by kernel_rfl) (fun _ _ _ h => h) ?_ hHeld ?_; rotate_left
              · intro o ho; simp only [List.getElem?_toArray, List.getElem?_cons_succ, List.getElem?_cons_zero, Option.some.injEq] at ho; subst ho; refine ⟨by rfl, fun w hSw => ?_⟩; try dsimp only at hSw
                go_simp; try with_reducible rfl
              try simp only [Act.put, List.setIfInBounds_toArray, List.set_cons_zero, List.set_cons_succ]
              refine oneH 17 (by kernel_rfl) (by rfl) (fun o ho K hK => ?_)
              simp only [List.getElem?_toArray, List.getElem?_cons_succ, List.getElem?_cons_zero, Option.some.injEq] at ho
              subst ho
              go_simp
              refine (len_calls _ _ _ _ x3 (TX.out.f.below b3').cells.1).mono ?_
              rintro e x4 ⟨rfl, rfl⟩
              try go_wp2_with fail
              refine hK.out _ _ ?_ (fun hHeld2 => ?_)
              · exact hHeld
              clear hK K hHeld
              rename _ => hHeld
              try simp only [Act.put, List.setIfInBounds_toArray, List.set_cons_zero, List.set_cons_succ]
              refine oneH 19 (by kernel_rfl) (by rfl) (fun o ho K hK => ?_)
              simp only [List.getElem?_toArray, List.getElem?_cons_succ, List.getElem?_cons_zero, Option.some.injEq] at ho
              subst ho
              go_simp
              refine (all_calls _ _ _ _ _ _ _ _ _ _ _ _ _ _ N TX.out.n (by have := HL.out; omega) x3 (TX.out.g.below b3')).mono ?_
              rintro e x5 ⟨A5', c5', q5', rfl, r5', b5''⟩
              have b5' := below_step b3' b5''
              try go_wp2_with fail
              refine hK.out _ _ ?_ (fun hHeld2 => ?_)
              · exact cb b5' yr
              clear hK K hHeld
              rename _ => hHeld
              try simp only [Act.put, List.setIfInBounds_toArray, List.set_cons_zero, List.set_cons_succ]
              refine tk 20 (some 148) ?_ (by rfl) (by kernel_rfl) (fun _ _ _ h => h) ?_ hHeld ?_; rotate_left
              · intro o ho; simp only [List.getElem?_toArray, List.getElem?_cons_succ, List.getElem?_cons_zero, Option.some.injEq] at ho; subst ho; refine ⟨by rfl, fun w hSw => ?_⟩; try dsimp only at hSw
                go_simp; try with_reducible rfl
              try simp only [Act.put, List.setIfInBounds_toArray, List.set_cons_zero, List.set_cons_succ]
              refine tk 21 (some 149) ?_ (by rfl) (by kernel_rfl) (fun _ _ _ h => h) ?_ hHeld ?_; rotate_left
              · intro o ho; simp only [List.getElem?_toArray, List.getElem?_cons_succ, List.getElem?_cons_zero, Option.some.injEq] at ho; subst ho; refine ⟨by rfl, fun w hSw => ?_⟩; try dsimp only at hSw
                go_simp; try with_reducible rfl
              try simp only [Act.put, List.setIfInBounds_toArray, List.set_cons_zero, List.set_cons_succ]
              refine tk 22 (some 150) ?_ (by rfl) (by kernel_rfl) (fun _ _ _ h => h) ?_ hHeld ?_; rotate_left
              · intro o ho; simp only [List.getElem?_toArray, List.getElem?_cons_succ, List.getElem?_cons_zero, Option.some.injEq] at ho; subst ho; refine ⟨by rfl, fun w hSw => ?_⟩; try dsimp only at hSw
                go_simp; try with_reducible rfl
              try simp only [Act.put, List.setIfInBounds_toArray, List.set_cons_zero, List.set_cons_succ]
              refine tk 23 (some 151) ?_ (by rfl) (by kernel_rfl) (fun _ _ _ h => h) ?_ hHeld ?_; rotate_left
              · intro o ho; simp only [List.getElem?_toArray, List.getElem?_cons_succ, List.getElem?_cons_zero, Option.some.injEq] at ho; subst ho; refine ⟨by rfl, fun w hSw => ?_⟩; try dsimp only at hSw
                go_simp; try with_reducible rfl
              try simp only [Act.put, List.setIfInBounds_toArray, List.set_cons_zero, List.set_cons_succ]
              refine tk 24 (some 152) ?_ (by rfl) (by kernel_rfl) (fun _ _ _ h => h) ?_ hHeld ?_; rotate_left
              · intro o ho; simp only [List.getElem?_toArray, List.getElem?_cons_succ, List.getElem?_cons_zero, Option.some.injEq] at ho; subst ho; refine ⟨by rfl, fun w hSw => ?_⟩; try dsimp only at hSw
                go_simp; try with_reducible rfl
              try simp only [Act.put, List.setIfInBounds_toArray, List.set_cons_zero, List.set_cons_succ]
              refine tk 26 (some 154) ?_ (by rfl) (by kernel_rfl) (fun _ _ _ h => h) ?_ hHeld ?_; rotate_left
              · intro o ho; simp only [List.getElem?_toArray, List.getElem?_cons_succ, List.getElem?_cons_zero, Option.some.injEq] at ho; subst ho; refine ⟨by rfl, fun w hSw => ?_⟩; try dsimp only at hSw
                go_simp; try with_reducible rfl
              try simp only [Act.put, List.setIfInBounds_toArray, List.set_cons_zero, List.set_cons_succ]
              refine tk 27 (some 155) ?_ (by rfl) (by kernel_rfl) (fun _ _ _ h => h) ?_ hHeld ?_; rotate_left
              · intro o ho; simp only [List.getElem?_toArray, List.getElem?_cons_succ, List.getElem?_cons_zero, Option.some.injEq] at ho; subst ho; refine ⟨by rfl, fun w hSw => ?_⟩; try dsimp only at hSw
                go_simp; try with_reducible rfl
              try simp only [Act.put, List.setIfInBounds_toArray, List.set_cons_zero, List.set_cons_succ]
              refine tk 28 (some 156) ?_ (by rfl) (by kernel_rfl) (fun _ _ _ h => h) ?_ hHeld ?_; rotate_left
              · intro o ho; simp only [List.getElem?_toArray, List.getElem?_cons_succ, List.getElem?_cons_zero, Option.some.injEq] at ho; subst ho; refine ⟨by rfl, fun w hSw => ?_⟩; try dsimp only at hSw
                go_simp; try with_reducible rfl
              try simp only [Act.put, List.setIfInBounds_toArray, List.set_cons_zero, List.set_cons_succ]
              refine tk 29 (some 157) ?_ (by rfl) (by kernel_rfl) (fun _ _ _ h => h) ?_ hHeld ?_; rotate_left
              · intro o ho; simp only [List.getElem?_toArray, List.getElem?_cons_succ, List.getElem?_cons_zero, Option.some.injEq] at ho; subst ho; refine ⟨by rfl, fun w hSw => ?_⟩; try dsimp only at hSw
                go_simp; try with_reducible rfl
              try simp only [Act.put, List.setIfInBounds_toArray, List.set_cons_zero, List.set_cons_succ]
              refine tk 30 (some 158) ?_ (by rfl) (by kernel_rfl) (fun _ _ _ h => h) ?_ hHeld ?_; rotate_left
              · intro o ho; simp only [List.getElem?_toArray, List.getElem?_cons_succ, List.getElem?_cons_zero, Option.some.injEq] at ho; subst ho; refine ⟨by rfl, fun w hSw => ?_⟩; try dsimp only at hSw
                go_simp; try with_reducible rfl
              try simp only [Act.put, List.setIfInBounds_toArray, List.set_cons_zero, List.set_cons_succ]
              refine oneH 25 (by kernel_rfl) (by rfl) (fun o ho K hK => ?_)
              simp only [List.getElem?_toArray, List.getElem?_cons_succ, List.getElem?_cons_zero, Option.some.injEq] at ho
              subst ho
              go_simp
              refine (sure_calls _ _ x5 (TX.out.f.below b5').cells.2.1).mono ?_
              rintro e x6 ⟨rfl, rfl⟩
              try go_wp2_with fail
              refine hK.out _ _ ?_ (fun hHeld2 => ?_)
              · exact hHeld
              clear hK K hHeld
              rename _ => hHeld
              try simp only [Act.put, List.setIfInBounds_toArray, List.set_cons_zero, List.set_cons_succ]
              refine tk 31 (some 159) ?_ (by rfl) (by kernel_rfl) (fun _ _ _ h => h) ?_ hHeld ?_; rotate_left
              · intro o ho; simp only [List.getElem?_toArray, List.getElem?_cons_succ, List.getElem?_cons_zero, Option.some.injEq] at ho; subst ho; refine ⟨by rfl, fun w hSw => ?_⟩; try dsimp only at hSw
                go_simp; try with_reducible rfl
              try simp only [Act.put, List.setIfInBounds_toArray, List.set_cons_zero, List.set_cons_succ]
              refine tk 32 (some 160) ?_ (by rfl) (by kernel_rfl) (fun _ _ _ h => h) ?_ hHeld ?_; rotate_left
              · intro o ho; simp only [List.getElem?_toArray, List.getElem?_cons_succ, List.getElem?_cons_zero, Option.some.injEq] at ho; subst ho; refine ⟨by rfl, fun w hSw => ?_⟩; try dsimp only at hSw
                go_simp; try with_reducible rfl
              try simp only [Act.put, List.setIfInBounds_toArray, List.set_cons_zero, List.set_cons_succ]
              refine wpAnyH_done (by kernel_rfl) ?_ _
              have TY := Aside0.mk (TX.out.below b5')
              have BY := Aside0.mk (BX.out.trans (b5'.mono BX.out.size))
              clear hHeld b1' b2' b3' b5' b1'' b2'' b5'' r1' r2' r5' hd dd yr TX BX
              go_wp2_with fail
              go_roundw
              case rel => exact ⟨k + 1, by omega, by go_num, ⟨p, qf, Af, N, N, r, qF, AF, cF, nF, lF, qL4, AL4, cL4, i, l2, true, rfl, rfl, TY.out, HL.out⟩, BY.out⟩
              case measure => simp [intOf]; omega
        · as_aux_lemma =>
            go_wp2_with fail
            refine wp_region_held_drew (S := fun w' => w'.cell? ⟨(a.add (k * 3)).block, (a.add (k * 3)).off + 1, none⟩ = some (.int .i64 j) ∧ w'.cell? ⟨(a.add (k * 3)).block, (a.add (k * 3)).off + 2, none⟩ = some (.slice X (ml k) cx)) (by kernel_rfl) ?_ (fun hHeld => ?_)
            · exact ⟨z1, z2⟩
            refine tk 0 (some 95) ?_ (by rfl) (by kernel_rfl) (fun _ _ _ h => h) ?_ hHeld ?_; rotate_left
            · intro o ho; simp only [List.getElem?_toArray, List.getElem?_cons_zero, Option.some.injEq] at ho; subst ho; refine ⟨by rfl, fun w hSw => ?_⟩; try dsimp only at hSw
              go_simp; try with_reducible rfl
            try simp only [Act.put, List.setIfInBounds_toArray, List.set_cons_zero, List.set_cons_succ]
            refine tk 1 (some 96) ?_ (by rfl) (by kernel_rfl) (fun _ _ _ h => h) ?_ hHeld ?_; rotate_left
            · intro o ho; simp only [List.getElem?_toArray, List.getElem?_cons_succ, List.getElem?_cons_zero, Option.some.injEq] at ho; subst ho; refine ⟨by rfl, fun w hSw => ?_⟩; try dsimp only at hSw
              go_simp; try with_reducible rfl
            try simp only [Act.put, List.setIfInBounds_toArray, List.set_cons_zero, List.set_cons_succ]
            refine tk 2 (some 97) ?_ (by rfl) (by kernel_rfl) (fun _ _ _ h => h) ?_ hHeld ?_; rotate_left
            · intro o ho; simp only [List.getElem?_toArray, List.getElem?_cons_succ, List.getElem?_cons_zero, Option.some.injEq] at ho; subst ho; refine ⟨by rfl, fun w hSw => ?_⟩; try dsimp only at hSw
              go_simp; try with_reducible rfl
            try simp only [Act.put, List.setIfInBounds_toArray, List.set_cons_zero, List.set_cons_succ]
            refine tk 3 (some 98) ?_ (by rfl) (by kernel_rfl) (fun _ _ _ h => h) ?_ hHeld ?_; rotate_left
            · intro o ho; simp only [List.getElem?_toArray, List.getElem?_cons_succ, List.getElem?_cons_zero, Option.some.injEq] at ho; subst ho; refine ⟨by rfl, fun w hSw => ?_⟩; try dsimp only at hSw
              go_simp; try with_reducible rfl
            try simp only [Act.put, List.setIfInBounds_toArray, List.set_cons_zero, List.set_cons_succ]
            refine tk 4 (some 99) ?_ (by rfl) (by kernel_rfl) (fun _ _ _ h => h) ?_ hHeld ?_; rotate_left
            · intro o ho; simp only [List.getElem?_toArray, List.getElem?_cons_succ, List.getElem?_cons_zero, Option.some.injEq] at ho; subst ho; refine ⟨by rfl, fun w hSw => ?_⟩; try dsimp only at hSw
              go_simp; try with_reducible rfl
            try simp only [Act.put, List.setIfInBounds_toArray, List.set_cons_zero, List.set_cons_succ]
            refine tk 5 (some 100) ?_ (by rfl) (by kernel_rfl) (fun _ _ _ h => h) ?_ hHeld ?_; rotate_left
            · intro o ho; simp only [List.getElem?_toArray, List.getElem?_cons_succ, List.getElem?_cons_zero, Option.some.injEq] at ho; subst ho; refine ⟨by rfl, fun w hSw => ?_⟩; try dsimp only at hSw
              go_simp; try with_reducible rfl
            try simp only [Act.put, List.setIfInBounds_toArray, List.set_cons_zero, List.set_cons_succ]
            refine tk 6 (some 101) ?_ (by rfl) (by kernel_rfl) (fun _ _ _ h => h) ?_ hHeld ?_; rotate_left
            · intro o ho; simp only [List.getElem?_toArray, List.getElem?_cons_succ, List.getElem?_cons_zero, Option.some.injEq] at ho; subst ho; refine ⟨by rfl, fun w hSw => ?_⟩; try dsimp only at hSw
              go_simp; try with_reducible rfl
            try simp only [Act.put, List.setIfInBounds_toArray, List.set_cons_zero, List.set_cons_succ]
            refine tk 7 (some 102) ?_ (by rfl) (by kernel_rfl) (fun _ _ _ h => h) ?_ hHeld ?_; rotate_left
            · intro o ho; simp only [List.getElem?_toArray, List.getElem?_cons_succ, List.getElem?_cons_zero, Option.some.injEq] at ho; subst ho; refine ⟨by rfl, fun w hSw => ?_⟩; try dsimp only at hSw
              go_simp; try with_reducible rfl
            try simp only [Act.put, List.setIfInBounds_toArray, List.set_cons_zero, List.set_cons_succ]
            refine tk 8 (some 103) ?_ (by rfl) (by kernel_rfl) (fun _ _ _ h => h) ?_ hHeld ?_; rotate_left
            · intro o ho; simp only [List.getElem?_toArray, List.getElem?_cons_succ, List.getElem?_cons_zero, Option.some.injEq] at ho; subst ho; refine ⟨by rfl, fun w hSw => ?_⟩; try dsimp only at hSw
              go_simp; try with_reducible rfl
            try simp only [Act.put, List.setIfInBounds_toArray, List.set_cons_zero, List.set_cons_succ]
            refine tk 9 (some 104) ?_ (by rfl) (by kernel_rfl) (fun _ _ _ h => h) ?_ hHeld ?_; rotate_left
            · intro o ho; simp only [List.getElem?_toArray, List.getElem?_cons_succ, List.getElem?_cons_zero, Option.some.injEq] at ho; subst ho; refine ⟨by rfl, fun w hSw => ?_⟩; try dsimp only at hSw
              go_simp; try with_reducible rfl
            try simp only [Act.put, List.setIfInBounds_toArray, List.set_cons_zero, List.set_cons_succ]
            refine tk 10 (some 105) ?_ (by rfl) (by kernel_rfl) (fun _ _ _ h => h) ?_ hHeld ?_; rotate_left
            · intro o ho; simp only [List.getElem?_toArray, List.getElem?_cons_succ, List.getElem?_cons_zero, Option.some.injEq] at ho; subst ho; refine ⟨by rfl, fun w hSw => ?_⟩; try dsimp only at hSw
              go_simp; try with_reducible rfl
            try simp only [Act.put, List.setIfInBounds_toArray, List.set_cons_zero, List.set_cons_succ]
            refine oneH 11 (by kernel_rfl) (by rfl) (fun o ho K hK => ?_)
            simp only [List.getElem?_toArray, List.getElem?_cons_succ, List.getElem?_cons_zero, Option.some.injEq] at ho
            subst ho
            go_simp
            refine (crash_crashed _ _ _ _ _ _ _ _ _ _ _ _ _ wr.drew (ST.out.f.below (Below.refl _ _).drew)).mono ?_
            rintro e x0 ⟨rfl, rfl⟩
            try go_wp2_with fail
            refine hK.out _ _ ?_ (fun hHeld2 => ?_)
            · exact hHeld
            clear hK K hHeld
            rename _ => hHeld
            try simp only [Act.put, List.setIfInBounds_toArray, List.set_cons_zero, List.set_cons_succ]
            refine tk 12 (some 9) ?_ (by rfl) (by kernel_rfl) (fun _ _ _ h => h) ?_ hHeld ?_; rotate_left
            · intro o ho; simp only [List.getElem?_toArray, List.getElem?_cons_succ, List.getElem?_cons_zero, Option.some.injEq] at ho; subst ho; refine ⟨by rfl, fun w hSw => ?_⟩; try dsimp only at hSw
              go_simp; try with_reducible rfl
            try simp only [Act.put, List.setIfInBounds_toArray, List.set_cons_zero, List.set_cons_succ]
            refine wpAnyH_done (by kernel_rfl) ?_ _
            go_wp2_with fail
            obtain ⟨u1, hu1⟩ : ∃ u1, wr.drew = u1 := ⟨_, rfl⟩
            have SU := Aside0.mk (show St u1 W.heap.size p qf Af cf nn r qF AF cF nF lF qL AL cL nL lL most true from hu1 ▸ ST.out.below (Below.refl _ _).drew)
            have BU := Aside0.mk (show Below W.heap.size W u1 from hu1 ▸ HB.out.drew)
            rw [hu1] at hHeld ⊢
            clear hu1 ST HB z0 z1 z2
            obtain ⟨u1', u2'⟩ := hHeld
            refine wp_region_held_drew (S := fun w' => w'.cell? ⟨(a.add (k * 3)).block, (a.add (k * 3)).off + 1, none⟩ = some (.int .i64 j) ∧ w'.cell? ⟨(a.add (k * 3)).block, (a.add (k * 3)).off + 2, none⟩ = some (.slice X (ml k) cx)) (by kernel_rfl) ?_ (fun hHeld => ?_)
            · exact ⟨u1', u2'⟩
            refine tk 0 (some 107) ?_ (by rfl) (by kernel_rfl) (fun _ _ _ h => h) ?_ hHeld ?_; rotate_left
            · intro o ho; simp only [List.getElem?_toArray, List.getElem?_cons_zero, Option.some.injEq] at ho; subst ho; refine ⟨by rfl, fun w hSw => ?_⟩; try dsimp only at hSw
              go_simp; try with_reducible rfl
            try simp only [Act.put, List.setIfInBounds_toArray, List.set_cons_zero, List.set_cons_succ]
            refine tk 1 (some 108) ?_ (by rfl) (by kernel_rfl) (fun _ _ _ h => h) ?_ hHeld ?_; rotate_left
            · intro o ho; simp only [List.getElem?_toArray, List.getElem?_cons_succ, List.getElem?_cons_zero, Option.some.injEq] at ho; subst ho; refine ⟨by rfl, fun w hSw => ?_⟩; try dsimp only at hSw
              go_simp; try with_reducible rfl
            try simp only [Act.put, List.setIfInBounds_toArray, List.set_cons_zero, List.set_cons_succ]
            refine tk 2 (some 109) ?_ (by rfl) (by kernel_rfl) (fun _ _ _ h => h) ?_ hHeld ?_; rotate_left
            · intro o ho; simp only [List.getElem?_toArray, List.getElem?_cons_succ, List.getElem?_cons_zero, Option.some.injEq] at ho; subst ho; refine ⟨by rfl, fun w hSw => ?_⟩; try dsimp only at hSw
              go_simp; try with_reducible rfl
            try simp only [Act.put, List.setIfInBounds_toArray, List.set_cons_zero, List.set_cons_succ]
            refine tk 3 (some 110) ?_ (by rfl) (by kernel_rfl) (fun _ _ _ h => h) ?_ hHeld ?_; rotate_left
            · intro o ho; simp only [List.getElem?_toArray, List.getElem?_cons_succ, List.getElem?_cons_zero, Option.some.injEq] at ho; subst ho; refine ⟨by rfl, fun w hSw => ?_⟩; try dsimp only at hSw
              go_simp; try with_reducible rfl
            try simp only [Act.put, List.setIfInBounds_toArray, List.set_cons_zero, List.set_cons_succ]
            refine tk 4 (some 111) ?_ (by rfl) (by kernel_rfl) (fun _ _ _ h => h) ?_ hHeld ?_; rotate_left
            · intro o ho; simp only [List.getElem?_toArray, List.getElem?_cons_succ, List.getElem?_cons_zero, Option.some.injEq] at ho; subst ho; refine ⟨by rfl, fun w hSw => ?_⟩; try dsimp only at hSw
              go_simp; try with_reducible rfl
            try simp only [Act.put, List.setIfInBounds_toArray, List.set_cons_zero, List.set_cons_succ]
            refine tk 5 (some 112) ?_ (by rfl) (by kernel_rfl) (fun _ _ _ h => h) ?_ hHeld ?_; rotate_left
            · intro o ho; simp only [List.getElem?_toArray, List.getElem?_cons_succ, List.getElem?_cons_zero, Option.some.injEq] at ho; subst ho; refine ⟨by rfl, fun w hSw => ?_⟩; try dsimp only at hSw
              go_simp; try with_reducible rfl
            try simp only [Act.put, List.setIfInBounds_toArray, List.set_cons_zero, List.set_cons_succ]
            refine tk 6 (some 113) ?_ (by rfl) (by kernel_rfl) (fun _ _ _ h => h) ?_ hHeld ?_; rotate_left
            · intro o ho; simp only [List.getElem?_toArray, List.getElem?_cons_succ, List.getElem?_cons_zero, Option.some.injEq] at ho; subst ho; refine ⟨by rfl, fun w hSw => ?_⟩; try dsimp only at hSw
              go_simp; try with_reducible rfl
            try simp only [Act.put, List.setIfInBounds_toArray, List.set_cons_zero, List.set_cons_succ]
            refine tk 7 (some 114) ?_ (by rfl) (by kernel_rfl) (fun _ _ _ h => h) ?_ hHeld ?_; rotate_left
            · intro o ho; simp only [List.getElem?_toArray, List.getElem?_cons_succ, List.getElem?_cons_zero, Option.some.injEq] at ho; subst ho; refine ⟨by rfl, fun w hSw => ?_⟩; try dsimp only at hSw
              go_simp; try with_reducible rfl
            try simp only [Act.put, List.setIfInBounds_toArray, List.set_cons_zero, List.set_cons_succ]
            refine tk 8 (some 115) ?_ (by rfl) (by kernel_rfl) (fun _ _ _ h => h) ?_ hHeld ?_; rotate_left
            · intro o ho; simp only [List.getElem?_toArray, List.getElem?_cons_succ, List.getElem?_cons_zero, Option.some.injEq] at ho; subst ho; refine ⟨by rfl, fun w hSw => ?_⟩; try dsimp only at hSw
              go_simp; try with_reducible rfl
            try simp only [Act.put, List.setIfInBounds_toArray, List.set_cons_zero, List.set_cons_succ]
            refine tk 9 (some 116) ?_ (by rfl) (by kernel_rfl) (fun _ _ _ h => h) ?_ hHeld ?_; rotate_left
            · intro o ho; simp only [List.getElem?_toArray, List.getElem?_cons_succ, List.getElem?_cons_zero, Option.some.injEq] at ho; subst ho; refine ⟨by rfl, fun w hSw => ?_⟩; try dsimp only at hSw
              go_simp; try with_reducible rfl
            try simp only [Act.put, List.setIfInBounds_toArray, List.set_cons_zero, List.set_cons_succ]
            refine tk 10 (some 117) ?_ (by rfl) (by kernel_rfl) (fun _ _ _ h => h) ?_ hHeld ?_; rotate_left
            · intro o ho; simp only [List.getElem?_toArray, List.getElem?_cons_succ, List.getElem?_cons_zero, Option.some.injEq] at ho; subst ho; refine ⟨by rfl, fun w hSw => ?_⟩; try dsimp only at hSw
              go_simp; try with_reducible rfl
            try simp only [Act.put, List.setIfInBounds_toArray, List.set_cons_zero, List.set_cons_succ]
            refine oneH 11 (by kernel_rfl) (by rfl) (fun o ho K hK => ?_)
            simp only [List.getElem?_toArray, List.getElem?_cons_succ, List.getElem?_cons_zero, Option.some.injEq] at ho
            subst ho
            go_simp
            refine (rcrash_crashed _ _ _ _ _ _ _ _ _ _ _ _ _ _ _ _ _ u1.drew (SU.out.g.below (Below.refl _ _).drew)).mono ?_
            rintro e x0 ⟨rfl, rfl⟩
            try go_wp2_with fail
            refine hK.out _ _ ?_ (fun hHeld2 => ?_)
            · exact hHeld
            clear hK K hHeld
            rename _ => hHeld
            try simp only [Act.put, List.setIfInBounds_toArray, List.set_cons_zero, List.set_cons_succ]
            refine tk 12 (some 10) ?_ (by rfl) (by kernel_rfl) (fun _ _ _ h => h) ?_ hHeld ?_; rotate_left
            · intro o ho; simp only [List.getElem?_toArray, List.getElem?_cons_succ, List.getElem?_cons_zero, Option.some.injEq] at ho; subst ho; refine ⟨by rfl, fun w hSw => ?_⟩; try dsimp only at hSw
              go_simp; try with_reducible rfl
            try simp only [Act.put, List.setIfInBounds_toArray, List.set_cons_zero, List.set_cons_succ]
            refine wpAnyH_done (by kernel_rfl) ?_ _
            have TX' := Aside0.mk (SU.out.below (Below.refl _ _).drew)
            have BX' := Aside0.mk (BU.out.drew)
            obtain ⟨u2, hu2⟩ : ∃ u2, u1.drew = u2 := ⟨_, rfl⟩
            rw [hu2] at TX' BX' ⊢
            have TX := TX'
            have BX := BX'
            have HL := Aside0.mk (show nn ≤ 100 * (k + 1) by omega)
            clear hHeld hu2 u1' u2' SU BU TX' BX'
            obtain ⟨-, yr, -, -⟩ := TX.out.g.cells
            go_upto_region 30 with fail
            refine wp_region_held_drew (S := fun w' => w'.cell? ⟨r, 1, none⟩ = some (.slice AF nF cF)) (by kernel_rfl) ?_ (fun hHeld => ?_)
            · exact yr
            refine tk 0 (some 128) ?_ (by rfl) (by kernel_rfl) (fun _ _ _ h => h) ?_ hHeld ?_; rotate_left
            · intro o ho; simp only [List.getElem?_toArray, List.getElem?_cons_zero, Option.some.injEq] at ho; subst ho; refine ⟨by rfl, fun w hSw => ?_⟩; try dsimp only at hSw
              go_simp; try with_reducible rfl
            try simp only [Act.put, List.setIfInBounds_toArray, List.set_cons_zero, List.set_cons_succ]
            refine tk 1 (some 129) ?_ (by rfl) (by kernel_rfl) (fun _ _ _ h => h) ?_ hHeld ?_; rotate_left
            · intro o ho; simp only [List.getElem?_toArray, List.getElem?_cons_succ, List.getElem?_cons_zero, Option.some.injEq] at ho; subst ho; refine ⟨by rfl, fun w hSw => ?_⟩; try dsimp only at hSw
              go_simp; try with_reducible rfl
            try simp only [Act.put, List.setIfInBounds_toArray, List.set_cons_zero, List.set_cons_succ]
            refine tk 2 (some 130) ?_ (by rfl) (by kernel_rfl) (fun _ _ _ h => h) ?_ hHeld ?_; rotate_left
            · intro o ho; simp only [List.getElem?_toArray, List.getElem?_cons_succ, List.getElem?_cons_zero, Option.some.injEq] at ho; subst ho; refine ⟨by rfl, fun w hSw => ?_⟩; try dsimp only at hSw
              go_simp; try with_reducible rfl
            try simp only [Act.put, List.setIfInBounds_toArray, List.set_cons_zero, List.set_cons_succ]
            refine tk 3 (some 131) ?_ (by rfl) (by kernel_rfl) (fun _ _ _ h => h) ?_ hHeld ?_; rotate_left
            · intro o ho; simp only [List.getElem?_toArray, List.getElem?_cons_succ, List.getElem?_cons_zero, Option.some.injEq] at ho; subst ho; refine ⟨by rfl, fun w hSw => ?_⟩; try dsimp only at hSw
              go_simp; try with_reducible rfl
            try simp only [Act.put, List.setIfInBounds_toArray, List.set_cons_zero, List.set_cons_succ]
            refine tk 4 (some 132) ?_ (by rfl) (by kernel_rfl) (fun _ _ _ h => h) ?_ hHeld ?_; rotate_left
            · intro o ho; simp only [List.getElem?_toArray, List.getElem?_cons_succ, List.getElem?_cons_zero, Option.some.injEq] at ho; subst ho; refine ⟨by rfl, fun w hSw => ?_⟩; try dsimp only at hSw
              go_simp; try with_reducible rfl
            try simp only [Act.put, List.setIfInBounds_toArray, List.set_cons_zero, List.set_cons_succ]
            refine tk 5 (some 133) ?_ (by rfl) (by kernel_rfl) (fun _ _ _ h => h) ?_ hHeld ?_; rotate_left
            · intro o ho; simp only [List.getElem?_toArray, List.getElem?_cons_succ, List.getElem?_cons_zero, Option.some.injEq] at ho; subst ho; refine ⟨by rfl, fun w hSw => ?_⟩; try dsimp only at hSw
              go_simp; try with_reducible rfl
            try simp only [Act.put, List.setIfInBounds_toArray, List.set_cons_zero, List.set_cons_succ]
            refine tk 6 (some 134) ?_ (by rfl) (by kernel_rfl) (fun _ _ _ h => h) ?_ hHeld ?_; rotate_left
            · intro o ho; simp only [List.getElem?_toArray, List.getElem?_cons_succ, List.getElem?_cons_zero, Option.some.injEq] at ho; subst ho; refine ⟨by rfl, fun w hSw => ?_⟩; try dsimp only at hSw
              go_simp; try with_reducible rfl
            try simp only [Act.put, List.setIfInBounds_toArray, List.set_cons_zero, List.set_cons_succ]
            refine tk 7 (some 135) ?_ (by rfl) (by kernel_rfl) (fun _ _ _ h => h) ?_ hHeld ?_; rotate_left
            · intro o ho; simp only [List.getElem?_toArray, List.getElem?_cons_succ, List.getElem?_cons_zero, Option.some.injEq] at ho; subst ho; refine ⟨by rfl, fun w hSw => ?_⟩; try dsimp only at hSw
              go_simp; try with_reducible rfl
            try simp only [Act.put, List.setIfInBounds_toArray, List.set_cons_zero, List.set_cons_succ]
            refine tk 8 (some 136) ?_ (by rfl) (by kernel_rfl) (fun _ _ _ h => h) ?_ hHeld ?_; rotate_left
            · intro o ho; simp only [List.getElem?_toArray, List.getElem?_cons_succ, List.getElem?_cons_zero, Option.some.injEq] at ho; subst ho; refine ⟨by rfl, fun w hSw => ?_⟩; try dsimp only at hSw
              go_simp; try with_reducible rfl
            try simp only [Act.put, List.setIfInBounds_toArray, List.set_cons_zero, List.set_cons_succ]
            refine tk 10 (some 138) ?_ (by rfl) (by kernel_rfl) (fun _ _ _ h => h) ?_ hHeld ?_; rotate_left
            · intro o ho; simp only [List.getElem?_toArray, List.getElem?_cons_succ, List.getElem?_cons_zero, Option.some.injEq] at ho; subst ho; refine ⟨by rfl, fun w hSw => ?_⟩; try dsimp only at hSw
              go_simp; try with_reducible rfl
            try simp only [Act.put, List.setIfInBounds_toArray, List.set_cons_zero, List.set_cons_succ]
            refine oneH 9 (by kernel_rfl) (by rfl) (fun o ho K hK => ?_)
            simp only [List.getElem?_toArray, List.getElem?_cons_succ, List.getElem?_cons_zero, Option.some.injEq] at ho
            subst ho
            go_simp
            refine (bytes_calls _ _ _ _ (lF ++ lL) TX.out.f.len (by have := HL.out; omega) _ (by exact TX.out.f.cells.1) (by exact TX.out.f.bs.drewN 1)).mono ?_
            rintro e x1 ⟨A1', c1', q1', rfl, r1', b1''⟩
            have b1' := nodrew b1''
            try go_wp2_with fail
            refine hK.out _ _ ?_ (fun hHeld2 => ?_)
            · exact cb b1' yr
            clear hK K hHeld
            rename _ => hHeld
            try simp only [Act.put, List.setIfInBounds_toArray, List.set_cons_zero, List.set_cons_succ]
            refine oneH 11 (by kernel_rfl) (by rfl) (fun o ho K hK => ?_)
            simp only [List.getElem?_toArray, List.getElem?_cons_succ, List.getElem?_cons_zero, Option.some.injEq] at ho
            subst ho
            go_simp
            refine (all_calls _ _ _ _ _ _ _ _ _ _ _ _ _ _ nn TX.out.n (by have := HL.out; omega) x1 (TX.out.g.below b1')).mono ?_
            rintro e x2 ⟨A2', c2', q2', rfl, r2', b2''⟩
            have b2' := below_step b1' b2''
            try go_wp2_with fail
            refine hK.out _ _ ?_ (fun hHeld2 => ?_)
            · exact cb b2' yr
            clear hK K hHeld
            rename _ => hHeld
            try simp only [Act.put, List.setIfInBounds_toArray, List.set_cons_zero, List.set_cons_succ]
            refine oneH 12 (by kernel_rfl) (by rfl) (fun o ho K hK => ?_)
            simp only [List.getElem?_toArray, List.getElem?_cons_succ, List.getElem?_cons_zero, Option.some.injEq] at ho
            subst ho
            go_simp
            refine (same_calls _ _ nn (lF ++ lL) TX.out.f.len _ _ nn (lF ++ lL) TX.out.f.len x2 (r1'.below b2'').bs r2'.bs).mono ?_
            rintro e x3 ⟨rfl, hd⟩
            have dd : decide ((lF ++ lL) = (lF ++ lL)) = true := by simp
            rw [dd]
            have b3' := below_step b2' (same_below hd)
            try go_wp2_with fail
            refine hK.out _ _ ?_ (fun hHeld2 => ?_)
            · exact cb b3' yr
            clear hK K hHeld
            rename _ => hHeld
            try simp only [Act.put, List.setIfInBounds_toArray, List.set_cons_zero, List.set_cons_succ]
            refine tk 13 (some 141) ?_ (by rfl) (by kernel_rfl) (fun _ _ _ h => h) ?_ hHeld ?_; rotate_left
            · intro o ho; simp only [List.getElem?_toArray, List.getElem?_cons_succ, List.getElem?_cons_zero, Option.some.injEq] at ho; subst ho; refine ⟨by rfl, fun w hSw => ?_⟩; try dsimp only at hSw
              go_simp; try with_reducible rfl
            try simp only [Act.put, List.setIfInBounds_toArray, List.set_cons_zero, List.set_cons_succ]
            refine tk 14 (some 142) ?_ (by rfl) (by kernel_rfl) (fun _ _ _ h => h) ?_ hHeld ?_; rotate_left
            · intro o ho; simp only [List.getElem?_toArray, List.getElem?_cons_succ, List.getElem?_cons_zero, Option.some.injEq] at ho; subst ho; refine ⟨by rfl, fun w hSw => ?_⟩; try dsimp only at hSw
              go_simp; try with_reducible rfl
            try simp only [Act.put, List.setIfInBounds_toArray, List.set_cons_zero, List.set_cons_succ]
            refine tk 15 (some 143) ?_ (by rfl) (by kernel_rfl) (fun _ _ _ h => h) ?_ hHeld ?_; rotate_left
            · intro o ho; simp only [List.getElem?_toArray, List.getElem?_cons_succ, List.getElem?_cons_zero, Option.some.injEq] at ho; subst ho; refine ⟨by rfl, fun w hSw => ?_⟩; try dsimp only at hSw
              go_simp; try with_reducible rfl
            try simp only [Act.put, List.setIfInBounds_toArray, List.set_cons_zero, List.set_cons_succ]
            refine tk 16 (some 144) ?_ (by rfl) (by kernel_rfl) (fun _ _ _ h => h) ?_ hHeld ?_; rotate_left
            · intro o ho; simp only [List.getElem?_toArray, List.getElem?_cons_succ, List.getElem?_cons_zero, Option.some.injEq] at ho; subst ho; refine ⟨by rfl, fun w hSw => ?_⟩; try dsimp only at hSw
              go_simp; try with_reducible rfl
            try simp only [Act.put, List.setIfInBounds_toArray, List.set_cons_zero, List.set_cons_succ]
            refine tk 18 (some 146) ?_ (by rfl) (by kernel_rfl) (fun _ _ _ h => h) ?_ hHeld ?_; rotate_left
            · intro o ho; simp only [List.getElem?_toArray, List.getElem?_cons_succ, List.getElem?_cons_zero, Option.some.injEq] at ho; subst ho; refine ⟨by rfl, fun w hSw => ?_⟩; try dsimp only at hSw
              go_simp; try with_reducible rfl
            try simp only [Act.put, List.setIfInBounds_toArray, List.set_cons_zero, List.set_cons_succ]
            refine oneH 17 (by kernel_rfl) (by rfl) (fun o ho K hK => ?_)
            simp only [List.getElem?_toArray, List.getElem?_cons_succ, List.getElem?_cons_zero, Option.some.injEq] at ho
            subst ho
            go_simp
            refine (len_calls _ _ _ _ x3 (TX.out.f.below b3').cells.1).mono ?_
            rintro e x4 ⟨rfl, rfl⟩
            try go_wp2_with fail
            refine hK.out _ _ ?_ (fun hHeld2 => ?_)
            · exact hHeld
            clear hK K hHeld
            rename _ => hHeld
            try simp only [Act.put, List.setIfInBounds_toArray, List.set_cons_zero, List.set_cons_succ]
            refine oneH 19 (by kernel_rfl) (by rfl) (fun o ho K hK => ?_)
            simp only [List.getElem?_toArray, List.getElem?_cons_succ, List.getElem?_cons_zero, Option.some.injEq] at ho
            subst ho
            go_simp
            refine (all_calls _ _ _ _ _ _ _ _ _ _ _ _ _ _ nn TX.out.n (by have := HL.out; omega) x3 (TX.out.g.below b3')).mono ?_
            rintro e x5 ⟨A5', c5', q5', rfl, r5', b5''⟩
            have b5' := below_step b3' b5''
            try go_wp2_with fail
            refine hK.out _ _ ?_ (fun hHeld2 => ?_)
            · exact cb b5' yr
            clear hK K hHeld
            rename _ => hHeld
            try simp only [Act.put, List.setIfInBounds_toArray, List.set_cons_zero, List.set_cons_succ]
            refine tk 20 (some 148) ?_ (by rfl) (by kernel_rfl) (fun _ _ _ h => h) ?_ hHeld ?_; rotate_left
            · intro o ho; simp only [List.getElem?_toArray, List.getElem?_cons_succ, List.getElem?_cons_zero, Option.some.injEq] at ho; subst ho; refine ⟨by rfl, fun w hSw => ?_⟩; try dsimp only at hSw
              go_simp; try with_reducible rfl
            try simp only [Act.put, List.setIfInBounds_toArray, List.set_cons_zero, List.set_cons_succ]
            refine tk 21 (some 149) ?_ (by rfl) (by kernel_rfl) (fun _ _ _ h => h) ?_ hHeld ?_; rotate_left
            · intro o ho; simp only [List.getElem?_toArray, List.getElem?_cons_succ, List.getElem?_cons_zero, Option.some.injEq] at ho; subst ho; refine ⟨by rfl, fun w hSw => ?_⟩; try dsimp only at hSw
              go_simp; try with_reducible rfl
            try simp only [Act.put, List.setIfInBounds_toArray, List.set_cons_zero, List.set_cons_succ]
            refine tk 22 (some 150) ?_ (by rfl) (by kernel_rfl) (fun _ _ _ h => h) ?_ hHeld ?_; rotate_left
            · intro o ho; simp only [List.getElem?_toArray, List.getElem?_cons_succ, List.getElem?_cons_zero, Option.some.injEq] at ho; subst ho; refine ⟨by rfl, fun w hSw => ?_⟩; try dsimp only at hSw
              go_simp; try with_reducible rfl
            try simp only [Act.put, List.setIfInBounds_toArray, List.set_cons_zero, List.set_cons_succ]
            refine tk 23 (some 151) ?_ (by rfl) (by kernel_rfl) (fun _ _ _ h => h) ?_ hHeld ?_; rotate_left
            · intro o ho; simp only [List.getElem?_toArray, List.getElem?_cons_succ, List.getElem?_cons_zero, Option.some.injEq] at ho; subst ho; refine ⟨by rfl, fun w hSw => ?_⟩; try dsimp only at hSw
              go_simp; try with_reducible rfl
            try simp only [Act.put, List.setIfInBounds_toArray, List.set_cons_zero, List.set_cons_succ]
            refine tk 24 (some 152) ?_ (by rfl) (by kernel_rfl) (fun _ _ _ h => h) ?_ hHeld ?_; rotate_left
            · intro o ho; simp only [List.getElem?_toArray, List.getElem?_cons_succ, List.getElem?_cons_zero, Option.some.injEq] at ho; subst ho; refine ⟨by rfl, fun w hSw => ?_⟩; try dsimp only at hSw
              go_simp; try with_reducible rfl
            try simp only [Act.put, List.setIfInBounds_toArray, List.set_cons_zero, List.set_cons_succ]
            refine tk 26 (some 154) ?_ (by rfl) (by kernel_rfl) (fun _ _ _ h => h) ?_ hHeld ?_; rotate_left
            · intro o ho; simp only [List.getElem?_toArray, List.getElem?_cons_succ, List.getElem?_cons_zero, Option.some.injEq] at ho; subst ho; refine ⟨by rfl, fun w hSw => ?_⟩; try dsimp only at hSw
              go_simp; try with_reducible rfl
            try simp only [Act.put, List.setIfInBounds_toArray, List.set_cons_zero, List.set_cons_succ]
            refine tk 27 (some 155) ?_ (by rfl) (by kernel_rfl) (fun _ _ _ h => h) ?_ hHeld ?_; rotate_left
            · intro o ho; simp only [List.getElem?_toArray, List.getElem?_cons_succ, List.getElem?_cons_zero, Option.some.injEq] at ho; subst ho; refine ⟨by rfl, fun w hSw => ?_⟩; try dsimp only at hSw
              go_simp; try with_reducible rfl
            try simp only [Act.put, List.setIfInBounds_toArray, List.set_cons_zero, List.set_cons_succ]
            refine tk 28 (some 156) ?_ (by rfl) (by kernel_rfl) (fun _ _ _ h => h) ?_ hHeld ?_; rotate_left
            · intro o ho; simp only [List.getElem?_toArray, List.getElem?_cons_succ, List.getElem?_cons_zero, Option.some.injEq] at ho; subst ho; refine ⟨by rfl, fun w hSw => ?_⟩; try dsimp only at hSw
              go_simp; try with_reducible rfl
            try simp only [Act.put, List.setIfInBounds_toArray, List.set_cons_zero, List.set_cons_succ]
            refine tk 29 (some 157) ?_ (by rfl) (by kernel_rfl) (fun _ _ _ h => h) ?_ hHeld ?_; rotate_left
            · intro o ho; simp only [List.getElem?_toArray, List.getElem?_cons_succ, List.getElem?_cons_zero, Option.some.injEq] at ho; subst ho; refine ⟨by rfl, fun w hSw => ?_⟩; try dsimp only at hSw
              go_simp; try with_reducible rfl
            try simp only [Act.put, List.setIfInBounds_toArray, List.set_cons_zero, List.set_cons_succ]
            refine tk 30 (some 158) ?_ (by rfl) (by kernel_rfl) (fun _ _ _ h => h) ?_ hHeld ?_; rotate_left
            · intro o ho; simp only [List.getElem?_toArray, List.getElem?_cons_succ, List.getElem?_cons_zero, Option.some.injEq] at ho; subst ho; refine ⟨by rfl, fun w hSw => ?_⟩; try dsimp only at hSw
              go_simp; try with_reducible rfl
            try simp only [Act.put, List.setIfInBounds_toArray, List.set_cons_zero, List.set_cons_succ]
            refine oneH 25 (by kernel_rfl) (by rfl) (fun o ho K hK => ?_)
            simp only [List.getElem?_toArray, List.getElem?_cons_succ, List.getElem?_cons_zero, Option.some.injEq] at ho
            subst ho
            go_simp
            refine (sure_calls _ _ x5 (TX.out.f.below b5').cells.2.1).mono ?_
            rintro e x6 ⟨rfl, rfl⟩
            try go_wp2_with fail
            refine hK.out _ _ ?_ (fun hHeld2 => ?_)
            · exact hHeld
            clear hK K hHeld
            rename _ => hHeld
            try simp only [Act.put, List.setIfInBounds_toArray, List.set_cons_zero, List.set_cons_succ]
            refine tk 31 (some 159) ?_ (by rfl) (by kernel_rfl) (fun _ _ _ h => h) ?_ hHeld ?_; rotate_left
            · intro o ho; simp only [List.getElem?_toArray, List.getElem?_cons_succ, List.getElem?_cons_zero, Option.some.injEq] at ho; subst ho; refine ⟨by rfl, fun w hSw => ?_⟩; try dsimp only at hSw
              go_simp; try with_reducible rfl
            try simp only [Act.put, List.setIfInBounds_toArray, List.set_cons_zero, List.set_cons_succ]
            refine tk 32 (some 160) ?_ (by rfl) (by kernel_rfl) (fun _ _ _ h => h) ?_ hHeld ?_; rotate_left
            · intro o ho; simp only [List.getElem?_toArray, List.getElem?_cons_succ, List.getElem?_cons_zero, Option.some.injEq] at ho; subst ho; refine ⟨by rfl, fun w hSw => ?_⟩; try dsimp only at hSw
              go_simp; try with_reducible rfl
            try simp only [Act.put, List.setIfInBounds_toArray, List.set_cons_zero, List.set_cons_succ]
            refine wpAnyH_done (by kernel_rfl) ?_ _
            have TY := Aside0.mk (TX.out.below b5')
            have BY := Aside0.mk (BX.out.trans (b5'.mono BX.out.size))
            clear hHeld b1' b2' b3' b5' b1'' b2'' b5'' r1' r2' r5' hd dd yr TX BX
            go_wp2_with fail
            go_roundw
            case rel => exact ⟨k + 1, by omega, by go_num, ⟨p, qf, Af, cf, nn, r, qF, AF, cF, nF, lF, qL, AL, cL, nL, lL, true, rfl, rfl, TY.out, HL.out⟩, BY.out⟩
            case measure => simp [intOf]; omega
      by_cases hd : d = 4
      · have n0 : (d == 0) = false := by rw [hd]; rfl
        have n1 : (d == 1) = false := by rw [hd]; rfl
        have n2 : (d == 2) = false := by rw [hd]; rfl
        have n3 : (d == 3) = false := by rw [hd]; rfl
        have n4 : (d == 4) = true := by rw [hd]; rfl
        clear hd
        as_aux_lemma =>
          go_wp2_with fail
          refine (open_calls _ _ _ _ _ _ _ _ _ _ wr ST.out.f (by omega) HB.out.size).mono ?_
          rintro e w3 ⟨p3, qf3, Af3, cf3, rfl, hf3, hp3, hq3, b3⟩
          go_wp2_with fail
          refine (ropen_calls _ _ _ _ _ _ _ _ _ _ _ _ _ _ nn ST.out.n (by omega) w3 (ST.out.g.below b3) (HB.out.trans (b3.mono HB.out.size)).size).mono ?_
          rintro e w4 ⟨r4, AF4, cF4, qF4, rfl, hg4, hr4, hq4, b4⟩
          obtain ⟨lM, hlM⟩ : ∃ lM, lF ++ lL = lM := ⟨_, rfl⟩
          rw [hlM] at hf3 hg4
          have hlt3 := hf3.lt
          have hsz3 := hf3.row.size
          have TX := Aside0.mk (show St w4 W.heap.size p3 qf3 Af3 cf3 nn r4 qF4 AF4 cF4 nn lM none none 0 0 [] most false from
            ⟨by rw [List.append_nil]; exact hf3.below b4, hg4, by omega, by omega, fun e => by have := (hsz3 _ e).2; omega, fun e => by have := hq4 _ e; omega, by simp, fun j hj => ⟨fun e => by have := hq4 _ e; have := (hsz3 j hj).2; omega, by simp⟩⟩)
          have BX := Aside0.mk (HB.out.trans ((below_step b3 b4).mono HB.out.size))
          have HL := Aside0.mk (show nn ≤ 100 * (k + 1) by omega)
          clear hf3 hp3 hq3 b3 hg4 hr4 hq4 b4 hlM hlt3 hsz3 ST HB z0 z1 z2
          obtain ⟨-, yr, -, -⟩ := TX.out.g.cells
          go_upto_region 30 with fail
          refine wp_region_held_drew (S := fun w' => w'.cell? ⟨r4, 1, none⟩ = some (.slice AF4 nn cF4)) (by kernel_rfl) ?_ (fun hHeld => ?_)
          · exact yr
          refine tk 0 (some 128) ?_ (by rfl) (by kernel_rfl) (fun _ _ _ h => h) ?_ hHeld ?_; rotate_left
          · intro o ho; simp only [List.getElem?_toArray, List.getElem?_cons_zero, Option.some.injEq] at ho; subst ho; refine ⟨by rfl, fun w hSw => ?_⟩; try dsimp only at hSw
            go_simp; try with_reducible rfl
          try simp only [Act.put, List.setIfInBounds_toArray, List.set_cons_zero, List.set_cons_succ]
          refine tk 1 (some 129) ?_ (by rfl) (by kernel_rfl) (fun _ _ _ h => h) ?_ hHeld ?_; rotate_left
          · intro o ho; simp only [List.getElem?_toArray, List.getElem?_cons_succ, List.getElem?_cons_zero, Option.some.injEq] at ho; subst ho; refine ⟨by rfl, fun w hSw => ?_⟩; try dsimp only at hSw
            go_simp; try with_reducible rfl
          try simp only [Act.put, List.setIfInBounds_toArray, List.set_cons_zero, List.set_cons_succ]
          refine tk 2 (some 130) ?_ (by rfl) (by kernel_rfl) (fun _ _ _ h => h) ?_ hHeld ?_; rotate_left
          · intro o ho; simp only [List.getElem?_toArray, List.getElem?_cons_succ, List.getElem?_cons_zero, Option.some.injEq] at ho; subst ho; refine ⟨by rfl, fun w hSw => ?_⟩; try dsimp only at hSw
            go_simp; try with_reducible rfl
          try simp only [Act.put, List.setIfInBounds_toArray, List.set_cons_zero, List.set_cons_succ]
          refine tk 3 (some 131) ?_ (by rfl) (by kernel_rfl) (fun _ _ _ h => h) ?_ hHeld ?_; rotate_left
          · intro o ho; simp only [List.getElem?_toArray, List.getElem?_cons_succ, List.getElem?_cons_zero, Option.some.injEq] at ho; subst ho; refine ⟨by rfl, fun w hSw => ?_⟩; try dsimp only at hSw
            go_simp; try with_reducible rfl
          try simp only [Act.put, List.setIfInBounds_toArray, List.set_cons_zero, List.set_cons_succ]
          refine tk 4 (some 132) ?_ (by rfl) (by kernel_rfl) (fun _ _ _ h => h) ?_ hHeld ?_; rotate_left
          · intro o ho; simp only [List.getElem?_toArray, List.getElem?_cons_succ, List.getElem?_cons_zero, Option.some.injEq] at ho; subst ho; refine ⟨by rfl, fun w hSw => ?_⟩; try dsimp only at hSw
            go_simp; try with_reducible rfl
          try simp only [Act.put, List.setIfInBounds_toArray, List.set_cons_zero, List.set_cons_succ]
          refine tk 5 (some 133) ?_ (by rfl) (by kernel_rfl) (fun _ _ _ h => h) ?_ hHeld ?_; rotate_left
          · intro o ho; simp only [List.getElem?_toArray, List.getElem?_cons_succ, List.getElem?_cons_zero, Option.some.injEq] at ho; subst ho; refine ⟨by rfl, fun w hSw => ?_⟩; try dsimp only at hSw
            go_simp; try with_reducible rfl
          try simp only [Act.put, List.setIfInBounds_toArray, List.set_cons_zero, List.set_cons_succ]
          refine tk 6 (some 134) ?_ (by rfl) (by kernel_rfl) (fun _ _ _ h => h) ?_ hHeld ?_; rotate_left
          · intro o ho; simp only [List.getElem?_toArray, List.getElem?_cons_succ, List.getElem?_cons_zero, Option.some.injEq] at ho; subst ho; refine ⟨by rfl, fun w hSw => ?_⟩; try dsimp only at hSw
            go_simp; try with_reducible rfl
          try simp only [Act.put, List.setIfInBounds_toArray, List.set_cons_zero, List.set_cons_succ]
          refine tk 7 (some 135) ?_ (by rfl) (by kernel_rfl) (fun _ _ _ h => h) ?_ hHeld ?_; rotate_left
          · intro o ho; simp only [List.getElem?_toArray, List.getElem?_cons_succ, List.getElem?_cons_zero, Option.some.injEq] at ho; subst ho; refine ⟨by rfl, fun w hSw => ?_⟩; try dsimp only at hSw
            go_simp; try with_reducible rfl
          try simp only [Act.put, List.setIfInBounds_toArray, List.set_cons_zero, List.set_cons_succ]
          refine tk 8 (some 136) ?_ (by rfl) (by kernel_rfl) (fun _ _ _ h => h) ?_ hHeld ?_; rotate_left
          · intro o ho; simp only [List.getElem?_toArray, List.getElem?_cons_succ, List.getElem?_cons_zero, Option.some.injEq] at ho; subst ho; refine ⟨by rfl, fun w hSw => ?_⟩; try dsimp only at hSw
            go_simp; try with_reducible rfl
          try simp only [Act.put, List.setIfInBounds_toArray, List.set_cons_zero, List.set_cons_succ]
          refine tk 10 (some 138) ?_ (by rfl) (by kernel_rfl) (fun _ _ _ h => h) ?_ hHeld ?_; rotate_left
          · intro o ho; simp only [List.getElem?_toArray, List.getElem?_cons_succ, List.getElem?_cons_zero, Option.some.injEq] at ho; subst ho; refine ⟨by rfl, fun w hSw => ?_⟩; try dsimp only at hSw
            go_simp; try with_reducible rfl
          try simp only [Act.put, List.setIfInBounds_toArray, List.set_cons_zero, List.set_cons_succ]
          refine oneH 9 (by kernel_rfl) (by rfl) (fun o ho K hK => ?_)
          simp only [List.getElem?_toArray, List.getElem?_cons_succ, List.getElem?_cons_zero, Option.some.injEq] at ho
          subst ho
          go_simp
          refine (bytes_calls _ _ _ _ (lM ++ []) TX.out.f.len (by have := HL.out; omega) _ (by exact TX.out.f.cells.1) (by exact TX.out.f.bs.drewN 1)).mono ?_
          rintro e x1 ⟨A1', c1', q1', rfl, r1', b1''⟩
          have b1' := nodrew b1''
          try go_wp2_with fail
          refine hK.out _ _ ?_ (fun hHeld2 => ?_)
          · exact cb b1' yr
          clear hK K hHeld
          rename _ => hHeld
          try simp only [Act.put, List.setIfInBounds_toArray, List.set_cons_zero, List.set_cons_succ]
          refine oneH 11 (by kernel_rfl) (by rfl) (fun o ho K hK => ?_)
          simp only [List.getElem?_toArray, List.getElem?_cons_succ, List.getElem?_cons_zero, Option.some.injEq] at ho
          subst ho
          go_simp
          refine (all_calls _ _ _ _ _ _ _ _ _ _ _ _ _ _ nn TX.out.n (by have := HL.out; omega) x1 (TX.out.g.below b1')).mono ?_
          rintro e x2 ⟨A2', c2', q2', rfl, r2', b2''⟩
          have b2' := below_step b1' b2''
          try go_wp2_with fail
          refine hK.out _ _ ?_ (fun hHeld2 => ?_)
          · exact cb b2' yr
          clear hK K hHeld
          rename _ => hHeld
          try simp only [Act.put, List.setIfInBounds_toArray, List.set_cons_zero, List.set_cons_succ]
          refine oneH 12 (by kernel_rfl) (by rfl) (fun o ho K hK => ?_)
          simp only [List.getElem?_toArray, List.getElem?_cons_succ, List.getElem?_cons_zero, Option.some.injEq] at ho
          subst ho
          go_simp
          refine (same_calls _ _ nn (lM ++ []) TX.out.f.len _ _ nn (lM ++ []) TX.out.f.len x2 (r1'.below b2'').bs r2'.bs).mono ?_
          rintro e x3 ⟨rfl, hd⟩
          have dd : decide ((lM ++ []) = (lM ++ [])) = true := by simp
          rw [dd]
          have b3' := below_step b2' (same_below hd)
          try go_wp2_with fail
          refine hK.out _ _ ?_ (fun hHeld2 => ?_)
          · exact cb b3' yr
          clear hK K hHeld
          rename _ => hHeld
          try simp only [Act.put, List.setIfInBounds_toArray, List.set_cons_zero, List.set_cons_succ]
          refine tk 13 (some 141) ?_ (by rfl) (by kernel_rfl) (fun _ _ _ h => h) ?_ hHeld ?_; rotate_left
          · intro o ho; simp only [List.getElem?_toArray, List.getElem?_cons_succ, List.getElem?_cons_zero, Option.some.injEq] at ho; subst ho; refine ⟨by rfl, fun w hSw => ?_⟩; try dsimp only at hSw
            go_simp; try with_reducible rfl
          try simp only [Act.put, List.setIfInBounds_toArray, List.set_cons_zero, List.set_cons_succ]
          refine tk 14 (some 142) ?_ (by rfl) (by kernel_rfl) (fun _ _ _ h => h) ?_ hHeld ?_; rotate_left
          · intro o ho; simp only [List.getElem?_toArray, List.getElem?_cons_succ, List.getElem?_cons_zero, Option.some.injEq] at ho; subst ho; refine ⟨by rfl, fun w hSw => ?_⟩; try dsimp only at hSw
            go_simp; try with_reducible rfl
          try simp only [Act.put, List.setIfInBounds_toArray, List.set_cons_zero, List.set_cons_succ]
          refine tk 15 (some 143) ?_ (by rfl) (by kernel_rfl) (fun _ _ _ h => h) ?_ hHeld ?_; rotate_left
          · intro o ho; simp only [List.getElem?_toArray, List.getElem?_cons_succ, List.getElem?_cons_zero, Option.some.injEq] at ho; subst ho; refine ⟨by rfl, fun w hSw => ?_⟩; try dsimp only at hSw
            go_simp; try with_reducible rfl
          try simp only [Act.put, List.setIfInBounds_toArray, List.set_cons_zero, List.set_cons_succ]
          refine tk 16 (some 144) ?_ (by rfl) (by kernel_rfl) (fun _ _ _ h => h) ?_ hHeld ?_; rotate_left
          · intro o ho; simp only [List.getElem?_toArray, List.getElem?_cons_succ, List.getElem?_cons_zero, Option.some.injEq] at ho; subst ho; refine ⟨by rfl, fun w hSw => ?_⟩; try dsimp only at hSw
            go_simp; try with_reducible rfl
          try simp only [Act.put, List.setIfInBounds_toArray, List.set_cons_zero, List.set_cons_succ]
          refine tk 18 (some 146) ?_ (by rfl) (by kernel_rfl) (fun _ _ _ h => h) ?_ hHeld ?_; rotate_left
          · intro o ho; simp only [List.getElem?_toArray, List.getElem?_cons_succ, List.getElem?_cons_zero, Option.some.injEq] at ho; subst ho; refine ⟨by rfl, fun w hSw => ?_⟩; try dsimp only at hSw
            go_simp; try with_reducible rfl
          try simp only [Act.put, List.setIfInBounds_toArray, List.set_cons_zero, List.set_cons_succ]
          refine oneH 17 (by kernel_rfl) (by rfl) (fun o ho K hK => ?_)
          simp only [List.getElem?_toArray, List.getElem?_cons_succ, List.getElem?_cons_zero, Option.some.injEq] at ho
          subst ho
          go_simp
          refine (len_calls _ _ _ _ x3 (TX.out.f.below b3').cells.1).mono ?_
          rintro e x4 ⟨rfl, rfl⟩
          try go_wp2_with fail
          refine hK.out _ _ ?_ (fun hHeld2 => ?_)
          · exact hHeld
          clear hK K hHeld
          rename _ => hHeld
          try simp only [Act.put, List.setIfInBounds_toArray, List.set_cons_zero, List.set_cons_succ]
          refine oneH 19 (by kernel_rfl) (by rfl) (fun o ho K hK => ?_)
          simp only [List.getElem?_toArray, List.getElem?_cons_succ, List.getElem?_cons_zero, Option.some.injEq] at ho
          subst ho
          go_simp
          refine (all_calls _ _ _ _ _ _ _ _ _ _ _ _ _ _ nn TX.out.n (by have := HL.out; omega) x3 (TX.out.g.below b3')).mono ?_
          rintro e x5 ⟨A5', c5', q5', rfl, r5', b5''⟩
          have b5' := below_step b3' b5''
          try go_wp2_with fail
          refine hK.out _ _ ?_ (fun hHeld2 => ?_)
          · exact cb b5' yr
          clear hK K hHeld
          rename _ => hHeld
          try simp only [Act.put, List.setIfInBounds_toArray, List.set_cons_zero, List.set_cons_succ]
          refine tk 20 (some 148) ?_ (by rfl) (by kernel_rfl) (fun _ _ _ h => h) ?_ hHeld ?_; rotate_left
          · intro o ho; simp only [List.getElem?_toArray, List.getElem?_cons_succ, List.getElem?_cons_zero, Option.some.injEq] at ho; subst ho; refine ⟨by rfl, fun w hSw => ?_⟩; try dsimp only at hSw
            go_simp; try with_reducible rfl
          try simp only [Act.put, List.setIfInBounds_toArray, List.set_cons_zero, List.set_cons_succ]
          refine tk 21 (some 149) ?_ (by rfl) (by kernel_rfl) (fun _ _ _ h => h) ?_ hHeld ?_; rotate_left
          · intro o ho; simp only [List.getElem?_toArray, List.getElem?_cons_succ, List.getElem?_cons_zero, Option.some.injEq] at ho; subst ho; refine ⟨by rfl, fun w hSw => ?_⟩; try dsimp only at hSw
            go_simp; try with_reducible rfl
          try simp only [Act.put, List.setIfInBounds_toArray, List.set_cons_zero, List.set_cons_succ]
          refine tk 22 (some 150) ?_ (by rfl) (by kernel_rfl) (fun _ _ _ h => h) ?_ hHeld ?_; rotate_left
          · intro o ho; simp only [List.getElem?_toArray, List.getElem?_cons_succ, List.getElem?_cons_zero, Option.some.injEq] at ho; subst ho; refine ⟨by rfl, fun w hSw => ?_⟩; try dsimp only at hSw
            go_simp; try with_reducible rfl
          try simp only [Act.put, List.setIfInBounds_toArray, List.set_cons_zero, List.set_cons_succ]
          refine tk 23 (some 151) ?_ (by rfl) (by kernel_rfl) (fun _ _ _ h => h) ?_ hHeld ?_; rotate_left
          · intro o ho; simp only [List.getElem?_toArray, List.getElem?_cons_succ, List.getElem?_cons_zero, Option.some.injEq] at ho; subst ho; refine ⟨by rfl, fun w hSw => ?_⟩; try dsimp only at hSw
            go_simp; try with_reducible rfl
          try simp only [Act.put, List.setIfInBounds_toArray, List.set_cons_zero, List.set_cons_succ]
          refine tk 24 (some 152) ?_ (by rfl) (by kernel_rfl) (fun _ _ _ h => h) ?_ hHeld ?_; rotate_left
          · intro o ho; simp only [List.getElem?_toArray, List.getElem?_cons_succ, List.getElem?_cons_zero, Option.some.injEq] at ho; subst ho; refine ⟨by rfl, fun w hSw => ?_⟩; try dsimp only at hSw
            go_simp; try with_reducible rfl
          try simp only [Act.put, List.setIfInBounds_toArray, List.set_cons_zero, List.set_cons_succ]
          refine tk 26 (some 154) ?_ (by rfl) (by kernel_rfl) (fun _ _ _ h => h) ?_ hHeld ?_; rotate_left
          · intro o ho; simp only [List.getElem?_toArray, List.getElem?_cons_succ, List.getElem?_cons_zero, Option.some.injEq] at ho; subst ho; refine ⟨by rfl, fun w hSw => ?_⟩; try dsimp only at hSw
            go_simp; try with_reducible rfl
          try simp only [Act.put, List.setIfInBounds_toArray, List.set_cons_zero, List.set_cons_succ]
          refine tk 27 (some 155) ?_ (by rfl) (by kernel_rfl) (fun _ _ _ h => h) ?_ hHeld ?_; rotate_left
          · intro o ho; simp only [List.getElem?_toArray, List.getElem?_cons_succ, List.getElem?_cons_zero, Option.some.injEq] at ho; subst ho; refine ⟨by rfl, fun w hSw => ?_⟩; try dsimp only at hSw
            go_simp; try with_reducible rfl
          try simp only [Act.put, List.setIfInBounds_toArray, List.set_cons_zero, List.set_cons_succ]
          refine tk 28 (some 156) ?_ (by rfl) (by kernel_rfl) (fun _ _ _ h => h) ?_ hHeld ?_; rotate_left
          · intro o ho; simp only [List.getElem?_toArray, List.getElem?_cons_succ, List.getElem?_cons_zero, Option.some.injEq] at ho; subst ho; refine ⟨by rfl, fun w hSw => ?_⟩; try dsimp only at hSw
            go_simp; try with_reducible rfl
          try simp only [Act.put, List.setIfInBounds_toArray, List.set_cons_zero, List.set_cons_succ]
          refine tk 29 (some 157) ?_ (by rfl) (by kernel_rfl) (fun _ _ _ h => h) ?_ hHeld ?_; rotate_left
          · intro o ho; simp only [List.getElem?_toArray, List.getElem?_cons_succ, List.getElem?_cons_zero, Option.some.injEq] at ho; subst ho; refine ⟨by rfl, fun w hSw => ?_⟩; try dsimp only at hSw
            go_simp; try with_reducible rfl
          try simp only [Act.put, List.setIfInBounds_toArray, List.set_cons_zero, List.set_cons_succ]
          refine tk 30 (some 158) ?_ (by rfl) (by kernel_rfl) (fun _ _ _ h => h) ?_ hHeld ?_; rotate_left
          · intro o ho; simp only [List.getElem?_toArray, List.getElem?_cons_succ, List.getElem?_cons_zero, Option.some.injEq] at ho; subst ho; refine ⟨by rfl, fun w hSw => ?_⟩; try dsimp only at hSw
            go_simp; try with_reducible rfl
          try simp only [Act.put, List.setIfInBounds_toArray, List.set_cons_zero, List.set_cons_succ]
          refine oneH 25 (by kernel_rfl) (by rfl) (fun o ho K hK => ?_)
          simp only [List.getElem?_toArray, List.getElem?_cons_succ, List.getElem?_cons_zero, Option.some.injEq] at ho
          subst ho
          go_simp
          refine (sure_calls _ _ x5 (TX.out.f.below b5').cells.2.1).mono ?_
          rintro e x6 ⟨rfl, rfl⟩
          try go_wp2_with fail
          refine hK.out _ _ ?_ (fun hHeld2 => ?_)
          · exact hHeld
          clear hK K hHeld
          rename _ => hHeld
          try simp only [Act.put, List.setIfInBounds_toArray, List.set_cons_zero, List.set_cons_succ]
          refine tk 31 (some 159) ?_ (by rfl) (by kernel_rfl) (fun _ _ _ h => h) ?_ hHeld ?_; rotate_left
          · intro o ho; simp only [List.getElem?_toArray, List.getElem?_cons_succ, List.getElem?_cons_zero, Option.some.injEq] at ho; subst ho; refine ⟨by rfl, fun w hSw => ?_⟩; try dsimp only at hSw
            go_simp; try with_reducible rfl
          try simp only [Act.put, List.setIfInBounds_toArray, List.set_cons_zero, List.set_cons_succ]
          refine tk 32 (some 160) ?_ (by rfl) (by kernel_rfl) (fun _ _ _ h => h) ?_ hHeld ?_; rotate_left
          · intro o ho; simp only [List.getElem?_toArray, List.getElem?_cons_succ, List.getElem?_cons_zero, Option.some.injEq] at ho; subst ho; refine ⟨by rfl, fun w hSw => ?_⟩; try dsimp only at hSw
            go_simp; try with_reducible rfl
          try simp only [Act.put, List.setIfInBounds_toArray, List.set_cons_zero, List.set_cons_succ]
          refine wpAnyH_done (by kernel_rfl) ?_ _
          have TY := Aside0.mk (TX.out.below b5')
          have BY := Aside0.mk (BX.out.trans (b5'.mono BX.out.size))
          clear hHeld b1' b2' b3' b5' b1'' b2'' b5'' r1' r2' r5' hd dd yr TX BX
          go_wp2_with fail
          go_roundw
          case rel => exact ⟨k + 1, by omega, by go_num, ⟨p3, qf3, Af3, cf3, nn, r4, qF4, AF4, cF4, nn, lM, none, none, 0, 0, [], false, rfl, rfl, TY.out, HL.out⟩, BY.out⟩
          case measure => simp [intOf]; omega
      have n0 : (d == 0) = false := by simpa using (by assumption : ¬ d = 0)
      have n1 : (d == 1) = false := by simpa using (by assumption : ¬ d = 1)
      have n2 : (d == 2) = false := by simpa using (by assumption : ¬ d = 2)
      have n3 : (d == 3) = false := by simpa using (by assumption : ¬ d = 3)
      have n4 : (d == 4) = false := by simpa using hd
      as_aux_lemma =>
        go_upto_region 30 with fail
        have TX := ST
        have BX := HB
        have HL := Aside0.mk (show nn ≤ 100 * (k + 1) by omega)
        clear ST HB z0 z1 z2
        obtain ⟨-, yr, -, -⟩ := TX.out.g.cells
        refine wp_region_held_drew (S := fun w' => w'.cell? ⟨r, 1, none⟩ = some (.slice AF nF cF)) (by kernel_rfl) ?_ (fun hHeld => ?_)
        · exact yr
        refine tk 0 (some 128) ?_ (by rfl) (by kernel_rfl) (fun _ _ _ h => h) ?_ hHeld ?_; rotate_left
        · intro o ho; simp only [List.getElem?_toArray, List.getElem?_cons_zero, Option.some.injEq] at ho; subst ho; refine ⟨by rfl, fun w hSw => ?_⟩; try dsimp only at hSw
          go_simp; try with_reducible rfl
        try simp only [Act.put, List.setIfInBounds_toArray, List.set_cons_zero, List.set_cons_succ]
        refine tk 1 (some 129) ?_ (by rfl) (by kernel_rfl) (fun _ _ _ h => h) ?_ hHeld ?_; rotate_left
        · intro o ho; simp only [List.getElem?_toArray, List.getElem?_cons_succ, List.getElem?_cons_zero, Option.some.injEq] at ho; subst ho; refine ⟨by rfl, fun w hSw => ?_⟩; try dsimp only at hSw
          go_simp; try with_reducible rfl
        try simp only [Act.put, List.setIfInBounds_toArray, List.set_cons_zero, List.set_cons_succ]
        refine tk 2 (some 130) ?_ (by rfl) (by kernel_rfl) (fun _ _ _ h => h) ?_ hHeld ?_; rotate_left
        · intro o ho; simp only [List.getElem?_toArray, List.getElem?_cons_succ, List.getElem?_cons_zero, Option.some.injEq] at ho; subst ho; refine ⟨by rfl, fun w hSw => ?_⟩; try dsimp only at hSw
          go_simp; try with_reducible rfl
        try simp only [Act.put, List.setIfInBounds_toArray, List.set_cons_zero, List.set_cons_succ]
        refine tk 3 (some 131) ?_ (by rfl) (by kernel_rfl) (fun _ _ _ h => h) ?_ hHeld ?_; rotate_left
        · intro o ho; simp only [List.getElem?_toArray, List.getElem?_cons_succ, List.getElem?_cons_zero, Option.some.injEq] at ho; subst ho; refine ⟨by rfl, fun w hSw => ?_⟩; try dsimp only at hSw
          go_simp; try with_reducible rfl
        try simp only [Act.put, List.setIfInBounds_toArray, List.set_cons_zero, List.set_cons_succ]
        refine tk 4 (some 132) ?_ (by rfl) (by kernel_rfl) (fun _ _ _ h => h) ?_ hHeld ?_; rotate_left
        · intro o ho; simp only [List.getElem?_toArray, List.getElem?_cons_succ, List.getElem?_cons_zero, Option.some.injEq] at ho; subst ho; refine ⟨by rfl, fun w hSw => ?_⟩; try dsimp only at hSw
          go_simp; try with_reducible rfl
        try simp only [Act.put, List.setIfInBounds_toArray, List.set_cons_zero, List.set_cons_succ]
        refine tk 5 (some 133) ?_ (by rfl) (by kernel_rfl) (fun _ _ _ h => h) ?_ hHeld ?_; rotate_left
        · intro o ho; simp only [List.getElem?_toArray, List.getElem?_cons_succ, List.getElem?_cons_zero, Option.some.injEq] at ho; subst ho; refine ⟨by rfl, fun w hSw => ?_⟩; try dsimp only at hSw
          go_simp; try with_reducible rfl
        try simp only [Act.put, List.setIfInBounds_toArray, List.set_cons_zero, List.set_cons_succ]
        refine tk 6 (some 134) ?_ (by rfl) (by kernel_rfl) (fun _ _ _ h => h) ?_ hHeld ?_; rotate_left
        · intro o ho; simp only [List.getElem?_toArray, List.getElem?_cons_succ, List.getElem?_cons_zero, Option.some.injEq] at ho; subst ho; refine ⟨by rfl, fun w hSw => ?_⟩; try dsimp only at hSw
          go_simp; try with_reducible rfl
        try simp only [Act.put, List.setIfInBounds_toArray, List.set_cons_zero, List.set_cons_succ]
        refine tk 7 (some 135) ?_ (by rfl) (by kernel_rfl) (fun _ _ _ h => h) ?_ hHeld ?_; rotate_left
        · intro o ho; simp only [List.getElem?_toArray, List.getElem?_cons_succ, List.getElem?_cons_zero, Option.some.injEq] at ho; subst ho; refine ⟨by rfl, fun w hSw => ?_⟩; try dsimp only at hSw
          go_simp; try with_reducible rfl
        try simp only [Act.put, List.setIfInBounds_toArray, List.set_cons_zero, List.set_cons_succ]
        refine tk 8 (some 136) ?_ (by rfl) (by kernel_rfl) (fun _ _ _ h => h) ?_ hHeld ?_; rotate_left
        · intro o ho; simp only [List.getElem?_toArray, List.getElem?_cons_succ, List.getElem?_cons_zero, Option.some.injEq] at ho; subst ho; refine ⟨by rfl, fun w hSw => ?_⟩; try dsimp only at hSw
          go_simp; try with_reducible rfl
        try simp only [Act.put, List.setIfInBounds_toArray, List.set_cons_zero, List.set_cons_succ]
        refine tk 10 (some 138) ?_ (by rfl) (by kernel_rfl) (fun _ _ _ h => h) ?_ hHeld ?_; rotate_left
        · intro o ho; simp only [List.getElem?_toArray, List.getElem?_cons_succ, List.getElem?_cons_zero, Option.some.injEq] at ho; subst ho; refine ⟨by rfl, fun w hSw => ?_⟩; try dsimp only at hSw
          go_simp; try with_reducible rfl
        try simp only [Act.put, List.setIfInBounds_toArray, List.set_cons_zero, List.set_cons_succ]
        refine oneH 9 (by kernel_rfl) (by rfl) (fun o ho K hK => ?_)
        simp only [List.getElem?_toArray, List.getElem?_cons_succ, List.getElem?_cons_zero, Option.some.injEq] at ho
        subst ho
        go_simp
        refine (bytes_calls _ _ _ _ (lF ++ lL) TX.out.f.len (by have := HL.out; omega) _ (by exact TX.out.f.cells.1) (by exact TX.out.f.bs.drewN 1)).mono ?_
        rintro e x1 ⟨A1', c1', q1', rfl, r1', b1''⟩
        have b1' := nodrew b1''
        try go_wp2_with fail
        refine hK.out _ _ ?_ (fun hHeld2 => ?_)
        · exact cb b1' yr
        clear hK K hHeld
        rename _ => hHeld
        try simp only [Act.put, List.setIfInBounds_toArray, List.set_cons_zero, List.set_cons_succ]
        refine oneH 11 (by kernel_rfl) (by rfl) (fun o ho K hK => ?_)
        simp only [List.getElem?_toArray, List.getElem?_cons_succ, List.getElem?_cons_zero, Option.some.injEq] at ho
        subst ho
        go_simp
        refine (all_calls _ _ _ _ _ _ _ _ _ _ _ _ _ _ nn TX.out.n (by have := HL.out; omega) x1 (TX.out.g.below b1')).mono ?_
        rintro e x2 ⟨A2', c2', q2', rfl, r2', b2''⟩
        have b2' := below_step b1' b2''
        try go_wp2_with fail
        refine hK.out _ _ ?_ (fun hHeld2 => ?_)
        · exact cb b2' yr
        clear hK K hHeld
        rename _ => hHeld
        try simp only [Act.put, List.setIfInBounds_toArray, List.set_cons_zero, List.set_cons_succ]
        refine oneH 12 (by kernel_rfl) (by rfl) (fun o ho K hK => ?_)
        simp only [List.getElem?_toArray, List.getElem?_cons_succ, List.getElem?_cons_zero, Option.some.injEq] at ho
        subst ho
        go_simp
        refine (same_calls _ _ nn (lF ++ lL) TX.out.f.len _ _ nn (lF ++ lL) TX.out.f.len x2 (r1'.below b2'').bs r2'.bs).mono ?_
        rintro e x3 ⟨rfl, hd⟩
        have dd : decide ((lF ++ lL) = (lF ++ lL)) = true := by simp
        rw [dd]
        have b3' := below_step b2' (same_below hd)
        try go_wp2_with fail
        refine hK.out _ _ ?_ (fun hHeld2 => ?_)
        · exact cb b3' yr
        clear hK K hHeld
        rename _ => hHeld
        try simp only [Act.put, List.setIfInBounds_toArray, List.set_cons_zero, List.set_cons_succ]
        refine tk 13 (some 141) ?_ (by rfl) (by kernel_rfl) (fun _ _ _ h => h) ?_ hHeld ?_; rotate_left
        · intro o ho; simp only [List.getElem?_toArray, List.getElem?_cons_succ, List.getElem?_cons_zero, Option.some.injEq] at ho; subst ho; refine ⟨by rfl, fun w hSw => ?_⟩; try dsimp only at hSw
          go_simp; try with_reducible rfl
        try simp only [Act.put, List.setIfInBounds_toArray, List.set_cons_zero, List.set_cons_succ]
        refine tk 14 (some 142) ?_ (by rfl) (by kernel_rfl) (fun _ _ _ h => h) ?_ hHeld ?_; rotate_left
        · intro o ho; simp only [List.getElem?_toArray, List.getElem?_cons_succ, List.getElem?_cons_zero, Option.some.injEq] at ho; subst ho; refine ⟨by rfl, fun w hSw => ?_⟩; try dsimp only at hSw
          go_simp; try with_reducible rfl
        try simp only [Act.put, List.setIfInBounds_toArray, List.set_cons_zero, List.set_cons_succ]
        refine tk 15 (some 143) ?_ (by rfl) (by kernel_rfl) (fun _ _ _ h => h) ?_ hHeld ?_; rotate_left
        · intro o ho; simp only [List.getElem?_toArray, List.getElem?_cons_succ, List.getElem?_cons_zero, Option.some.injEq] at ho; subst ho; refine ⟨by rfl, fun w hSw => ?_⟩; try dsimp only at hSw
          go_simp; try with_reducible rfl
        try simp only [Act.put, List.setIfInBounds_toArray, List.set_cons_zero, List.set_cons_succ]
        refine tk 16 (some 144) ?_ (by rfl) (by kernel_rfl) (fun _ _ _ h => h) ?_ hHeld ?_; rotate_left
        · intro o ho; simp only [List.getElem?_toArray, List.getElem?_cons_succ, List.getElem?_cons_zero, Option.some.injEq] at ho; subst ho; refine ⟨by rfl, fun w hSw => ?_⟩; try dsimp only at hSw
          go_simp; try with_reducible rfl
        try simp only [Act.put, List.setIfInBounds_toArray, List.set_cons_zero, List.set_cons_succ]
        refine tk 18 (some 146) ?_ (by rfl) (by kernel_rfl) (fun _ _ _ h => h) ?_ hHeld ?_; rotate_left
        · intro o ho; simp only [List.getElem?_toArray, List.getElem?_cons_succ, List.getElem?_cons_zero, Option.some.injEq] at ho; subst ho; refine ⟨by rfl, fun w hSw => ?_⟩; try dsimp only at hSw
          go_simp; try with_reducible rfl
        try simp only [Act.put, List.setIfInBounds_toArray, List.set_cons_zero, List.set_cons_succ]
        refine oneH 17 (by kernel_rfl) (by rfl) (fun o ho K hK => ?_)
        simp only [List.getElem?_toArray, List.getElem?_cons_succ, List.getElem?_cons_zero, Option.some.injEq] at ho
        subst ho
        go_simp
        refine (len_calls _ _ _ _ x3 (TX.out.f.below b3').cells.1).mono ?_
        rintro e x4 ⟨rfl, rfl⟩
        try go_wp2_with fail
        refine hK.out _ _ ?_ (fun hHeld2 => ?_)
        · exact hHeld
        clear hK K hHeld
        rename _ => hHeld
        try simp only [Act.put, List.setIfInBounds_toArray, List.set_cons_zero, List.set_cons_succ]
        refine oneH 19 (by kernel_rfl) (by rfl) (fun o ho K hK => ?_)
        simp only [List.getElem?_toArray, List.getElem?_cons_succ, List.getElem?_cons_zero, Option.some.injEq] at ho
        subst ho
        go_simp
        refine (all_calls _ _ _ _ _ _ _ _ _ _ _ _ _ _ nn TX.out.n (by have := HL.out; omega) x3 (TX.out.g.below b3')).mono ?_
        rintro e x5 ⟨A5', c5', q5', rfl, r5', b5''⟩
        have b5' := below_step b3' b5''
        try go_wp2_with fail
        refine hK.out _ _ ?_ (fun hHeld2 => ?_)
        · exact cb b5' yr
        clear hK K hHeld
        rename _ => hHeld
        try simp only [Act.put, List.setIfInBounds_toArray, List.set_cons_zero, List.set_cons_succ]
        refine tk 20 (some 148) ?_ (by rfl) (by kernel_rfl) (fun _ _ _ h => h) ?_ hHeld ?_; rotate_left
        · intro o ho; simp only [List.getElem?_toArray, List.getElem?_cons_succ, List.getElem?_cons_zero, Option.some.injEq] at ho; subst ho; refine ⟨by rfl, fun w hSw => ?_⟩; try dsimp only at hSw
          go_simp; try with_reducible rfl
        try simp only [Act.put, List.setIfInBounds_toArray, List.set_cons_zero, List.set_cons_succ]
        refine tk 21 (some 149) ?_ (by rfl) (by kernel_rfl) (fun _ _ _ h => h) ?_ hHeld ?_; rotate_left
        · intro o ho; simp only [List.getElem?_toArray, List.getElem?_cons_succ, List.getElem?_cons_zero, Option.some.injEq] at ho; subst ho; refine ⟨by rfl, fun w hSw => ?_⟩; try dsimp only at hSw
          go_simp; try with_reducible rfl
        try simp only [Act.put, List.setIfInBounds_toArray, List.set_cons_zero, List.set_cons_succ]
        refine tk 22 (some 150) ?_ (by rfl) (by kernel_rfl) (fun _ _ _ h => h) ?_ hHeld ?_; rotate_left
        · intro o ho; simp only [List.getElem?_toArray, List.getElem?_cons_succ, List.getElem?_cons_zero, Option.some.injEq] at ho; subst ho; refine ⟨by rfl, fun w hSw => ?_⟩; try dsimp only at hSw
          go_simp; try with_reducible rfl
        try simp only [Act.put, List.setIfInBounds_toArray, List.set_cons_zero, List.set_cons_succ]
        refine tk 23 (some 151) ?_ (by rfl) (by kernel_rfl) (fun _ _ _ h => h) ?_ hHeld ?_; rotate_left
        · intro o ho; simp only [List.getElem?_toArray, List.getElem?_cons_succ, List.getElem?_cons_zero, Option.some.injEq] at ho; subst ho; refine ⟨by rfl, fun w hSw => ?_⟩; try dsimp only at hSw
          go_simp; try with_reducible rfl
        try simp only [Act.put, List.setIfInBounds_toArray, List.set_cons_zero, List.set_cons_succ]
        refine tk 24 (some 152) ?_ (by rfl) (by kernel_rfl) (fun _ _ _ h => h) ?_ hHeld ?_; rotate_left
        · intro o ho; simp only [List.getElem?_toArray, List.getElem?_cons_succ, List.getElem?_cons_zero, Option.some.injEq] at ho; subst ho; refine ⟨by rfl, fun w hSw => ?_⟩; try dsimp only at hSw
          go_simp; try with_reducible rfl
        try simp only [Act.put, List.setIfInBounds_toArray, List.set_cons_zero, List.set_cons_succ]
        refine tk 26 (some 154) ?_ (by rfl) (by kernel_rfl) (fun _ _ _ h => h) ?_ hHeld ?_; rotate_left
        · intro o ho; simp only [List.getElem?_toArray, List.getElem?_cons_succ, List.getElem?_cons_zero, Option.some.injEq] at ho; subst ho; refine ⟨by rfl, fun w hSw => ?_⟩; try dsimp only at hSw
          go_simp; try with_reducible rfl
        try simp only [Act.put, List.setIfInBounds_toArray, List.set_cons_zero, List.set_cons_succ]
        refine tk 27 (some 155) ?_ (by rfl) (by kernel_rfl) (fun _ _ _ h => h) ?_ hHeld ?_; rotate_left
        · intro o ho; simp only [List.getElem?_toArray, List.getElem?_cons_succ, List.getElem?_cons_zero, Option.some.injEq] at ho; subst ho; refine ⟨by rfl, fun w hSw => ?_⟩; try dsimp only at hSw
          go_simp; try with_reducible rfl
        try simp only [Act.put, List.setIfInBounds_toArray, List.set_cons_zero, List.set_cons_succ]
        refine tk 28 (some 156) ?_ (by rfl) (by kernel_rfl) (fun _ _ _ h => h) ?_ hHeld ?_; rotate_left
        · intro o ho; simp only [List.getElem?_toArray, List.getElem?_cons_succ, List.getElem?_cons_zero, Option.some.injEq] at ho; subst ho; refine ⟨by rfl, fun w hSw => ?_⟩; try dsimp only at hSw
          go_simp; try with_reducible rfl
        try simp only [Act.put, List.setIfInBounds_toArray, List.set_cons_zero, List.set_cons_succ]
        refine tk 29 (some 157) ?_ (by rfl) (by kernel_rfl) (fun _ _ _ h => h) ?_ hHeld ?_; rotate_left
        · intro o ho; simp only [List.getElem?_toArray, List.getElem?_cons_succ, List.getElem?_cons_zero, Option.some.injEq] at ho; subst ho; refine ⟨by rfl, fun w hSw => ?_⟩; try dsimp only at hSw
          go_simp; try with_reducible rfl
        try simp only [Act.put, List.setIfInBounds_toArray, List.set_cons_zero, List.set_cons_succ]
        refine tk 30 (some 158) ?_ (by rfl) (by kernel_rfl) (fun _ _ _ h => h) ?_ hHeld ?_; rotate_left
        · intro o ho; simp only [List.getElem?_toArray, List.getElem?_cons_succ, List.getElem?_cons_zero, Option.some.injEq] at ho; subst ho; refine ⟨by rfl, fun w hSw => ?_⟩; try dsimp only at hSw
          go_simp; try with_reducible rfl
        try simp only [Act.put, List.setIfInBounds_toArray, List.set_cons_zero, List.set_cons_succ]
        refine oneH 25 (by kernel_rfl) (by rfl) (fun o ho K hK => ?_)
        simp only [List.getElem?_toArray, List.getElem?_cons_succ, List.getElem?_cons_zero, Option.some.injEq] at ho
        subst ho
        go_simp
        refine (sure_calls _ _ x5 (TX.out.f.below b5').cells.2.1).mono ?_
        rintro e x6 ⟨rfl, rfl⟩
        try go_wp2_with fail
        refine hK.out _ _ ?_ (fun hHeld2 => ?_)
        · exact hHeld
        clear hK K hHeld
        rename _ => hHeld
        try simp only [Act.put, List.setIfInBounds_toArray, List.set_cons_zero, List.set_cons_succ]
        refine tk 31 (some 159) ?_ (by rfl) (by kernel_rfl) (fun _ _ _ h => h) ?_ hHeld ?_; rotate_left
        · intro o ho; simp only [List.getElem?_toArray, List.getElem?_cons_succ, List.getElem?_cons_zero, Option.some.injEq] at ho; subst ho; refine ⟨by rfl, fun w hSw => ?_⟩; try dsimp only at hSw
          go_simp; try with_reducible rfl
        try simp only [Act.put, List.setIfInBounds_toArray, List.set_cons_zero, List.set_cons_succ]
        refine tk 32 (some 160) ?_ (by rfl) (by kernel_rfl) (fun _ _ _ h => h) ?_ hHeld ?_; rotate_left
        · intro o ho; simp only [List.getElem?_toArray, List.getElem?_cons_succ, List.getElem?_cons_zero, Option.some.injEq] at ho; subst ho; refine ⟨by rfl, fun w hSw => ?_⟩; try dsimp only at hSw
          go_simp; try with_reducible rfl
        try simp only [Act.put, List.setIfInBounds_toArray, List.set_cons_zero, List.set_cons_succ]
        refine wpAnyH_done (by kernel_rfl) ?_ _
        have TY := Aside0.mk (TX.out.below b5')
        have BY := Aside0.mk (BX.out.trans (b5'.mono BX.out.size))
        clear hHeld b1' b2' b3' b5' b1'' b2'' b5'' r1' r2' r5' hd dd yr TX BX
        go_wp2_with fail
        go_roundw
        case rel => exact ⟨k + 1, by omega, by go_num, ⟨p, qf, Af, cf, nn, r, qF, AF, cF, nF, lF, qL, AL, cL, nL, lL, cr, rfl, rfl, TY.out, HL.out⟩, BY.out⟩
        case measure => simp [intOf]; omega
    · obtain rfl : n = k := by omega
      have HB := Aside0.mk hB
      clear hST hB
      go_wp2_with fail
      refine (awake_calls wr).mono ?_
      rintro e wz ⟨rfl, bz⟩
      have BZ := Aside0.mk (below_step HB.out bz)
      clear bz
      go_wp2_with fail
      go_ret
      exact ⟨rfl, BZ.out⟩

theorem plays_calls (most : Int) (A : Option Addr) (n c : Nat) (ml : Nat → Nat) (W : World) (_ : (Lit.int .i64 most).wf = true) (h : Acts W A n ml) :
    Calls Try.prog 4 #[.int .i64 most, .slice A n c] W fun e W' => e = .returned (.bool true) ∧ Below W.heap.size W W' := by
  by_cases hm : most < 1 ∨ 67108864 < most
  · exact plays_few most A n c ml W h (.inr hm)
  · by_cases hf : n ≤ 60 ∧ ∀ i, i < n → ml i ≤ 100
    · exact plays_ok most (by omega) (by omega) A n c ml W h hf.1 hf.2
    · exact plays_few most A n c ml W h (.inl hf)
end Go.Proofs.Ytfbpfogmnaahpaa
