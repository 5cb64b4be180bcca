/-
  Files: the chapter's example.
-/
import Derived.Test.YtfbpfogmnaahpaaA5
namespace Go.Proofs.Ytfbpfogmnaahpaa
open Go.RowKit Go.Proofs.YtfbpfogmnaahpaaW.PrintWords

theorem lit_row {W W' : World} (cs : Array Value) (l : List Int) (n : Nat) (hn : l.length = n) (hc : cs = (nums .u8 l).toArray) (hb : ∀ x ∈ l, 0 ≤ x ∧ x < 256) (hm : n ≤ 140737488355328) (h : W.alloc (.cells cs 5) = W') :
    Row W' W.heap.size (some W.heap.size) (some ⟨W.heap.size, 0, none⟩) n l := by
  subst h hc hn
  exact ⟨hb, .inr ⟨W.heap.size, _, rfl, rfl, Nat.le_refl _, heap_alloc_new W _, Nat.le_refl _, by simp [nums], by unfold maxLen; omega, List.take_of_length_le (by simp [nums])⟩⟩
theorem same_below {W W' : World} (h : Drawn0 W W') : Below W.heap.size W W' := by
  obtain ⟨q, rfl⟩ := h
  exact pw_below_drewN (Below.refl _ _) q

set_option maxRecDepth 20000 in
set_option maxHeartbeats 8000000 in
theorem awake_calls (W : World) : Calls Try.prog 8 #[] W fun e W' => e = .returned (.bool true) ∧ Below W.heap.size W W' := by
  go_enter Try.func8, Try.ntmps8
  go_wp2_with fail
  refine (new_calls 5 (by decide) (by decide) W.heap.size W (Nat.le_refl _)).mono ?_
  rintro e w1 ⟨rfl, f1, b1⟩
  have B1 := Aside0.mk b1
  have F1 := Aside0.mk f1
  clear f1 b1
  go_wp2_with fail
  obtain ⟨w2, hw2⟩ : ∃ w2, w1.alloc (.cells #[.int .u8 1, .int .u8 2] 5) = w2 := ⟨_, rfl⟩
  rw [hw2]
  have Y2 := lit_row _ [1, 2] 2 rfl rfl (by decide) (by decide) hw2
  have B2 := below_step B1.out (grow hw2)
  refine (append_calls _ _ _ _ _ _ _ _ _ _ _ 2 [1, 2] w2 (F1.out.below (grow hw2)) Y2.bs rfl (by decide) (by decide) B2.size).mono ?_
  rintro e w3 ⟨rfl, A3, c3, q3, f3, d3, h3⟩
  have F3 := Aside0.mk (show FileAt w3 W.heap.size W.heap.size q3 A3 c3 2 [1, 2] 0 5 false from f3)
  have B3 := Aside0.mk (B2.trans d3.below)
  clear hw2 Y2 B2 F1 B1 f3 d3 h3
  go_wp2_with fail
  refine (flush_calls _ _ _ _ _ _ _ _ _ w3 F3.out B3.out.size).mono ?_
  rintro e w4 ⟨rfl, f4, d4⟩
  have F4 := Aside0.mk f4
  have B4 := Aside0.mk (B3.out.trans d4.below)
  clear f4 d4 F3 B3
  go_wp2_with fail
  obtain ⟨w5, hw5⟩ : ∃ w5, w4.alloc (.cells #[.int .u8 3, .int .u8 4] 5) = w5 := ⟨_, rfl⟩
  rw [hw5]
  have Y5 := lit_row _ [3, 4] 2 rfl rfl (by decide) (by decide) hw5
  have B5 := B4.out.trans ((grow hw5).mono B4.out.size)
  refine (append_calls _ _ _ _ _ _ _ _ _ _ _ 2 [3, 4] w5 (F4.out.below (grow hw5)) Y5.bs rfl (by decide) (by decide) B5.size).mono ?_
  rintro e w6 ⟨rfl, A6, c6, q6, f6, d6, h6⟩
  have F6 := Aside0.mk (show FileAt w6 W.heap.size W.heap.size q6 A6 c6 4 [1, 2, 3, 4] 2 5 false from f6)
  have B6 := Aside0.mk (B5.trans d6.below)
  clear hw5 Y5 B5 F4 B4 f6 d6 h6
  go_wp2_with fail
  obtain ⟨w7, hw7⟩ : ∃ w7, w6.alloc (.cells #[.int .u8 5, .int .u8 6] 5) = w7 := ⟨_, rfl⟩
  rw [hw7]
  refine (append_full _ _ _ _ _ _ _ _ _ _ 2 _ w7 (F6.out.below (grow hw7)) (by decide)).mono ?_
  rintro e w8 ⟨rfl, b8⟩
  have F8 := Aside0.mk ((F6.out.below (grow hw7)).below b8)
  have B8 := Aside0.mk (B6.out.trans ((below_step (grow hw7) b8).mono B6.out.size))
  clear hw7 b8 F6 B6
  go_wp2_with fail
  obtain ⟨w9, hw9⟩ : ∃ w9, w8.alloc (.cells #[.int .u8 255] 5) = w9 := ⟨_, rfl⟩
  rw [hw9]
  have Y9 := lit_row _ [255] 1 rfl rfl (by decide) (by decide) hw9
  have hs9 : w8.heap.size < w9.heap.size := by rw [← hw9]; simp
  have F9 := F8.out.below (grow hw9)
  refine (crash_calls _ _ _ _ _ _ _ _ _ 1 3 rfl (by decide) _ _ 1 [255] 1 rfl w9 F9 Y9.bs rfl (by
    intro _ a ha
    injection ha with ha
    subst ha
    exact ⟨by have := F8.out.lt; simp; omega, fun e => by have := (F8.out.row.size _ e.symm).2; simp at this⟩) (B8.out.trans ((grow hw9).mono B8.out.size)).size).mono ?_
  rintro e w10 ⟨rfl, f10, d10⟩
  have F10 := Aside0.mk (show FileAt w10 W.heap.size W.heap.size q6 A6 3 3 [1, 2, 252] 2 5 true from f10)
  have B10 := Aside0.mk ((B8.out.trans ((grow hw9).mono B8.out.size)).trans d10.below)
  clear hw9 Y9 hs9 F9 f10 d10 F8 B8
  go_wp2_with fail
  refine (append_crashed _ _ _ _ _ _ _ _ _ _ _ _ w10 F10.out).mono ?_
  rintro e w11 ⟨rfl, rfl⟩
  go_wp2_with fail
  refine (open_calls _ _ _ _ _ _ _ _ _ _ w10 F10.out (by decide) B10.out.size).mono ?_
  rintro e w12 ⟨p', q', A', c', rfl, f12, hp12, hq12, b12⟩
  have G12 := Aside0.mk f12
  have F12 := Aside0.mk (F10.out.below b12)
  have B12 := Aside0.mk (B10.out.trans (b12.mono B10.out.size))
  clear f12 hp12 hq12 b12 F10 B10
  go_wp2_with fail
  obtain ⟨y0, y1, -, -⟩ := F12.out.cells
  refine (bytes_calls _ _ _ _ [1, 2, 252] rfl (by decide) w12 y0 F12.out.bs).mono ?_
  rintro e w13 ⟨A13, c13, q13, rfl, hr, b13⟩
  have R13 := Aside0.mk hr
  have F13 := Aside0.mk (F12.out.below b13)
  have G13 := Aside0.mk (G12.out.below b13)
  have B13 := Aside0.mk (B12.out.trans (b13.mono B12.out.size))
  clear hr b13 y0 y1 F12 G12 B12
  go_wp2_with fail
  obtain ⟨w14, hw14⟩ : ∃ w14, w13.alloc (.cells #[.int .u8 1, .int .u8 2, .int .u8 252] 5) = w14 := ⟨_, rfl⟩
  rw [hw14]
  have Y14 := lit_row _ [1, 2, 252] 3 rfl rfl (by decide) (by decide) hw14
  have g14 := grow hw14
  refine (same_calls _ _ 3 [1, 2, 252] rfl _ _ 3 [1, 2, 252] rfl w14 (R13.out.below g14).bs Y14.bs).mono ?_
  rintro e w15 ⟨rfl, hd⟩
  have F15 := Aside0.mk ((F13.out.below g14).below (same_below hd))
  have G15 := Aside0.mk ((G13.out.below g14).below (same_below hd))
  have B15 := Aside0.mk (B13.out.trans ((below_step g14 (same_below hd)).mono B13.out.size))
  clear hw14 Y14 g14 hd R13 F13 G13 B13
  have dd : decide ((([1, 2, 252] : List Int)) = [1, 2, 252]) = true := by decide
  rw [dd]
  clear dd
  go_wp2_with fail
  obtain ⟨-, y1, -, -⟩ := F15.out.cells
  refine (sure_calls _ _ w15 y1).mono ?_
  rintro e w16 ⟨rfl, rfl⟩
  clear y1
  go_wp2_with fail
  obtain ⟨-, y1, -, -⟩ := G15.out.cells
  refine (sure_calls _ _ w15 y1).mono ?_
  rintro e w16 ⟨rfl, rfl⟩
  clear y1
  go_wp2
  go_ret
  exact ⟨rfl, B15.out⟩
end Go.Proofs.Ytfbpfogmnaahpaa
