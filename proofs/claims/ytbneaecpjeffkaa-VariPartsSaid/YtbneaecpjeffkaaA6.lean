/-
  The walk of awake: the chapter's examples.
-/
import Derived.Test.YtbneaecpjeffkaaA5
import Derived.Test.YtbneaecpjeffkaaB2
namespace Go.Proofs.Ytbneaecpjeffkaa
open Go.RowKit Go.Proofs.YtbneaecpjeffkaaW.PrintWords

theorem all_n (A : Option Addr) (n c : Nat) (l : List Int) (hn : l.length = n) (hl : n ≤ 1000) (w : World) (h : Bs w A c l) :
    Calls Try.prog 12 #[.slice A n c] w fun e w' => ∃ A' c', e = .returned (.tuple #[.slice A' (Pl.all l).1.length c', .int .i64 ((Pl.all l).2.1 : Nat), .int .i64 (Pl.all l).2.2]) ∧ OwnU w' w.heap.size A' c' (Pl.all l).1 ∧ Below w.heap.size w w' := by subst hn; exact all_calls A c l hl w h
theorem refall_n (A : Option Addr) (n c : Nat) (l : List Int) (hn : l.length = n) (hl : n ≤ 1000) (w : World) (h : Bs w A c l) :
    Calls Try.prog 13 #[.slice A n c] w fun e w' => ∃ A' c', e = .returned (.tuple #[.slice A' (Pl.all l).1.length c', .int .i64 ((Pl.all l).2.1 : Nat), .int .i64 (Pl.all l).2.2]) ∧ OwnU w' w.heap.size A' c' (Pl.all l).1 ∧ Below w.heap.size w w' := by subst hn; exact refall_calls A c l hl w h
theorem lit_bs (W : World) (l : List Int) (hl : ∀ x ∈ l, 0 ≤ x ∧ x < 256) (n : Nat) (hn : l.length = n) (hm : n ≤ 9223372036854775807) (cs : Array Value) (h : cs = (nums .u8 l).toArray) :
    Bs (W.alloc (.cells cs 5)) (some ⟨W.heap.size, 0, none⟩) n l := by
  subst hn
  exact (own_block .u8 5 256 W l hl cs h hm).ks
theorem get_x1 : Pl.get [128, 0] = (0, 0, 11) := by decide
theorem get_x2 : Pl.get [128] = (0, 0, 13) := by decide
theorem get_x3 : Pl.get [255, 255, 255, 255, 255, 255, 255, 255, 255, 2] = (0, 0, 10) := by decide +kernel
theorem all_x4 : Pl.all [172, 2, 5] = ([300, 5], 0, 0) := by decide +kernel
theorem all_x5 : Pl.all [5, 128] = ([], 1, 13) := by decide +kernel
/-- Get at given bytes. -/
theorem get_at (A : Option Addr) (n c : Nat) (l : List Int) (hn : l.length = n) (w : World) (h : Bs w A c l) (a b : Nat) (e : Int) (hg : Pl.get l = (a, b, e)) (a' b' : Int) (ha : a' = a) (hb : b' = b) :
    Calls Try.prog 10 #[.slice A n c] w fun x w' => x = .returned (.tuple #[.int .u64 a', .int .i64 b', .int .i64 e]) ∧ w = w' := by
  subst ha hb
  have := get_n A n c l hn w h
  rw [hg] at this
  exact this
theorem all_at (A : Option Addr) (n c : Nat) (l : List Int) (hn : l.length = n) (hl : n ≤ 1000) (w : World) (h : Bs w A c l) (a : List Int) (b : Nat) (e : Int) (hg : Pl.all l = (a, b, e)) (k : Nat) (hk : a.length = k) (b' : Int) (hb : b' = b) :
    Calls Try.prog 12 #[.slice A n c] w fun x w' => ∃ A' c', x = .returned (.tuple #[.slice A' k c', .int .i64 b', .int .i64 e]) ∧ OwnU w' w.heap.size A' c' a ∧ Below w.heap.size w w' := by
  subst hb hk
  have := all_n A n c l hn hl w h
  rw [hg] at this
  exact this
theorem put300 : Pl.put 300 = [172, 2] := by rw [put_big (by decide), put_small (by decide)]; rfl

set_option maxRecDepth 100000 in
set_option maxHeartbeats 2000000 in
theorem awake_calls (w : World) : Calls Try.prog 9 #[] w fun e w' => e = .returned (.bool true) ∧ Below w.heap.size w w' := by
  go_enter Try.func9, Try.ntmps9
  go_wp2_with fail
  refine (get_at _ 2 2 [128, 0] rfl _ (lit_bs w [128, 0] (by decide) 2 rfl (by decide) #[.int .u8 128, .int .u8 0] rfl) 0 0 11 get_x1 0 0 rfl rfl).mono ?_
  rintro e w1 ⟨rfl, hw⟩
  have B1 := Aside0.mk (show Below w.heap.size w w1 from hw ▸ (Below.refl w.heap.size w).alloc (Nat.le_refl _) (.cells #[.int .u8 128, .int .u8 0] 5))
  clear hw
  simp only []
  repeat go_step
  refine (get_at _ 1 1 [128] rfl _ (lit_bs w1 [128] (by decide) 1 rfl (by decide) #[.int .u8 128] rfl) 0 0 13 get_x2 0 0 rfl rfl).mono ?_
  rintro e w2 ⟨rfl, hw⟩
  have B2 := Aside0.mk (show Below w.heap.size w w2 from hw ▸ B1.out.alloc B1.out.size (.cells #[.int .u8 128] 5))
  clear hw
  simp only []
  repeat go_step
  refine (get_at _ 10 10 [255, 255, 255, 255, 255, 255, 255, 255, 255, 2] rfl _ (lit_bs w2 [255, 255, 255, 255, 255, 255, 255, 255, 255, 2] (by decide) 10 rfl (by decide) #[.int .u8 255, .int .u8 255, .int .u8 255, .int .u8 255, .int .u8 255, .int .u8 255, .int .u8 255, .int .u8 255, .int .u8 255, .int .u8 2] rfl) 0 0 10 get_x3 0 0 rfl rfl).mono ?_
  rintro e w3 ⟨rfl, hw⟩
  have B3 := Aside0.mk (show Below w.heap.size w w3 from hw ▸ B2.out.alloc B2.out.size (.cells #[.int .u8 255, .int .u8 255, .int .u8 255, .int .u8 255, .int .u8 255, .int .u8 255, .int .u8 255, .int .u8 255, .int .u8 255, .int .u8 2] 5))
  clear hw
  simp only []
  repeat go_step
  refine (all_at _ 3 3 [172, 2, 5] rfl (by decide) _ (lit_bs w3 [172, 2, 5] (by decide) 3 rfl (by decide) #[.int .u8 172, .int .u8 2, .int .u8 5] rfl) [300, 5] 0 0 all_x4 2 rfl 0 rfl).mono ?_
  rintro e w4 ⟨A4, c4, rfl, h4, b4⟩
  have H4 := Aside0.mk h4
  have B4 := Aside0.mk (below_step (B3.out.alloc B3.out.size (.cells #[.int .u8 172, .int .u8 2, .int .u8 5] 5)) b4)
  clear h4 b4
  simp only []
  repeat go_step
  refine (all_at _ 2 2 [5, 128] rfl (by decide) _ (lit_bs w4 [5, 128] (by decide) 2 rfl (by decide) #[.int .u8 5, .int .u8 128] rfl) [] 1 13 all_x5 0 rfl 1 rfl).mono ?_
  rintro e w5 ⟨A5, c5, rfl, -, b5⟩
  have H5 := Aside0.mk (H4.out.below (below_step ((Below.refl w4.heap.size w4).alloc (Nat.le_refl _) (.cells #[.int .u8 5, .int .u8 128] 5)) b5))
  have B5 := Aside0.mk (below_step (B4.out.alloc B4.out.size (.cells #[.int .u8 5, .int .u8 128] 5)) b5)
  clear b5
  simp only []
  repeat go_step
  have G := put_calls 300 (by decide) w5
  rw [put300] at G
  refine G.mono ?_
  clear G
  rintro e w6 ⟨A6, c6, rfl, h6, b6⟩
  have H6 := Aside0.mk (h6.below ((Below.refl w6.heap.size w6).alloc (Nat.le_refl _) (.cells #[.int .u8 172, .int .u8 2] 5)))
  have H56 := Aside0.mk (H5.out.below (below_step b6 ((Below.refl w6.heap.size w6).alloc (Nat.le_refl _) (.cells #[.int .u8 172, .int .u8 2] 5))))
  have B6 := Aside0.mk (below_step B5.out b6)
  clear h6 b6
  simp only []
  repeat go_step
  refine (same_n A6 2 c6 [172, 2] rfl _ 2 2 [172, 2] rfl _ H6.out.ks (lit_bs w6 [172, 2] (by decide) 2 rfl (by decide) #[.int .u8 172, .int .u8 2] rfl)).mono ?_
  rintro e w7 ⟨rfl, ⟨q, rfl⟩⟩
  simp only []
  repeat go_step
  obtain ⟨W7, hW7⟩ : ∃ W7, (w6.alloc (.cells #[.int .u8 172, .int .u8 2] 5)).drewN q = W7 := ⟨_, rfl⟩
  have hs7 : W7.heap.size = w6.heap.size + 1 := by rw [← hW7]; simp
  have H7 : Us W7 A4 c4 [300, 5] := hW7 ▸ (H56.out.drewN q).ks
  have B7 : Below w.heap.size w W7 := hW7 ▸ pw_below_drewN (B6.out.alloc B6.out.size _) q
  rw [hW7]
  clear hW7
  have H8 := (own_block .u64 24 B64 W7 [300, 5] (by unfold B64; decide) #[.int .u64 300, .int .u64 5] rfl (by decide)).ks
  have b8 : Below W7.heap.size W7 (W7.alloc (.cells #[.int .u64 300, .int .u64 5] 24)) := (Below.refl _ _).alloc (Nat.le_refl _) _
  rw [hs7] at H8
  refine (nums_n A4 2 c4 [300, 5] rfl _ 2 2 [300, 5] rfl _ (H7.below b8) H8).mono ?_
  have B8 := Aside0.mk (below_step B7 b8)
  rintro e w9 ⟨rfl, hw⟩
  obtain ⟨q2, hw⟩ := hw
  have B9 := Aside0.mk (show Below w.heap.size w w9 from hw ▸ pw_below_drewN B8.out q2)
  clear hw B8 b8 H8 H7 B7 hs7
  simp only []
  repeat go_step
  go_ret
  exact ⟨by simp, B9.out⟩
end Go.Proofs.Ytbneaecpjeffkaa
