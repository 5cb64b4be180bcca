/-
  Files: Crash.
-/
import Derived.Test.YtfbpfogmnaahpaaA4
import Derived.StillTailTactics
import Derived.Laws.BitsAllLaws
namespace Go.Proofs.Ytfbpfogmnaahpaa
open Go.RowKit Go.Proofs.YtfbpfogmnaahpaaW.PrintWords

/-- Bytes, of which those from s on are garbled, the first j of the garble. -/
def grb (s : Nat) (ys l : List Int) : Nat → List Int
  | 0 => l
  | j + 1 => (grb s ys l j).set (s + j) (bits .xor .u8 (rd (grb s ys l j) ((s + j : Nat) : Int)) (rd ys j))
theorem grb_length (s : Nat) (ys l : List Int) (j : Nat) : (grb s ys l j).length = l.length := by
  induction j with
  | zero => rfl
  | succ j ih => simp [grb, ih]
theorem xor_byte {a b : Int} (ha : 0 ≤ a ∧ a < 256) (hb : 0 ≤ b ∧ b < 256) : 0 ≤ bits .xor .u8 a b ∧ bits .xor .u8 a b < 256 := by
  rw [u8_xor a b ha.1 ha.2 hb.1 hb.2]
  have := Nat.xor_lt_two_pow (n := 8) (x := a.toNat) (y := b.toNat) (by omega) (by omega)
  omega
theorem Row.setByte {W : World} {b g : Nat} {c : Nat} {l : List Int} (h : Row W b (some g) (some ⟨g, 0, none⟩) c l) (i : Nat) (x : Int) (hx : 0 ≤ x ∧ x < 256) :
    Row (W.setCell ⟨g, i, none⟩ (.int .u8 x)) b (some g) (some ⟨g, 0, none⟩) c (l.set i x) := by
  refine ⟨fun y hy => ?_, ?_⟩
  · rcases List.mem_or_eq_of_mem_set hy with hy | rfl
    · exact h.byte y hy
    · exact hx
  · rcases h.lies with ⟨h1, _⟩ | ⟨g', cur, h1, _, h3, h4, h5, h6, h7, h8⟩
    · cases h1
    · injection h1 with h1
      subst h1
      refine .inr ⟨g, _, rfl, rfl, h3, heap_setCell_same W g i cur 5 _ h4, by simpa using h5, by simpa using h6, h7, ?_⟩
      rw [List.length_set, Array.toList_setIfInBounds, List.take_set, h8]
      simp [nums]
theorem Row.at_some {W : World} {b : Nat} {q : Option Nat} {A : Option Addr} {c : Nat} {l : List Int} (h : Row W b q A c l) (hl : 0 < l.length) : ∃ g, q = some g ∧ A = some ⟨g, 0, none⟩ := by
  rcases h.lies with ⟨_, _, rfl, _⟩ | ⟨g, cur, h1, h2, _⟩
  · simp at hl
  · exact ⟨g, h1, h2⟩
theorem Row.frozen {W : World} {b g : Nat} {A : Option Addr} {c : Nat} {l : List Int} (h : Row W b (some g) A c l) (i : Nat) : W.frozen? ⟨g, i, none⟩ = false := by
  rcases h.lies with ⟨_, _, _, h1⟩ | ⟨g', cur, h1, _, _, h4, _⟩
  · cases h1
  · injection h1 with h1
    subst h1
    unfold World.frozen?
    simp only [h4]
    simp
theorem Bs.did {W W' : World} {b p : Nat} {q : Option Nat} {A : Option Addr} {c : Nat} {l : List Int} (h : Bs W A c l) (hd : Did b W W' p q) (hA : 0 < l.length → ∀ a, A = some a → a.block ≠ p ∧ some a.block ≠ q) : Bs W' A c l := by
  refine ⟨⟨h.reads.1, h.reads.2.1, fun hn => ?_⟩, h.cap, h.byte⟩
  obtain ⟨ad, e, hc⟩ := h.reads.2.2 hn
  refine ⟨ad, e, fun j hj => ?_⟩
  have hb : (ad.add j).block = ad.block := by unfold Addr.add; split <;> rfl
  have hk := hd.kept ad.block (by rw [← hb]; exact World.block_lt_of_cell? W _ (hc j hj)) (hA hn ad e).1 (hA hn ad e).2
  have := hc j hj
  unfold World.cell? at this ⊢
  rw [hb] at this ⊢
  rw [hk]
  exact this
theorem Did.trans {b : Nat} {W W1 W2 : World} {p : Nat} {q : Option Nat} (h : Did b W W1 p q) (h2 : Did b W1 W2 p q) : Did b W W2 p q :=
  ⟨h.below.trans h2.below, fun k hk h1 h3 => (h2.kept k (Nat.lt_of_lt_of_le hk h.below.size) h1 h3).trans (h.kept k hk h1 h3)⟩

theorem crash_nil (k : Int) (X : Option Addr) (m cx : Nat) (w : World) : Calls Try.prog 12 #[.pointer none, .int .i64 k, .slice X m cx] w fun e w' => e = .returned (.int .i64 2) ∧ w = w' := by
  go_enter Try.func12, Try.ntmps12
  go_wp2_with fail
  refine (check_nil w).mono ?_
  rintro e w' ⟨rfl, rfl⟩
  go_wp2
  go_ret
  simp
theorem crash_crashed (b p : Nat) (q : Option Nat) (A : Option Addr) (c n : Nat) (l : List Int) (s : Nat) (most : Int) (k : Int) (X : Option Addr) (m cx : Nat) (w : World) (h : FileAt w b p q A c n l s most true) :
    Calls Try.prog 12 #[.pointer (some ⟨p, 0, none⟩), .int .i64 k, .slice X m cx] w fun e w' => e = .returned (.int .i64 25) ∧ w = w' := by
  obtain ⟨-, -, -, y3⟩ := h.cells
  clear h
  go_enter Try.func12, Try.ntmps12
  go_wp2_with fail
  refine (check_calls p true 25 rfl w y3).mono ?_
  rintro e w' ⟨rfl, rfl⟩
  go_wp2
  go_ret
  simp
set_option maxHeartbeats 1000000 in
theorem crash_range (b p : Nat) (q : Option Nat) (A : Option Addr) (c n : Nat) (l : List Int) (s : Nat) (most : Int) (k : Int) (X : Option Addr) (m cx : Nat) (w : World) (h : FileAt w b p q A c n l s most false) (hk : k < 0 ∨ (n : Int) - s < k) :
    Calls Try.prog 12 #[.pointer (some ⟨p, 0, none⟩), .int .i64 k, .slice X m cx] w fun e w' => e = .returned (.int .i64 10) ∧ Below w.heap.size w w' := by
  obtain ⟨y0, y1, -, y3⟩ := h.cells
  have hw : IntKind.i64.wrap ((n : Int) - (s : Int)) = (n : Int) - s := wrap_in (by have := h.sure; omega) (by have := h.nlt; omega)
  clear h
  by_cases c1 : k < 0
  · have d1 : decide (k < 0) = true := by simpa using c1
    clear hk
    go_enter Try.func12, Try.ntmps12
    go_wp2_with fail
    refine (check_calls p false 0 rfl w y3).mono ?_
    rintro e w' ⟨rfl, rfl⟩
    go_wp2_with fail
    refine wp_region_held_drew (S := fun w' => w'.cell? ⟨p, 0, none⟩ = some (.slice A n c) ∧ w'.cell? ⟨p, 1, none⟩ = some (.int .i64 s)) (by kernel_rfl) ?_ (fun hHeld => ?_)
    · exact ⟨y0, y1⟩
    refine takeH 0 (some 15) ?_ (by rfl) (by kernel_rfl) (by kernel_rfl) (by kernel_rfl) (fun _ _ _ h => h) ?_ hHeld ?_
    rotate_left
    · intro o ho
      simp only [List.getElem?_toArray, List.getElem?_cons_zero, Option.some.injEq] at ho
      subst ho
      refine ⟨by rfl, fun w hSw => ?_⟩
      try dsimp only at hSw
      go_simp
      try with_reducible rfl
    try simp only [Act.put, List.setIfInBounds_toArray, List.set_cons_zero, List.set_cons_succ]
    refine takeH 1 (some 16) ?_ (by rfl) (by kernel_rfl) (by kernel_rfl) (by kernel_rfl) (fun _ _ _ h => h) ?_ hHeld ?_
    rotate_left
    · intro o ho
      simp only [List.getElem?_toArray, List.getElem?_cons_succ, List.getElem?_cons_zero, Option.some.injEq] at ho
      subst ho
      refine ⟨by rfl, fun w hSw => ?_⟩
      try dsimp only at hSw
      go_simp
      try with_reducible rfl
    try simp only [Act.put, List.setIfInBounds_toArray, List.set_cons_zero, List.set_cons_succ]
    refine takeH 2 (some 17) ?_ (by rfl) (by kernel_rfl) (by kernel_rfl) (by kernel_rfl) (fun _ _ _ h => h) ?_ hHeld ?_
    rotate_left
    · intro o ho
      simp only [List.getElem?_toArray, List.getElem?_cons_succ, List.getElem?_cons_zero, Option.some.injEq] at ho
      subst ho
      refine ⟨by rfl, fun w hSw => ?_⟩
      try dsimp only at hSw
      go_simp
      try with_reducible rfl
    try simp only [Act.put, List.setIfInBounds_toArray, List.set_cons_zero, List.set_cons_succ]
    refine skipH 3 (some 18) (by rfl) (by kernel_rfl) (by kernel_rfl) (by kernel_rfl) (fun _ _ _ h => h) (by rfl) hHeld ?_
    try simp only [Act.put, List.setIfInBounds_toArray, List.set_cons_zero, List.set_cons_succ]
    refine skipH 4 (some 19) (by rfl) (by kernel_rfl) (by kernel_rfl) (by kernel_rfl) (fun _ _ _ h => h) (by rfl) hHeld ?_
    try simp only [Act.put, List.setIfInBounds_toArray, List.set_cons_zero, List.set_cons_succ]
    refine skipH 5 (some 20) (by rfl) (by kernel_rfl) (by kernel_rfl) (by kernel_rfl) (fun _ _ _ h => h) (by rfl) hHeld ?_
    try simp only [Act.put, List.setIfInBounds_toArray, List.set_cons_zero, List.set_cons_succ]
    refine skipH 6 (some 21) (by rfl) (by kernel_rfl) (by kernel_rfl) (by kernel_rfl) (fun _ _ _ h => h) (by rfl) hHeld ?_
    try simp only [Act.put, List.setIfInBounds_toArray, List.set_cons_zero, List.set_cons_succ]
    refine skipH 7 (some 22) (by rfl) (by kernel_rfl) (by kernel_rfl) (by kernel_rfl) (fun _ _ _ h => h) (by rfl) hHeld ?_
    try simp only [Act.put, List.setIfInBounds_toArray, List.set_cons_zero, List.set_cons_succ]
    refine skipH 8 (some 23) (by rfl) (by kernel_rfl) (by kernel_rfl) (by kernel_rfl) (fun _ _ _ h => h) (by rfl) hHeld ?_
    try simp only [Act.put, List.setIfInBounds_toArray, List.set_cons_zero, List.set_cons_succ]
    refine skipH 9 (some 24) (by rfl) (by kernel_rfl) (by kernel_rfl) (by kernel_rfl) (fun _ _ _ h => h) (by rfl) hHeld ?_
    try simp only [Act.put, List.setIfInBounds_toArray, List.set_cons_zero, List.set_cons_succ]
    refine skipH 10 (some 25) (by rfl) (by kernel_rfl) (by kernel_rfl) (by kernel_rfl) (fun _ _ _ h => h) (by rfl) hHeld ?_
    try simp only [Act.put, List.setIfInBounds_toArray, List.set_cons_zero, List.set_cons_succ]
    refine skipH 11 (some 26) (by rfl) (by kernel_rfl) (by kernel_rfl) (by kernel_rfl) (fun _ _ _ h => h) (by rfl) hHeld ?_
    try simp only [Act.put, List.setIfInBounds_toArray, List.set_cons_zero, List.set_cons_succ]
    refine skipH 12 (some 27) (by rfl) (by kernel_rfl) (by kernel_rfl) (by kernel_rfl) (fun _ _ _ h => h) (by rfl) hHeld ?_
    try simp only [Act.put, List.setIfInBounds_toArray, List.set_cons_zero, List.set_cons_succ]
    refine skipH 13 (some 28) (by rfl) (by kernel_rfl) (by kernel_rfl) (by kernel_rfl) (fun _ _ _ h => h) (by rfl) hHeld ?_
    try simp only [Act.put, List.setIfInBounds_toArray, List.set_cons_zero, List.set_cons_succ]
    refine skipH 14 (some 29) (by rfl) (by kernel_rfl) (by kernel_rfl) (by kernel_rfl) (fun _ _ _ h => h) (by rfl) hHeld ?_
    try simp only [Act.put, List.setIfInBounds_toArray, List.set_cons_zero, List.set_cons_succ]
    refine takeH 15 (some 30) ?_ (by rfl) (by kernel_rfl) (by kernel_rfl) (by kernel_rfl) (fun _ _ _ h => h) ?_ hHeld ?_
    rotate_left
    · intro o ho
      simp only [List.getElem?_toArray, List.getElem?_cons_succ, List.getElem?_cons_zero, Option.some.injEq] at ho
      subst ho
      refine ⟨by rfl, fun w hSw => ?_⟩
      try dsimp only at hSw
      go_simp
      try with_reducible rfl
    try simp only [Act.put, List.setIfInBounds_toArray, List.set_cons_zero, List.set_cons_succ]
    refine wpAnyH_done (by kernel_rfl) ?_ _
    go_wp2
    go_ret
    exact ⟨rfl, (Below.refl _ _).drew⟩
  · have c2 : (n : Int) - s < k := by omega
    have d1 : decide (k < 0) = false := by simpa using c1
    have d2 : decide ((n : Int) - (s : Int) < k) = true := by simpa using c2
    clear hk
    go_enter Try.func12, Try.ntmps12
    go_wp2_with fail
    refine (check_calls p false 0 rfl w y3).mono ?_
    rintro e w' ⟨rfl, rfl⟩
    go_wp2_with fail
    refine wp_region_held_drew (S := fun w' => w'.cell? ⟨p, 0, none⟩ = some (.slice A n c) ∧ w'.cell? ⟨p, 1, none⟩ = some (.int .i64 s)) (by kernel_rfl) ?_ (fun hHeld => ?_)
    · exact ⟨y0, y1⟩
    refine takeH 0 (some 15) ?_ (by rfl) (by kernel_rfl) (by kernel_rfl) (by kernel_rfl) (fun _ _ _ h => h) ?_ hHeld ?_
    rotate_left
    · intro o ho
      simp only [List.getElem?_toArray, List.getElem?_cons_zero, Option.some.injEq] at ho
      subst ho
      refine ⟨by rfl, fun w hSw => ?_⟩
      try dsimp only at hSw
      go_simp
      try with_reducible rfl
    try simp only [Act.put, List.setIfInBounds_toArray, List.set_cons_zero, List.set_cons_succ]
    refine takeH 1 (some 16) ?_ (by rfl) (by kernel_rfl) (by kernel_rfl) (by kernel_rfl) (fun _ _ _ h => h) ?_ hHeld ?_
    rotate_left
    · intro o ho
      simp only [List.getElem?_toArray, List.getElem?_cons_succ, List.getElem?_cons_zero, Option.some.injEq] at ho
      subst ho
      refine ⟨by rfl, fun w hSw => ?_⟩
      try dsimp only at hSw
      go_simp
      try with_reducible rfl
    try simp only [Act.put, List.setIfInBounds_toArray, List.set_cons_zero, List.set_cons_succ]
    refine takeH 2 (some 17) ?_ (by rfl) (by kernel_rfl) (by kernel_rfl) (by kernel_rfl) (fun _ _ _ h => h) ?_ hHeld ?_
    rotate_left
    · intro o ho
      simp only [List.getElem?_toArray, List.getElem?_cons_succ, List.getElem?_cons_zero, Option.some.injEq] at ho
      subst ho
      refine ⟨by rfl, fun w hSw => ?_⟩
      try dsimp only at hSw
      go_simp
      try with_reducible rfl
    try simp only [Act.put, List.setIfInBounds_toArray, List.set_cons_zero, List.set_cons_succ]
    refine takeH 3 (some 18) ?_ (by rfl) (by kernel_rfl) (by kernel_rfl) (by kernel_rfl) (fun _ _ _ h => h) ?_ hHeld ?_
    rotate_left
    · intro o ho
      simp only [List.getElem?_toArray, List.getElem?_cons_succ, List.getElem?_cons_zero, Option.some.injEq] at ho
      subst ho
      refine ⟨by rfl, fun w hSw => ?_⟩
      try dsimp only at hSw
      go_simp
      try with_reducible rfl
    try simp only [Act.put, List.setIfInBounds_toArray, List.set_cons_zero, List.set_cons_succ]
    refine takeH 4 (some 19) ?_ (by rfl) (by kernel_rfl) (by kernel_rfl) (by kernel_rfl) (fun _ _ _ h => h) ?_ hHeld ?_
    rotate_left
    · intro o ho
      simp only [List.getElem?_toArray, List.getElem?_cons_succ, List.getElem?_cons_zero, Option.some.injEq] at ho
      subst ho
      refine ⟨by rfl, fun w hSw => ?_⟩
      try dsimp only at hSw
      go_simp
      try with_reducible rfl
    try simp only [Act.put, List.setIfInBounds_toArray, List.set_cons_zero, List.set_cons_succ]
    refine takeH 5 (some 20) ?_ (by rfl) (by kernel_rfl) (by kernel_rfl) (by kernel_rfl) (fun _ _ _ h => h) ?_ hHeld ?_
    rotate_left
    · intro o ho
      simp only [List.getElem?_toArray, List.getElem?_cons_succ, List.getElem?_cons_zero, Option.some.injEq] at ho
      subst ho
      refine ⟨by rfl, fun w hSw => ?_⟩
      try dsimp only at hSw
      go_simp
      try with_reducible rfl
    try simp only [Act.put, List.setIfInBounds_toArray, List.set_cons_zero, List.set_cons_succ]
    refine takeH 6 (some 21) ?_ (by rfl) (by kernel_rfl) (by kernel_rfl) (by kernel_rfl) (fun _ _ _ h => h) ?_ hHeld ?_
    rotate_left
    · intro o ho
      simp only [List.getElem?_toArray, List.getElem?_cons_succ, List.getElem?_cons_zero, Option.some.injEq] at ho
      subst ho
      refine ⟨by rfl, fun w hSw => ?_⟩
      try dsimp only at hSw
      go_simp
      try with_reducible rfl
    try simp only [Act.put, List.setIfInBounds_toArray, List.set_cons_zero, List.set_cons_succ]
    refine takeH 8 (some 23) ?_ (by rfl) (by kernel_rfl) (by kernel_rfl) (by kernel_rfl) (fun _ _ _ h => h) ?_ hHeld ?_
    rotate_left
    · intro o ho
      simp only [List.getElem?_toArray, List.getElem?_cons_succ, List.getElem?_cons_zero, Option.some.injEq] at ho
      subst ho
      refine ⟨by rfl, fun w hSw => ?_⟩
      try dsimp only at hSw
      go_simp
      try with_reducible rfl
    try simp only [Act.put, List.setIfInBounds_toArray, List.set_cons_zero, List.set_cons_succ]
    refine takeH 9 (some 24) ?_ (by rfl) (by kernel_rfl) (by kernel_rfl) (by kernel_rfl) (fun _ _ _ h => h) ?_ hHeld ?_
    rotate_left
    · intro o ho
      simp only [List.getElem?_toArray, List.getElem?_cons_succ, List.getElem?_cons_zero, Option.some.injEq] at ho
      subst ho
      refine ⟨by rfl, fun w hSw => ?_⟩
      try dsimp only at hSw
      go_simp
      try with_reducible rfl
    try simp only [Act.put, List.setIfInBounds_toArray, List.set_cons_zero, List.set_cons_succ]
    refine takeH 10 (some 25) ?_ (by rfl) (by kernel_rfl) (by kernel_rfl) (by kernel_rfl) (fun _ _ _ h => h) ?_ hHeld ?_
    rotate_left
    · intro o ho
      simp only [List.getElem?_toArray, List.getElem?_cons_succ, List.getElem?_cons_zero, Option.some.injEq] at ho
      subst ho
      refine ⟨by rfl, fun w hSw => ?_⟩
      try dsimp only at hSw
      go_simp
      try with_reducible rfl
    try simp only [Act.put, List.setIfInBounds_toArray, List.set_cons_zero, List.set_cons_succ]
    refine takeH 11 (some 26) ?_ (by rfl) (by kernel_rfl) (by kernel_rfl) (by kernel_rfl) (fun _ _ _ h => h) ?_ hHeld ?_
    rotate_left
    · intro o ho
      simp only [List.getElem?_toArray, List.getElem?_cons_succ, List.getElem?_cons_zero, Option.some.injEq] at ho
      subst ho
      refine ⟨by rfl, fun w hSw => ?_⟩
      try dsimp only at hSw
      go_simp
      try with_reducible rfl
    try simp only [Act.put, List.setIfInBounds_toArray, List.set_cons_zero, List.set_cons_succ]
    refine takeH 12 (some 27) ?_ (by rfl) (by kernel_rfl) (by kernel_rfl) (by kernel_rfl) (fun _ _ _ h => h) ?_ hHeld ?_
    rotate_left
    · intro o ho
      simp only [List.getElem?_toArray, List.getElem?_cons_succ, List.getElem?_cons_zero, Option.some.injEq] at ho
      subst ho
      refine ⟨by rfl, fun w hSw => ?_⟩
      try dsimp only at hSw
      go_simp
      try with_reducible rfl
    try simp only [Act.put, List.setIfInBounds_toArray, List.set_cons_zero, List.set_cons_succ]
    refine oneH 7 (by kernel_rfl) (by rfl) (fun o ho K hK => ?_)
    simp only [List.getElem?_toArray, List.getElem?_cons_succ, List.getElem?_cons_zero, Option.some.injEq] at ho
    subst ho
    go_simp
    refine (size_calls p A c n _ (by exact hHeld.1)).mono ?_
    rintro e v1 ⟨rfl, rfl⟩
    try go_wp2_with fail
    refine hK.out _ _ ?_ (fun hHeld2 => ?_)
    · exact hHeld
    clear hK K hHeld
    rename _ => hHeld
    try simp only [Act.put, List.setIfInBounds_toArray, List.set_cons_zero, List.set_cons_succ]
    refine takeH 13 (some 28) ?_ (by rfl) (by kernel_rfl) (by kernel_rfl) (by kernel_rfl) (fun _ _ _ h => h) ?_ hHeld ?_
    rotate_left
    · intro o ho
      simp only [List.getElem?_toArray, List.getElem?_cons_succ, List.getElem?_cons_zero, Option.some.injEq] at ho
      subst ho
      refine ⟨by rfl, fun w hSw => ?_⟩
      try dsimp only at hSw
      go_simp
      try with_reducible rfl
    try simp only [Act.put, List.setIfInBounds_toArray, List.set_cons_zero, List.set_cons_succ]
    refine takeH 14 (some 29) ?_ (by rfl) (by kernel_rfl) (by kernel_rfl) (by kernel_rfl) (fun _ _ _ h => h) ?_ hHeld ?_
    rotate_left
    · intro o ho
      simp only [List.getElem?_toArray, List.getElem?_cons_succ, List.getElem?_cons_zero, Option.some.injEq] at ho
      subst ho
      refine ⟨by rfl, fun w hSw => ?_⟩
      try dsimp only at hSw
      go_simp
      try with_reducible rfl
    try simp only [Act.put, List.setIfInBounds_toArray, List.set_cons_zero, List.set_cons_succ]
    refine takeH 15 (some 30) ?_ (by rfl) (by kernel_rfl) (by kernel_rfl) (by kernel_rfl) (fun _ _ _ h => h) ?_ hHeld ?_
    rotate_left
    · intro o ho
      simp only [List.getElem?_toArray, List.getElem?_cons_succ, List.getElem?_cons_zero, Option.some.injEq] at ho
      subst ho
      refine ⟨by rfl, fun w hSw => ?_⟩
      try dsimp only at hSw
      go_simp
      try with_reducible rfl
    try simp only [Act.put, List.setIfInBounds_toArray, List.set_cons_zero, List.set_cons_succ]
    refine wpAnyH_done (by kernel_rfl) ?_ _
    go_wp2
    go_ret
    exact ⟨rfl, (Below.refl _ _).drew⟩

set_option maxRecDepth 20000 in
set_option maxHeartbeats 8000000 in
theorem crash_calls (b p : Nat) (q : Option Nat) (A : Option Addr) (c n : Nat) (l : List Int) (s : Nat) (most : Int) (k N : Nat) (hN : s + k = N) (hN2 : N ≤ n) (X : Option Addr) (cx m : Nat) (ys : List Int) (J : Nat) (hJ : J = min k m) (w0 : World) (h0 : FileAt w0 b p q A c n l s most false) (hY0 : Bs w0 X cx ys) (hlen : ys.length = m) (hX : 0 < m → ∀ a, X = some a → a.block ≠ p ∧ some a.block ≠ q) (hb0 : b ≤ w0.heap.size) :
    Calls Try.prog 12 #[.pointer (some ⟨p, 0, none⟩), .int .i64 k, .slice X m cx] w0 fun e w' => e = .returned (.int .i64 0) ∧ FileAt w' b p q A N N (grb s ys (l.take N) J) s most true ∧ Did b w0 w' p q := by
  obtain ⟨y0, y1, -, y3⟩ := h0.cells
  have hw : IntKind.i64.wrap ((n : Int) - (s : Int)) = (n : Int) - s := wrap_in (by have := h0.sure; omega) (by have := h0.nlt; omega)
  have c1 : decide ((k : Int) < 0) = false := by simp
  have c2 : decide ((n : Int) - (s : Int) < (k : Int)) = false := by simp; omega
  have H0 := Aside0.mk h0
  have HY0 := Aside0.mk hY0
  have HM := Aside0.mk hlen
  have HX := Aside0.mk hX
  have HJ := Aside0.mk hJ
  have HN := Aside0.mk (And.intro hN hN2)
  have NL := Aside0.mk h0.nlt
  clear h0 hY0 hlen hX hJ
  go_enter Try.func12, Try.ntmps12
  go_wp2_with fail
  refine (check_calls p false 0 rfl w0 y3).mono ?_
  rintro e w' ⟨rfl, rfl⟩
  go_wp2_with fail
  refine wp_region_held_drew (S := fun w' => w'.cell? ⟨p, 0, none⟩ = some (.slice A n c) ∧ w'.cell? ⟨p, 1, none⟩ = some (.int .i64 s)) (by kernel_rfl) ?_ (fun hHeld => ?_)
  · exact ⟨y0, y1⟩
  refine takeH 0 (some 15) ?_ (by rfl) (by kernel_rfl) (by kernel_rfl) (by kernel_rfl) (fun _ _ _ h => h) ?_ hHeld ?_
  rotate_left
  · intro o ho
    simp only [List.getElem?_toArray, List.getElem?_cons_zero, Option.some.injEq] at ho
    subst ho
    refine ⟨by rfl, fun w hSw => ?_⟩
    try dsimp only at hSw
    go_simp
    try with_reducible rfl
  try simp only [Act.put, List.setIfInBounds_toArray, List.set_cons_zero, List.set_cons_succ]
  refine takeH 1 (some 16) ?_ (by rfl) (by kernel_rfl) (by kernel_rfl) (by kernel_rfl) (fun _ _ _ h => h) ?_ hHeld ?_
  rotate_left
  · intro o ho
    simp only [List.getElem?_toArray, List.getElem?_cons_succ, List.getElem?_cons_zero, Option.some.injEq] at ho
    subst ho
    refine ⟨by rfl, fun w hSw => ?_⟩
    try dsimp only at hSw
    go_simp
    try with_reducible rfl
  try simp only [Act.put, List.setIfInBounds_toArray, List.set_cons_zero, List.set_cons_succ]
  refine takeH 2 (some 17) ?_ (by rfl) (by kernel_rfl) (by kernel_rfl) (by kernel_rfl) (fun _ _ _ h => h) ?_ hHeld ?_
  rotate_left
  · intro o ho
    simp only [List.getElem?_toArray, List.getElem?_cons_succ, List.getElem?_cons_zero, Option.some.injEq] at ho
    subst ho
    refine ⟨by rfl, fun w hSw => ?_⟩
    try dsimp only at hSw
    go_simp
    try with_reducible rfl
  try simp only [Act.put, List.setIfInBounds_toArray, List.set_cons_zero, List.set_cons_succ]
  refine takeH 3 (some 18) ?_ (by rfl) (by kernel_rfl) (by kernel_rfl) (by kernel_rfl) (fun _ _ _ h => h) ?_ hHeld ?_
  rotate_left
  · intro o ho
    simp only [List.getElem?_toArray, List.getElem?_cons_succ, List.getElem?_cons_zero, Option.some.injEq] at ho
    subst ho
    refine ⟨by rfl, fun w hSw => ?_⟩
    try dsimp only at hSw
    go_simp
    try with_reducible rfl
  try simp only [Act.put, List.setIfInBounds_toArray, List.set_cons_zero, List.set_cons_succ]
  refine takeH 4 (some 19) ?_ (by rfl) (by kernel_rfl) (by kernel_rfl) (by kernel_rfl) (fun _ _ _ h => h) ?_ hHeld ?_
  rotate_left
  · intro o ho
    simp only [List.getElem?_toArray, List.getElem?_cons_succ, List.getElem?_cons_zero, Option.some.injEq] at ho
    subst ho
    refine ⟨by rfl, fun w hSw => ?_⟩
    try dsimp only at hSw
    go_simp
    try with_reducible rfl
  try simp only [Act.put, List.setIfInBounds_toArray, List.set_cons_zero, List.set_cons_succ]
  refine takeH 5 (some 20) ?_ (by rfl) (by kernel_rfl) (by kernel_rfl) (by kernel_rfl) (fun _ _ _ h => h) ?_ hHeld ?_
  rotate_left
  · intro o ho
    simp only [List.getElem?_toArray, List.getElem?_cons_succ, List.getElem?_cons_zero, Option.some.injEq] at ho
    subst ho
    refine ⟨by rfl, fun w hSw => ?_⟩
    try dsimp only at hSw
    go_simp
    try with_reducible rfl
  try simp only [Act.put, List.setIfInBounds_toArray, List.set_cons_zero, List.set_cons_succ]
  refine takeH 6 (some 21) ?_ (by rfl) (by kernel_rfl) (by kernel_rfl) (by kernel_rfl) (fun _ _ _ h => h) ?_ hHeld ?_
  rotate_left
  · intro o ho
    simp only [List.getElem?_toArray, List.getElem?_cons_succ, List.getElem?_cons_zero, Option.some.injEq] at ho
    subst ho
    refine ⟨by rfl, fun w hSw => ?_⟩
    try dsimp only at hSw
    go_simp
    try with_reducible rfl
  try simp only [Act.put, List.setIfInBounds_toArray, List.set_cons_zero, List.set_cons_succ]
  refine takeH 8 (some 23) ?_ (by rfl) (by kernel_rfl) (by kernel_rfl) (by kernel_rfl) (fun _ _ _ h => h) ?_ hHeld ?_
  rotate_left
  · intro o ho
    simp only [List.getElem?_toArray, List.getElem?_cons_succ, List.getElem?_cons_zero, Option.some.injEq] at ho
    subst ho
    refine ⟨by rfl, fun w hSw => ?_⟩
    try dsimp only at hSw
    go_simp
    try with_reducible rfl
  try simp only [Act.put, List.setIfInBounds_toArray, List.set_cons_zero, List.set_cons_succ]
  refine takeH 9 (some 24) ?_ (by rfl) (by kernel_rfl) (by kernel_rfl) (by kernel_rfl) (fun _ _ _ h => h) ?_ hHeld ?_
  rotate_left
  · intro o ho
    simp only [List.getElem?_toArray, List.getElem?_cons_succ, List.getElem?_cons_zero, Option.some.injEq] at ho
    subst ho
    refine ⟨by rfl, fun w hSw => ?_⟩
    try dsimp only at hSw
    go_simp
    try with_reducible rfl
  try simp only [Act.put, List.setIfInBounds_toArray, List.set_cons_zero, List.set_cons_succ]
  refine takeH 10 (some 25) ?_ (by rfl) (by kernel_rfl) (by kernel_rfl) (by kernel_rfl) (fun _ _ _ h => h) ?_ hHeld ?_
  rotate_left
  · intro o ho
    simp only [List.getElem?_toArray, List.getElem?_cons_succ, List.getElem?_cons_zero, Option.some.injEq] at ho
    subst ho
    refine ⟨by rfl, fun w hSw => ?_⟩
    try dsimp only at hSw
    go_simp
    try with_reducible rfl
  try simp only [Act.put, List.setIfInBounds_toArray, List.set_cons_zero, List.set_cons_succ]
  refine takeH 11 (some 26) ?_ (by rfl) (by kernel_rfl) (by kernel_rfl) (by kernel_rfl) (fun _ _ _ h => h) ?_ hHeld ?_
  rotate_left
  · intro o ho
    simp only [List.getElem?_toArray, List.getElem?_cons_succ, List.getElem?_cons_zero, Option.some.injEq] at ho
    subst ho
    refine ⟨by rfl, fun w hSw => ?_⟩
    try dsimp only at hSw
    go_simp
    try with_reducible rfl
  try simp only [Act.put, List.setIfInBounds_toArray, List.set_cons_zero, List.set_cons_succ]
  refine takeH 12 (some 27) ?_ (by rfl) (by kernel_rfl) (by kernel_rfl) (by kernel_rfl) (fun _ _ _ h => h) ?_ hHeld ?_
  rotate_left
  · intro o ho
    simp only [List.getElem?_toArray, List.getElem?_cons_succ, List.getElem?_cons_zero, Option.some.injEq] at ho
    subst ho
    refine ⟨by rfl, fun w hSw => ?_⟩
    try dsimp only at hSw
    go_simp
    try with_reducible rfl
  try simp only [Act.put, List.setIfInBounds_toArray, List.set_cons_zero, List.set_cons_succ]
  refine oneH 7 (by kernel_rfl) (by rfl) (fun o ho K hK => ?_)
  simp only [List.getElem?_toArray, List.getElem?_cons_succ, List.getElem?_cons_zero, Option.some.injEq] at ho
  subst ho
  go_simp
  refine (size_calls p A c n _ (by exact hHeld.1)).mono ?_
  rintro e v1 ⟨rfl, rfl⟩
  try go_wp2_with fail
  refine hK.out _ _ ?_ (fun hHeld2 => ?_)
  · exact hHeld
  clear hK K hHeld
  rename _ => hHeld
  try simp only [Act.put, List.setIfInBounds_toArray, List.set_cons_zero, List.set_cons_succ]
  refine takeH 13 (some 28) ?_ (by rfl) (by kernel_rfl) (by kernel_rfl) (by kernel_rfl) (fun _ _ _ h => h) ?_ hHeld ?_
  rotate_left
  · intro o ho
    simp only [List.getElem?_toArray, List.getElem?_cons_succ, List.getElem?_cons_zero, Option.some.injEq] at ho
    subst ho
    refine ⟨by rfl, fun w hSw => ?_⟩
    try dsimp only at hSw
    go_simp
    try with_reducible rfl
  try simp only [Act.put, List.setIfInBounds_toArray, List.set_cons_zero, List.set_cons_succ]
  refine takeH 14 (some 29) ?_ (by rfl) (by kernel_rfl) (by kernel_rfl) (by kernel_rfl) (fun _ _ _ h => h) ?_ hHeld ?_
  rotate_left
  · intro o ho
    simp only [List.getElem?_toArray, List.getElem?_cons_succ, List.getElem?_cons_zero, Option.some.injEq] at ho
    subst ho
    refine ⟨by rfl, fun w hSw => ?_⟩
    try dsimp only at hSw
    go_simp
    try with_reducible rfl
  try simp only [Act.put, List.setIfInBounds_toArray, List.set_cons_zero, List.set_cons_succ]
  refine takeH 15 (some 30) ?_ (by rfl) (by kernel_rfl) (by kernel_rfl) (by kernel_rfl) (fun _ _ _ h => h) ?_ hHeld ?_
  rotate_left
  · intro o ho
    simp only [List.getElem?_toArray, List.getElem?_cons_succ, List.getElem?_cons_zero, Option.some.injEq] at ho
    subst ho
    refine ⟨by rfl, fun w hSw => ?_⟩
    try dsimp only at hSw
    go_simp
    try with_reducible rfl
  try simp only [Act.put, List.setIfInBounds_toArray, List.set_cons_zero, List.set_cons_succ]
  refine wpAnyH_done (by kernel_rfl) ?_ _
  obtain ⟨w, hw0⟩ : ∃ w, w0.drew = w := ⟨_, rfl⟩
  have H := Aside0.mk (show FileAt w b p q A c n l s most false from hw0 ▸ H0.out.below (Below.refl _ _).drew)
  have D := Aside0.mk (show Did b w0 w p q from hw0 ▸ Did.of (Below.refl _ _).drew hb0 p q)
  have hb : b ≤ w.heap.size := by rw [← hw0]; exact hb0
  rw [hw0]
  clear hw0 hHeld y0 y1 y3 hw c1 c2 hb0
  obtain ⟨y0, y1, -, -⟩ := H.out.cells
  have hw2 : IntKind.i64.wrap ((s : Int) + (k : Int)) = (N : Int) := by rw [← hN]; exact wrap_in (by omega) (by have := NL.out; omega)
  go_wp2_with fail
  refine wp_region_held_drew (S := fun w' => w'.cell? ⟨p, 1, none⟩ = some (.int .i64 s)) (by kernel_rfl) ?_ (fun hHeld => ?_)
  · exact y1
  refine takeH 0 (some 31) ?_ (by rfl) (by kernel_rfl) (by kernel_rfl) (by kernel_rfl) (fun _ _ _ h => h) ?_ hHeld ?_
  rotate_left
  · intro o ho
    simp only [List.getElem?_toArray, List.getElem?_cons_zero, Option.some.injEq] at ho
    subst ho
    refine ⟨by rfl, fun w hSw => ?_⟩
    try dsimp only at hSw
    go_simp
    try with_reducible rfl
  try simp only [Act.put, List.setIfInBounds_toArray, List.set_cons_zero, List.set_cons_succ]
  refine takeH 1 (some 32) ?_ (by rfl) (by kernel_rfl) (by kernel_rfl) (by kernel_rfl) (fun _ _ _ h => h) ?_ hHeld ?_
  rotate_left
  · intro o ho
    simp only [List.getElem?_toArray, List.getElem?_cons_succ, List.getElem?_cons_zero, Option.some.injEq] at ho
    subst ho
    refine ⟨by rfl, fun w hSw => ?_⟩
    try dsimp only at hSw
    go_simp
    try with_reducible rfl
  try simp only [Act.put, List.setIfInBounds_toArray, List.set_cons_zero, List.set_cons_succ]
  refine takeH 2 (some 33) ?_ (by rfl) (by kernel_rfl) (by kernel_rfl) (by kernel_rfl) (fun _ _ _ h => h) ?_ hHeld ?_
  rotate_left
  · intro o ho
    simp only [List.getElem?_toArray, List.getElem?_cons_succ, List.getElem?_cons_zero, Option.some.injEq] at ho
    subst ho
    refine ⟨by rfl, fun w hSw => ?_⟩
    try dsimp only at hSw
    go_simp
    try with_reducible rfl
  try simp only [Act.put, List.setIfInBounds_toArray, List.set_cons_zero, List.set_cons_succ]
  refine takeH 3 (some 34) ?_ (by rfl) (by kernel_rfl) (by kernel_rfl) (by kernel_rfl) (fun _ _ _ h => h) ?_ hHeld ?_
  rotate_left
  · intro o ho
    simp only [List.getElem?_toArray, List.getElem?_cons_succ, List.getElem?_cons_zero, Option.some.injEq] at ho
    subst ho
    refine ⟨by rfl, fun w hSw => ?_⟩
    try dsimp only at hSw
    go_simp
    try with_reducible rfl
  try simp only [Act.put, List.setIfInBounds_toArray, List.set_cons_zero, List.set_cons_succ]
  refine takeH 4 (some 35) ?_ (by rfl) (by kernel_rfl) (by kernel_rfl) (by kernel_rfl) (fun _ _ _ h => h) ?_ hHeld ?_
  rotate_left
  · intro o ho
    simp only [List.getElem?_toArray, List.getElem?_cons_succ, List.getElem?_cons_zero, Option.some.injEq] at ho
    subst ho
    refine ⟨by rfl, fun w hSw => ?_⟩
    try dsimp only at hSw
    go_simp
    try with_reducible rfl
  try simp only [Act.put, List.setIfInBounds_toArray, List.set_cons_zero, List.set_cons_succ]
  refine takeH 5 (some 36) ?_ (by rfl) (by kernel_rfl) (by kernel_rfl) (by kernel_rfl) (fun _ _ _ h => h) ?_ hHeld ?_
  rotate_left
  · intro o ho
    simp only [List.getElem?_toArray, List.getElem?_cons_succ, List.getElem?_cons_zero, Option.some.injEq] at ho
    subst ho
    refine ⟨by rfl, fun w hSw => ?_⟩
    try dsimp only at hSw
    go_simp
    try with_reducible rfl
  try simp only [Act.put, List.setIfInBounds_toArray, List.set_cons_zero, List.set_cons_succ]
  refine takeH 6 (some 37) ?_ (by rfl) (by kernel_rfl) (by kernel_rfl) (by kernel_rfl) (fun _ _ _ h => h) ?_ hHeld ?_
  rotate_left
  · intro o ho
    simp only [List.getElem?_toArray, List.getElem?_cons_succ, List.getElem?_cons_zero, Option.some.injEq] at ho
    subst ho
    refine ⟨by rfl, fun w hSw => ?_⟩
    try dsimp only at hSw
    go_simp
    try with_reducible rfl
  try simp only [Act.put, List.setIfInBounds_toArray, List.set_cons_zero, List.set_cons_succ]
  refine takeH 7 (some 38) ?_ (by rfl) (by kernel_rfl) (by kernel_rfl) (by kernel_rfl) (fun _ _ _ h => h) ?_ hHeld ?_
  rotate_left
  · intro o ho
    simp only [List.getElem?_toArray, List.getElem?_cons_succ, List.getElem?_cons_zero, Option.some.injEq] at ho
    subst ho
    refine ⟨by rfl, fun w hSw => ?_⟩
    try dsimp only at hSw
    go_simp
    try with_reducible rfl
  try simp only [Act.put, List.setIfInBounds_toArray, List.set_cons_zero, List.set_cons_succ]
  refine takeH 8 (some 39) ?_ (by rfl) (by kernel_rfl) (by kernel_rfl) (by kernel_rfl) (fun _ _ _ h => h) ?_ hHeld ?_
  rotate_left
  · intro o ho
    simp only [List.getElem?_toArray, List.getElem?_cons_succ, List.getElem?_cons_zero, Option.some.injEq] at ho
    subst ho
    refine ⟨by rfl, fun w hSw => ?_⟩
    try dsimp only at hSw
    go_simp
    try with_reducible rfl
  try simp only [Act.put, List.setIfInBounds_toArray, List.set_cons_zero, List.set_cons_succ]
  refine takeH 9 (some 40) ?_ (by rfl) (by kernel_rfl) (by kernel_rfl) (by kernel_rfl) (fun _ _ _ h => h) ?_ hHeld ?_
  rotate_left
  · intro o ho
    simp only [List.getElem?_toArray, List.getElem?_cons_succ, List.getElem?_cons_zero, Option.some.injEq] at ho
    subst ho
    refine ⟨by rfl, fun w hSw => ?_⟩
    try dsimp only at hSw
    go_simp
    try with_reducible rfl
  try simp only [Act.put, List.setIfInBounds_toArray, List.set_cons_zero, List.set_cons_succ]
  refine oneH 10 (by kernel_rfl) (by rfl) (fun o ho K hK => ?_)
  simp only [List.getElem?_toArray, List.getElem?_cons_succ, List.getElem?_cons_zero, Option.some.injEq] at ho
  subst ho
  go_simp
  refine (keep_calls b p q A c n l s most N w.drew (by exact H.out.below (Below.refl _ _).drew) hN2 (by exact hb)).mono ?_
  rintro e w1 ⟨⟨v, rfl⟩, hf, hd⟩
  have hms : min s N = s := by omega
  rw [hms] at hf
  try go_wp2_with fail
  refine hK.out _ _ ?_ (fun hHeld2 => ?_)
  · exact hf.cells.2.1
  clear hK K hHeld
  rename _ => hHeld
  try simp only [Act.put, List.setIfInBounds_toArray, List.set_cons_zero, List.set_cons_succ]
  refine wpAnyH_done (by kernel_rfl) ?_ _
  have F1 := Aside0.mk hf
  have D1 := Aside0.mk (D.out.trans ((Did.of (Below.refl _ _).drew hb p q).trans hd))
  clear hf hd D H y0 y1 hHeld hw2 hms hN hN2 hb
  have hJk : J ≤ k := by have := HJ.out; omega
  have hJm : J ≤ m := by have := HJ.out; omega
  have hmc : m ≤ cx := by have := HY0.out.cap; have := HM.out; omega
  have hJ0 : (0 : Int) ≤ (J : Int) := by omega
  have JJ : ∀ w2, Calls Try.prog 0 #[] w2 (fun _ _ => True) → True := fun _ _ => trivial
  clear JJ
  go_upto_region 7 with fail
  go_cut [47, 48, 49] (fun s47 s48 s49 wx => s47 = .slice X J cx ∧ s48 = .int .i64 J ∧ s49 = .int .i64 0 ∧ w1 = wx)
  case first =>
    by_cases hmk : m < k
    · obtain rfl : J = m := by have := HJ.out; omega
      go_wp2_with fail
      go_meet
      exact ⟨rfl, rfl, rfl, rfl⟩
    · obtain rfl : J = k := by have := HJ.out; omega
      go_wp2_with fail
      go_meet
      exact ⟨rfl, rfl, rfl, rfl⟩
  case rest =>
  obtain ⟨rfl, rfl, rfl, rfl⟩ := hcut
  go_wp2_with fail
  go_loopw [49] (fun i wr => ∃ j : Nat, j ≤ J ∧ i = .int .i64 j ∧ FileAt wr b p q A N N (grb s ys (l.take N) j) s most false ∧ Did b w0 wr p q) (fun i _ => J - (intOf i).toNat)
  case atStart => exact ⟨0, by omega, rfl, F1.out, D1.out⟩
  case round =>
    clear F1 D1
    obtain ⟨j, hj, rfl, hF, hD⟩ := hrel
    by_cases hlt : j < J
    · have i0 : (0 : Int) ≤ (j : Int) := by omega
      have i1 : (j : Int) < (J : Int) := by omega
      have HYr := HY0.out.did hD (fun hm => HX.out (by have := HM.out; omega))
      obtain ⟨xa, rfl, v0, v1, v2⟩ := HYr.at_ j (by have := HM.out; omega)
      have hlen := hF.len
      obtain ⟨g, rfl, rfl⟩ := hF.row.at_some (by have := HN.out; omega)
      have hsj : s + j < N := by have := HN.out; omega
      obtain ⟨ad, e0, u0, u1, u2⟩ := hF.bs.at_ (s + j) (by omega)
      obtain ⟨y0, y1, -, -⟩ := hF.cells
      have hfz := hF.row.frozen (s + j)
      injection e0 with e0
      subst e0
      rw [addr0_add] at u0
      have t0 : (0 : Int) ≤ (s : Int) + (j : Int) := by omega
      have t1 : (s : Int) + (j : Int) < (N : Int) := by omega
      have t2 : ((s : Int) + (j : Int)).toNat = s + j := by omega
      have t3 : IntKind.i64.wrap ((s : Int) + (j : Int)) = (s : Int) + (j : Int) := wrap_in (by omega) (by have := NL.out; have := HN.out; omega)
      have F := Aside0.mk hF
      have D := Aside0.mk hD
      have XB := Aside0.mk (xor_byte (a := rd (grb s ys (l.take N) j) ((s + j : Nat) : Int)) (b := rd ys j) ⟨u1, u2⟩ ⟨v1, v2⟩)
      obtain ⟨old, hold⟩ : ∃ x, x = rd (grb s ys (l.take N) j) ((s + j : Nat) : Int) := ⟨_, rfl⟩
      obtain ⟨gar, hgar⟩ : ∃ x, x = rd ys j := ⟨_, rfl⟩
      rw [← hold] at u0
      rw [← hgar] at v0
      have XE := Aside0.mk (And.intro hold hgar)
      clear hF hD hlen HYr u1 u2 v1 v2 hsj hold hgar
      have G := Aside0.mk (show FileAt (wr.setCell ⟨g, s + j, none⟩ (.int .u8 (bits .xor .u8 old gar))).drew b p (some g) (some ⟨g, 0, none⟩) N N (grb s ys (l.take N) (j + 1)) s most false ∧ Did b w0 (wr.setCell ⟨g, s + j, none⟩ (.int .u8 (bits .xor .u8 old gar))).drew p (some g) by
        have hx := XB.out
        rw [← XE.out.1, ← XE.out.2] at hx
        have hr := F.out.row.setByte (s + j) _ hx
        have hgp : p ≠ g := fun e => F.out.apart (by rw [e])
        have hbg := (F.out.row.size g rfl).1
        refine ⟨⟨(Below.heap_setCell _ _ _ p hgp).trans F.out.blk, F.out.own, by rw [grb_length]; have := F.out.len; rw [grb_length] at this; exact this, ?_, F.out.apart, F.out.sure, F.out.rng⟩, ⟨(D.out.below.setCell (p := ⟨g, s + j, none⟩) hbg _).drew, fun k hk h1 h2 => (Below.heap_setCell _ _ _ k (fun e => h2 (by rw [e]))).trans (D.out.kept k hk h1 h2)⟩⟩
        have hr2 : Row (wr.setCell ⟨g, s + j, none⟩ (.int .u8 (bits .xor .u8 old gar))).drew b (some g) (some ⟨g, 0, none⟩) N ((grb s ys (l.take N) j).set (s + j) (bits .xor .u8 old gar)) := ⟨hr.byte, hr.lies⟩
        rw [XE.out.1, XE.out.2] at hr2 ⊢
        exact hr2)
      have jb : (j : Int) + 1 ≤ 9223372036854775807 := by have := NL.out; have := HN.out; omega
      clear XB XE F D
      go_wp2_with fail
      go_still_tail 17, (by kernel_rfl)
      change wpList _ _ _ _ _ wr.drew
      go_wp2_with fail
      refine ⟨⟨j + 1, by omega, by go_num, G.out.1, G.out.2⟩, ?_⟩
      simp [intOf]; omega
    · obtain rfl : j = J := by omega
      obtain ⟨-, -, -, y3⟩ := hF.cells
      obtain ⟨-, -, -, f3⟩ := hF.free
      have F := Aside0.mk (show FileAt (wr.setCell ⟨p, 3, none⟩ (.bool true)) b p q A N N (grb s ys (l.take N) j) s most true from
        ⟨FileAt.put3 _ hF.blk, hF.own, hF.len, hF.row.set _ hF.apart _, hF.apart, hF.sure, hF.rng⟩)
      have D := Aside0.mk (show Did b w0 (wr.setCell ⟨p, 3, none⟩ (.bool true)) p q from
        ⟨hD.below.setCell (p := ⟨p, 3, none⟩) hF.own _, fun k hk h1 h2 => (Below.heap_setCell _ _ _ k h1).trans (hD.kept k hk h1 h2)⟩)
      clear hF hD
      go_wp2
      go_ret
      exact ⟨rfl, F.out, D.out⟩
end Go.Proofs.Ytfbpfogmnaahpaa
