/-
  The walk of awake: the chapter's example.
-/
import Derived.Test.YtodpgcakciaefaaA4
import Derived.Lib.SlBytesConst
namespace Go.Proofs.Ytodpgcakciaefaa
open Go.RowKit Go.Proofs.YtodpgcakciaefaaW.PrintWords

def digits : List Int := [49, 50, 51, 52, 53, 54, 55, 56, 57]
theorem digits_byte : ∀ x ∈ digits, 0 ≤ x ∧ x < 256 := by decide
theorem digits_sum : Pl.sum digits = 3421780262 := by decide +kernel
theorem digits_sealed : sealed digits = digits ++ [38, 57, 244, 203] := by
  unfold sealed
  rw [digits_sum]
  decide

theorem seal_calls_n (A : Option Addr) (n c : Nat) (l : List Int) (hn : l.length = n) (w : World) (h : Bs w A c l) (hl : l.length ≤ 140737488350000) :
    Calls Try.prog 14 #[.slice A n c] w fun e w' => ∃ A' c', e = .returned (.slice A' (n + 4) c') ∧ Own w' w.heap.size A' c' (sealed l) ∧ Below w.heap.size w w' := by
  subst hn
  rw [← sealed_len]
  exact seal_calls A c l w h hl

/-- A guarded operation whose guard wants it. -/
theorem unguard {P : Program} {ops : Array Oper} {rest : List Oper} {o : Oper} {a : Act} {Q : Exit → Act → World → Prop} {W : World}
    (hw : Region.wanted o (yielded ops a.tmps) = true) (h : wpList P ops Q ({ o with guard := none } :: rest) a W) : wpList P ops Q (o :: rest) a W := by
  have h1 : Region.wanted { o with guard := none } (yielded ops a.tmps) = true := rfl
  unfold wpList at h ⊢
  rw [if_pos h1] at h
  rw [if_pos hw]
  exact h

theorem Bs.cells {w : World} {ad : Addr} {c : Nat} {l : List Int} (h : Bs w (some ad) c l) : ∀ j u, (nums .u8 l)[j]? = some u → w.cell? (ad.add j) = some u := by
  intro j u hu
  have hj : j < l.length := by
    rcases Nat.lt_or_ge j l.length with h | h
    · exact h
    · simp [nums, List.getElem?_eq_none h] at hu
  obtain ⟨ad', e, hc, _⟩ := h.at_ j hj
  injection e with e
  subst e
  rw [hc, ← hu]
  simp [nums, rd, List.getD_eq_getElem?_getD, List.getElem?_eq_getElem hj]

/-- Literal bytes, their row marked or not. -/
theorem bs_lit (W : World) (l : List Int) (hl : ∀ x ∈ l, 0 ≤ x ∧ x < 256) (cs : Array Value) (h : cs = (nums .u8 l).toArray) (hm : l.length ≤ 9223372036854775807) (fr : Nat × Nat) :
    Bs (W.alloc (.cells cs 5 fr)) (some ⟨W.heap.size, 0, none⟩) l.length l := by
  subst h
  refine ⟨⟨rfl, hm, fun _ => ⟨_, rfl, fun j hj => ?_⟩⟩, Nat.le_refl _, hl⟩
  rw [add_plain, World.cell?_alloc_mark]
  simp [nums, List.getD_eq_getElem?_getD, List.getElem?_eq_getElem hj]

set_option maxHeartbeats 1000000 in
theorem awake_calls (w : World) : Calls Try.prog 8 #[] w fun e w' => e = .returned (.bool true) ∧ Below w.heap.size w w' := by
  have kc := fun (w : World) (C : Array Value) (n c : Nat) => Lib.run_convert_bytes_const (P := Try.prog) w 22 5 C n c Try.underlying22 Try.underlying5
  obtain ⟨i0, hi, hz0, hz1, hz2⟩ := info_parts info5
  have HI := Aside0.mk hi
  have HZ := Aside0.mk (And.intro hz0 (And.intro hz1 hz2))
  clear hi hz0 hz1 hz2
  go_enter Try.func8, Try.ntmps8
  go_wp2_with fail
  refine (sum_calls_n _ 9 _ digits rfl _ (bs_lit w digits digits_byte _ rfl (by decide) _)).mono ?_
  rintro e w1 ⟨rfl, b1⟩
  have HB := Aside0.mk (bs_lit w digits digits_byte (nums .u8 digits).toArray rfl (by decide) (9, 10))
  have e1 : (((Pl.sum digits : Nat) : Int) == 3421780262) = true := by rw [digits_sum]; rfl
  have b0 : Below w.heap.size w (w.alloc (.cells (nums .u8 digits).toArray 5 (9, 10))) := (Below.refl _ _).alloc (Nat.le_refl _) _
  have b1' : Below w.heap.size w w1 := below_step b0 b1
  have B1 := Aside0.mk b1'
  have HB1 := Aside0.mk (HB.out.below b1)
  clear b0 b1 b1'
  go_wp2_with fail
  refine (seal_calls_n _ 9 _ digits rfl _ HB1.out (by decide)).mono ?_
  rintro e w2 ⟨A2, c2, rfl, h2, b2⟩
  have H2 := Aside0.mk h2
  have B2 := Aside0.mk (below_step B1.out b2)
  have HB2 := Aside0.mk (HB1.out.below b2)
  clear h2 b2
  go_wp2_with (at_builtin; refine unguard (by rfl) ?_; refine wpList_append_grows _ rfl _ _ 22 rfl 5 i0 (.int .u8 0) 1 1 Try.underlying22 HI.out HZ.out.1 HZ.out.2.1 HZ.out.2.2 rfl (by decide) (some ⟨w.heap.size, 0, none⟩) 9 9 (nums .u8 digits) rfl (fun h => by cases h) rfl ?c1 ⟨w2.heap.size, 0, none⟩ 4 4 (nums .u8 [38, 57, 244, 203]) rfl rfl ?c2 ?c3 (by decide) (by unfold maxLen; omega) (by omega) ?_)
  case c1 =>
    intro b hb
    injection hb with hb
    subst hb
    exact (HB2.out.below ((Below.refl _ _).alloc (Nat.le_refl _) _)).cells
  case c2 => exact (bs_lit w2 [38, 57, 244, 203] (by decide) (nums .u8 [38, 57, 244, 203]).toArray rfl (by decide) (0, 0)).cells
  case c3 => intro u hu; simp [nums] at hu; rcases hu with rfl | rfl | rfl | rfl <;> rfl
  intro v3 w3 hown hg
  rw [show nums .u8 digits ++ nums .u8 [38, 57, 244, 203] = nums .u8 (sealed digits) from by rw [digits_sealed]; rfl] at hown
  obtain ⟨A3, c3, rfl⟩ := own_slice hown
  have hl : (sealed digits).length = 13 := by rw [digits_sealed]; rfl
  have b3 : Below w2.heap.size w2 w3 := ((Below.refl _ _).alloc (Nat.le_refl _) (.cells (nums .u8 [38, 57, 244, 203]).toArray 5)).grown hg (by simp) (by intro k hk; cases hk)
  have H3 := Aside0.mk (Own.mk (l := sealed digits) (A := A3) (c := c3) (by rw [hl]; exact hown) (sealed_byte digits_byte))
  have H23 := Aside0.mk (H2.out.below b3)
  have B3 := Aside0.mk (below_step B2.out b3)
  have HL := Aside0.mk hl
  clear hown hg b3 hl
  go_wp2_with fail
  refine (same_calls_n _ 13 _ (sealed digits) HL.out _ 13 _ (sealed digits) HL.out _ H23.out.bs H3.out.bs).mono ?_
  rintro e w4 ⟨rfl, ⟨q, rfl⟩⟩
  go_wp2
  go_ret
  exact ⟨by simp, pw_below_drewN B3.out q⟩
end Go.Proofs.Ytodpgcakciaefaa
