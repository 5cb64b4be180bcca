/-
  The walks of Seal and Open.
-/
import Derived.Test.YtodpgcakciaefaaA3
import Derived.Deep.RegionHeld3
namespace Go.Proofs.Ytodpgcakciaefaa
open Go.RowKit Go.Proofs.YtodpgcakciaefaaW.PrintWords

/-- Bytes, sealed. -/
def sealed (l : List Int) : List Int := l ++ tl (Pl.sum l)
theorem sealed_len (l : List Int) : (sealed l).length = l.length + 4 := by simp [sealed, tl]
theorem sealed_byte {l : List Int} (h : ∀ x ∈ l, 0 ≤ x ∧ x < 256) : ∀ x ∈ sealed l, 0 ≤ x ∧ x < 256 := by
  intro x hx
  rcases List.mem_append.1 hx with hx | hx
  · exact h x hx
  · exact tl_byte _ x hx
theorem sum_lt {l : List Int} (h : ∀ x ∈ l, 0 ≤ x ∧ x < 256) : Pl.sum l < 4294967296 := Pl.sum_lt fun c hc => (h c hc).2

set_option maxHeartbeats 1000000 in
theorem seal_calls (A : Option Addr) (c : Nat) (l : List Int) (w : World) (h : Bs w A c l) (hl : l.length ≤ 140737488350000) :
    Calls Try.prog 14 #[.slice A l.length c] w fun e w' => ∃ A' c', e = .returned (.slice A' (sealed l).length c') ∧ Own w' w.heap.size A' c' (sealed l) ∧ Below w.heap.size w w' := by
  have H := Aside0.mk h
  clear h
  go_enter Try.func14, Try.ntmps14
  go_wp2_with fail
  refine (clone_calls A c l w H.out (by omega)).mono ?_
  rintro e w1 ⟨A1, c1, rfl, h1, b1⟩
  have H1 := Aside0.mk h1
  clear h1
  go_wp2_with fail
  refine (sum_calls A c l w1 (H.out.below b1)).mono ?_
  rintro e w2 ⟨rfl, b2⟩
  go_wp2_with fail
  refine (tail_calls (Pl.sum l) (sum_lt H.out.byte) w2).mono ?_
  rintro e w3 ⟨A3, c3, rfl, h3, b3⟩
  have H3 := Aside0.mk h3
  clear h3
  have b12 := below_step b1 b2
  have b13 := below_step b12 b3
  go_wp2_with (at_builtin; refine print_append_row (w0 := w) w.heap.size rfl _ _ 22 5 .u8 1 rfl Try.underlying22 info5 (by decide) _ l (tl (Pl.sum l)) A3 (tl (Pl.sum l)).length c3 rfl rfl ?c1 ?c2 ?c3 ?c4 ?c5 ?_)
  case c1 => exact ((H1.out.below b2).below b3).row
  case c2 => exact H3.out.bs.reads
  case c3 => exact b13
  case c4 => exact b13.size
  case c5 => simp [tl]; omega
  intro v1 w4 hown hB _ _
  rw [show l.length + (tl (Pl.sum l)).length = (sealed l).length from by simp [sealed]] at hown
  obtain ⟨A', c', rfl⟩ := own_slice hown
  go_wp2
  go_ret
  exact ⟨A', c', rfl, ⟨hown, sealed_byte H.out.byte⟩, hB⟩

/-- What Open tells: the bytes, and the error. -/
def opened (l : List Int) : List Int × Int :=
  if l.length < 4 then ([], 13) else if l.drop (l.length - 4) = tl (Pl.sum (l.take (l.length - 4))) then (l.take (l.length - 4), 0) else ([], 18)

set_option maxHeartbeats 1000000 in
theorem open_short (A : Option Addr) (c : Nat) (l : List Int) (w : World) (hl : l.length < 4) :
    Calls Try.prog 10 #[.slice A l.length c] w fun e w' => e = .returned (.tuple #[.slice none 0 0, .int .i64 13]) ∧ w = w' := by
  have h1 : (l.length : Int) < 4 := by omega
  go_enter Try.func10, Try.ntmps10
  go_wp2
  go_ret2
  exact ⟨rfl, rfl⟩

theorem Bs.drew {w : World} {A : Option Addr} {c : Nat} {l : List Int} (h : Bs w A c l) : Bs w.drew A c l := ⟨h.reads, h.cap, h.byte⟩
/-- The two cuts that Open makes. -/
theorem cuts (A : Option Addr) (c n : Nat) (l : List Int) (hn : l.length = n + 4) (hc : l.length ≤ c) : ∃ A2 : Option Addr,
    (∀ W : World, (Instr.slice 22 (.slice A l.length c) (some (.int .i64 ((l.length : Int) - 4))) none none).run Try.prog W = .ok (.slice A2 4 (c - n)) W) ∧
    (∀ W : World, (Instr.slice 22 (.slice A l.length c) none (some (.int .i64 ((l.length : Int) - 4))) none).run Try.prog W = .ok (.slice A n c) W) ∧
    (∀ w : World, Bs w A c l → Bs w A2 (c - n) (l.drop n) ∧ Bs w A c (l.take n)) := by
  obtain ⟨i5, hi, hii⟩ := Option.map_eq_some_iff.1 info5
  have hsz : i5.size = 1 := by simp only [Prod.mk.injEq] at hii; exact hii.2.1
  obtain ⟨A2, cut2, r2, q2⟩ := print_cut_int (k := .u8) 22 5 Try.underlying22 hi hsz A c l ((l.length : Int) - 4) (by omega) (by omega) hc
  obtain ⟨cut1, r1, q1⟩ := print_take_int (k := .u8) 22 5 Try.underlying22 hi hsz A c l ((l.length : Int) - 4) (by omega) (by omega) hc
  rw [show ((l.length : Int) - 4).toNat = n from by omega] at cut1 cut2 r1 r2 q1 q2
  refine ⟨A2, fun W => ?_, fun W => ?_, fun w h => ⟨⟨r2 w h.reads, q2, fun x hx => h.byte x (List.mem_of_mem_drop hx)⟩, ⟨r1 w h.reads, q1, fun x hx => h.byte x (List.mem_of_mem_take hx)⟩⟩⟩
  · rw [cut2 W, List.length_drop, hn, show n + 4 - n = 4 from by omega]
  · rw [cut1 W, List.length_take, hn, show min n (n + 4) = n from by omega]

theorem sum_calls_n (A : Option Addr) (n c : Nat) (l : List Int) (hn : l.length = n) (w : World) (h : Bs w A c l) :
    Calls Try.prog 9 #[.slice A n c] w fun e w' => e = .returned (.int .u32 (Pl.sum l : Nat)) ∧ Below w.heap.size w w' := by subst hn; exact sum_calls A c l w h
theorem clone_calls_n (A : Option Addr) (n c : Nat) (l : List Int) (hn : l.length = n) (w : World) (h : Bs w A c l) (hl : l.length ≤ 140737488355328) :
    Calls Try.prog 19 #[.slice A n c] w fun e w' => ∃ A' c', e = .returned (.slice A' n c') ∧ Own w' w.heap.size A' c' l ∧ Below w.heap.size w w' := by subst hn; exact clone_calls A c l w h hl
theorem equal_calls_n (A : Option Addr) (n c : Nat) (l : List Int) (hn : l.length = n) (B : Option Addr) (k d : Nat) (m : List Int) (hk : m.length = k) (w : World) (h : Bs w A c l) (h' : Bs w B d m) :
    Calls Try.prog 17 #[.slice A n c, .slice B k d] w fun e w' => e = .returned (.bool (decide (l = m))) ∧ w = w' := by subst hn; subst hk; exact equal_calls A c l B d m w h h'
theorem same_calls_n (A : Option Addr) (n c : Nat) (l : List Int) (hn : l.length = n) (B : Option Addr) (k d : Nat) (m : List Int) (hk : m.length = k) (w : World) (h : Bs w A c l) (h' : Bs w B d m) :
    Calls Try.prog 13 #[.slice A n c, .slice B k d] w fun e w' => e = .returned (.bool (decide (l = m))) ∧ Drawn0 w w' := by subst hn; subst hk; exact same_calls A c l B d m w h h'

set_option maxHeartbeats 1000000 in
theorem open_long (A : Option Addr) (c n : Nat) (l : List Int) (w : World) (h : Bs w A c l) (hn : l.length = n + 4) (hm : l.length ≤ 140737488350000) :
    Calls Try.prog 10 #[.slice A l.length c] w fun e w' => ∃ A' c', e = .returned (.tuple #[.slice A' (opened l).1.length c', .int .i64 (opened l).2]) ∧ Own w' w.heap.size A' c' (opened l).1 ∧ Below w.heap.size w w' := by
  have h0 : (0 : Int) ≤ (l.length : Int) - 4 := by omega
  have h4 : (4 : Int) ≤ (l.length : Int) := by omega
  obtain ⟨A2, cut2, cut1, hr⟩ := cuts A c n l hn h.cap
  obtain ⟨hd, ht⟩ := hr w h
  have hbt := sum_lt ht.byte
  have HN := Aside0.mk hn
  have HD := Aside0.mk hd
  have HT := Aside0.mk ht
  have htl : (l.take n).length = n := by simp; omega
  have hdl : (l.drop n).length = 4 := by simp; omega
  have HTL := Aside0.mk htl
  have HDL := Aside0.mk hdl
  clear h hn hr ht hd htl hdl
  have ho : opened l = if l.drop n = tl (Pl.sum (l.take n)) then (l.take n, 0) else ([], 18) := by
    unfold opened
    rw [if_neg (by have := HN.out; omega), show l.length - 4 = n from by have := HN.out; omega]
  have HO := Aside0.mk ho
  clear ho
  generalize l.drop n = ld at *
  generalize l.take n = lt at *
  by_cases he : ld = tl (Pl.sum lt)
  · have hb : decide (ld = tl (Pl.sum lt)) = true := by simp [he]
    have HE := Aside0.mk he
    clear he
    go_enter Try.func10, Try.ntmps10
    go_wp2_with fail
    go_region_with (first
      | (go_at_call 9; refine (sum_calls_n A n c lt HTL.out _ (by exact HT.out.drew)).mono ?_; rintro e w1 ⟨rfl, b1⟩)
      | (go_at_call 18; refine (tail_calls (Pl.sum lt) hbt _).mono ?_; rintro e w2 ⟨A3, c3, rfl, h3, b2⟩)
      | (go_at_call 17; refine (equal_calls_n A2 4 (c - n) ld HDL.out A3 _ c3 (tl (Pl.sum lt)) rfl _ (by exact (HD.out.drew.below b1).below b2) (by exact h3.bs)).mono ?_; rintro e w3 ⟨rfl, rfl⟩))
    have b12 := below_step b1 b2
    go_wp2_with fail
    refine (clone_calls_n A n c lt HTL.out _ (by exact HT.out.drew.below b12) (by rw [HTL.out]; have := HN.out; omega)).mono ?_
    rintro e w5 ⟨A5, c5, rfl, h5, b5⟩
    have H5 := Aside0.mk h5
    clear h5
    go_wp2
    go_ret2
    rw [HO.out, if_pos HE.out]
    refine ⟨A5, c5, by rw [HTL.out]; rfl, ⟨own_less H5.out.row b12.size, H5.out.byte⟩, ?_⟩
    exact below_step (Below.refl _ _).drew (below_step b12 b5)
  · have hb : decide (ld = tl (Pl.sum lt)) = false := by simp [he]
    have HE := Aside0.mk he
    clear he
    go_enter Try.func10, Try.ntmps10
    go_wp2_with fail
    go_region_with (first
      | (go_at_call 9; refine (sum_calls_n A n c lt HTL.out _ (by exact HT.out.drew)).mono ?_; rintro e w1 ⟨rfl, b1⟩)
      | (go_at_call 18; refine (tail_calls (Pl.sum lt) hbt _).mono ?_; rintro e w2 ⟨A3, c3, rfl, h3, b2⟩)
      | (go_at_call 17; refine (equal_calls_n A2 4 (c - n) ld HDL.out A3 _ c3 (tl (Pl.sum lt)) rfl _ (by exact (HD.out.drew.below b1).below b2) (by exact h3.bs)).mono ?_; rintro e w3 ⟨rfl, rfl⟩))
    have b12 := below_step b1 b2
    go_wp2
    go_ret2
    rw [HO.out, if_neg HE.out]
    exact ⟨none, 0, rfl, ⟨own_nil _ _ _ _, by simp⟩, below_step (Below.refl _ _).drew b12⟩

/-- Open, of whatever bytes. -/
theorem open_calls (A : Option Addr) (c : Nat) (l : List Int) (w : World) (h : Bs w A c l) (hm : l.length ≤ 140737488350000) :
    Calls Try.prog 10 #[.slice A l.length c] w fun e w' => ∃ A' c', e = .returned (.tuple #[.slice A' (opened l).1.length c', .int .i64 (opened l).2]) ∧ Own w' w.heap.size A' c' (opened l).1 ∧ Below w.heap.size w w' := by
  by_cases hl : l.length < 4
  · refine (open_short A c l w hl).mono ?_
    rintro e w' ⟨rfl, rfl⟩
    unfold opened
    rw [if_pos hl]
    exact ⟨none, 0, rfl, ⟨own_nil _ _ _ _, by simp⟩, Below.refl _ _⟩
  · exact open_long A c (l.length - 4) l w h (by omega) hm

end Go.Proofs.Ytodpgcakciaefaa
