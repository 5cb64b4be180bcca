/-
  The walk of Sum32Sums.
-/
import Derived.Test.YtodpgcakciaefaaC2
namespace Go.Proofs.Ytodpgcakciaefaa
open Go.RowKit Go.Proofs.YtodpgcakciaefaaW.PrintWords

set_option maxHeartbeats 2000000 in
theorem sums_main (A : Option Addr) (c : Nat) (l : List Int) (w : World) (h : Bs w A c l) (hs : l.length ≤ 1000) :
    Calls Try.prog 4 #[.slice A l.length c] w fun e w' => e = .returned (.bool true) ∧ Below w.heap.size w w' := by
  have t0 : ¬ (1000 : Int) < (l.length : Int) := by omega
  have H := Aside0.mk h
  clear h
  go_enter Try.func4, Try.ntmps4
  go_wp2_with fail
  refine (open_calls A c l w H.out (by omega)).mono ?_
  rintro e w1 ⟨A1, c1, rfl, h1, b1⟩
  have H1 := Aside0.mk h1.bs
  have B1 := Aside0.mk b1
  clear h1 b1
  go_wp2_with fail
  refine (refopen_calls A c l w1 (H.out.below B1.out) (by omega)).mono ?_
  rintro e w2 ⟨A2, c2, rfl, h2, b2⟩
  have H2 := Aside0.mk h2
  have H1 := Aside0.mk (H1.out.below b2)
  have B2 := Aside0.mk (below_step B1.out b2)
  clear h2 b2
  have hb := Aside0.mk (show ∀ x ∈ l, 0 ≤ x ∧ x < 256 from H.out.byte)
  generalize (opened l).1 = o1 at *
  generalize (opened l).2 = o2 at *
  go_wp2_with fail
  refine (sum_calls A c l w2 (H.out.below B2.out)).mono ?_
  rintro e w3 ⟨rfl, b3⟩
  have B3 := Aside0.mk (below_step B2.out b3)
  have H1 := Aside0.mk (H1.out.below b3)
  have H2 := Aside0.mk (H2.out.below b3)
  clear b3
  go_wp2_with fail
  refine (refsum_calls A c l w3 (H.out.below B3.out)).mono ?_
  rintro e w4 ⟨rfl, rfl⟩
  go_wp2_with fail
  refine (seal_calls_n A l.length c l rfl w3 (H.out.below B3.out) (by omega)).mono ?_
  rintro e w5 ⟨A5, c5, rfl, h5, b5⟩
  have H5 := Aside0.mk h5.bs
  have H1 := Aside0.mk (H1.out.below b5)
  have H2 := Aside0.mk (H2.out.below b5)
  have B5 := Aside0.mk (below_step B3.out b5)
  clear b5 h5
  go_wp2_with fail
  refine (refseal_calls A l.length c l rfl w5 (H.out.below B5.out) (by omega)).mono ?_
  rintro e w6 ⟨A6, c6, rfl, h6, b6⟩
  have H6 := Aside0.mk h6.bs
  have H5 := Aside0.mk (H5.out.below b6)
  have H1 := Aside0.mk (H1.out.below b6)
  have H2 := Aside0.mk (H2.out.below b6)
  have B6 := Aside0.mk (below_step B5.out b6)
  clear b6 h6
  go_wp2_with fail
  refine (same_calls_n A5 (l.length + 4) c5 (sealed l) (sealed_len l) A6 (l.length + 4) c6 (sealed l) (sealed_len l) w6 H5.out H6.out).mono ?_
  rintro e w7 ⟨rfl, ⟨q, rfl⟩⟩
  have eb : decide (sealed l = sealed l) = true := by simp
  go_wp2_with fail
  refine (same_calls_n A1 o1.length c1 o1 rfl A2 o1.length c2 o1 rfl _ (H1.out.drewN q) (H2.out.drewN q)).mono ?_
  rintro e w8 ⟨rfl, ⟨q2, rfl⟩⟩
  have eb2 : decide (o1 = o1) = true := by simp
  go_wp2_with fail
  refine (awake_calls _).mono ?_
  rintro e w9 ⟨rfl, b9⟩
  go_wp2
  go_ret
  exact ⟨by simp, below_step (pw_below_drewN B6.out _) b9⟩

theorem sums_calls (A : Option Addr) (c : Nat) (l : List Int) (w : World) (h : Bs w A c l) :
    Calls Try.prog 4 #[.slice A l.length c] w fun e w' => e = .returned (.bool true) ∧ Below w.heap.size w w' := by
  by_cases hs : l.length ≤ 1000
  · exact sums_main A c l w h hs
  · have t0 : (1000 : Int) < (l.length : Int) := by omega
    clear h
    go_enter Try.func4, Try.ntmps4
    go_wp2_with fail
    refine (awake_calls _).mono ?_
    rintro e w1 ⟨rfl, b1⟩
    go_wp2
    go_ret
    exact ⟨rfl, b1⟩
end Go.Proofs.Ytodpgcakciaefaa
