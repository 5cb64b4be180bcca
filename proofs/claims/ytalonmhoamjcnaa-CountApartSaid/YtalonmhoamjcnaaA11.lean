/-
  Counts: the chapter's examples.
-/
import Derived.Test.YtalonmhoamjcnaaA10
namespace Go.Proofs.Ytalonmhoamjcnaa
open Go.RowKit Go.Proofs.YtalonmhoamjcnaaW.PrintWords

set_option maxHeartbeats 2000000 in
theorem awake_calls (W : World) :
    Calls Try.prog 12 #[] W fun e W' => e = .returned (.bool true) ∧ Below W.heap.size W W' := by
  go_enter Try.func12, Try.ntmps12
  go_wp2_with fail
  refine (Tx_uni 0 0 false 8 0 false rfl W).mono ?_
  rintro e w1 ⟨rfl, b1⟩
  have B1 := Aside0.mk b1
  clear b1
  unfold cv
  go_wp2_with fail
  refine (Received_uni 0 200 false 0 119 false rfl w1).mono ?_
  rintro e w2 ⟨rfl, b2⟩
  have B2 := Aside0.mk (below_step B1.out b2)
  clear b2 B1
  unfold cv
  go_wp2_with fail
  refine (Received_uni 0 127 false 0 126 false rfl w2).mono ?_
  rintro e w3 ⟨rfl, b3⟩
  have B3 := Aside0.mk (below_step B2.out b3)
  clear b3 B2
  unfold cv
  go_wp2_with fail
  refine (Rx_uni 0 250 false 8 0 255 false rfl w3).mono ?_
  rintro e w4 ⟨rfl, b4⟩
  have B4 := Aside0.mk (below_step B3.out b4)
  clear b4 B3
  unfold cv
  go_wp2_with fail
  refine (Tx_uni 248 0 false 256 0 true rfl w4).mono ?_
  rintro e w5 ⟨rfl, b5⟩
  have B5 := Aside0.mk (below_step B4.out b5)
  clear b5 B4
  unfold cv
  go_wp2_with fail
  go_ret
  exact ⟨rfl, B5.out⟩
end Go.Proofs.Ytalonmhoamjcnaa
