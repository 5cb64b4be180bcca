/-
  Counts: the walks of Sent, Received, Tx where nothing runs.
-/
import Derived.Test.YtalonmhoamjcnaaA5
namespace Go.Proofs.Ytalonmhoamjcnaa
open Go.RowKit Go.Proofs.YtalonmhoamjcnaaW.PrintWords

set_option maxHeartbeats 2000000 in
theorem Sent_idle (t r : Int) (o : Bool) (hk : (ok t r o && !o) = false) (W : World) :
    Calls Try.prog 11 #[cv t r o] W fun e W' => e = .returned (cv t r o) ∧ Below W.heap.size W W' := by
  have HK := Aside0.mk hk
  clear hk
  unfold cv
  go_enter Try.func11, Try.ntmps11
  go_wp2_with fail
  obtain ⟨W3, hW3⟩ : ∃ W3, ((W.alloc (.cells #[.int .i64 t, .int .i64 r, .bool o] 23)).alloc (.cells #[.int .i64 0, .int .i64 0, .bool false] 23)).alloc (.cells #[.int .i64 t, .int .i64 r, .bool o] 50) = W3 := ⟨_, rfl⟩
  have T3 : TurnAt W3 (W.heap.size + 1 + 1) t r o := by
    have := heap_alloc_new ((W.alloc (.cells #[.int .i64 t, .int .i64 r, .bool o] 23)).alloc (.cells #[.int .i64 0, .int .i64 0, .bool false] 23)) (.cells #[.int .i64 t, .int .i64 r, .bool o] 50)
    rw [hW3, World.size_alloc, World.size_alloc] at this
    exact this
  have C3 : CountAt W3 (W.heap.size + 1) 0 0 false := by
    have h1 := heap_alloc_new (W.alloc (.cells #[.int .i64 t, .int .i64 r, .bool o] 23)) (.cells #[.int .i64 0, .int .i64 0, .bool false] 23)
    have h2 : CountAt ((W.alloc (.cells #[.int .i64 t, .int .i64 r, .bool o] 23)).alloc (.cells #[.int .i64 0, .int .i64 0, .bool false] 23)) (W.heap.size + 1) 0 0 false := by
      rw [World.size_alloc] at h1
      exact h1
    exact hW3 ▸ h2.below ((Below.refl _ _).alloc (Nat.le_refl _) _)
  have B3 : Below W.heap.size W W3 := hW3 ▸ ((((Below.refl _ _).alloc (Nat.le_refl _) _).alloc (by simp) _).alloc (by simp; omega) _)
  rw [hW3]
  clear hW3
  refine (runs_skip (W.heap.size + 1 + 1) _ t r o W3 T3 HK.out).mono ?_
  rintro e w4 ⟨rfl, b4⟩
  have C4 := Aside0.mk (show CountAt w4 (W.heap.size + 1) 0 0 false from (b4.block _ C3.lt).trans C3)
  have B4 := Aside0.mk (show Below W.heap.size W w4 from B3.trans (b4.mono B3.size))
  clear b4 C3 B3 T3
  obtain ⟨x0, x1, x2, f0, f1, f2⟩ := C4.out.cells
  unfold cv
  go_wp2_with fail
  have C5 := CountAt.put C4.out t r o
  have B5 := Below.put B4.out (W.heap.size + 1) (by omega) (.int .i64 t) (.int .i64 r) (.bool o)
  obtain ⟨z0, z1, z2, -, -, -⟩ := C5.cells
  refine bodyPost_ret (v := cv t r o) ?_ rfl ⟨rfl, B5⟩
  simp [results, Try.f11, go_sem, z0, z1, z2, cv]
set_option maxHeartbeats 2000000 in
theorem Received_idle (t r : Int) (o : Bool) (hk : (ok t r o && !o) = false) (W : World) :
    Calls Try.prog 13 #[cv t r o] W fun e W' => e = .returned (cv t r o) ∧ Below W.heap.size W W' := by
  have HK := Aside0.mk hk
  clear hk
  unfold cv
  go_enter Try.func13, Try.ntmps13
  go_wp2_with fail
  obtain ⟨W3, hW3⟩ : ∃ W3, ((W.alloc (.cells #[.int .i64 t, .int .i64 r, .bool o] 23)).alloc (.cells #[.int .i64 0, .int .i64 0, .bool false] 23)).alloc (.cells #[.int .i64 t, .int .i64 r, .bool o] 50) = W3 := ⟨_, rfl⟩
  have T3 : TurnAt W3 (W.heap.size + 1 + 1) t r o := by
    have := heap_alloc_new ((W.alloc (.cells #[.int .i64 t, .int .i64 r, .bool o] 23)).alloc (.cells #[.int .i64 0, .int .i64 0, .bool false] 23)) (.cells #[.int .i64 t, .int .i64 r, .bool o] 50)
    rw [hW3, World.size_alloc, World.size_alloc] at this
    exact this
  have C3 : CountAt W3 (W.heap.size + 1) 0 0 false := by
    have h1 := heap_alloc_new (W.alloc (.cells #[.int .i64 t, .int .i64 r, .bool o] 23)) (.cells #[.int .i64 0, .int .i64 0, .bool false] 23)
    have h2 : CountAt ((W.alloc (.cells #[.int .i64 t, .int .i64 r, .bool o] 23)).alloc (.cells #[.int .i64 0, .int .i64 0, .bool false] 23)) (W.heap.size + 1) 0 0 false := by
      rw [World.size_alloc] at h1
      exact h1
    exact hW3 ▸ h2.below ((Below.refl _ _).alloc (Nat.le_refl _) _)
  have B3 : Below W.heap.size W W3 := hW3 ▸ ((((Below.refl _ _).alloc (Nat.le_refl _) _).alloc (by simp) _).alloc (by simp; omega) _)
  rw [hW3]
  clear hW3
  refine (runs_skip (W.heap.size + 1 + 1) _ t r o W3 T3 HK.out).mono ?_
  rintro e w4 ⟨rfl, b4⟩
  have C4 := Aside0.mk (show CountAt w4 (W.heap.size + 1) 0 0 false from (b4.block _ C3.lt).trans C3)
  have B4 := Aside0.mk (show Below W.heap.size W w4 from B3.trans (b4.mono B3.size))
  clear b4 C3 B3 T3
  obtain ⟨x0, x1, x2, f0, f1, f2⟩ := C4.out.cells
  unfold cv
  go_wp2_with fail
  have C5 := CountAt.put C4.out t r o
  have B5 := Below.put B4.out (W.heap.size + 1) (by omega) (.int .i64 t) (.int .i64 r) (.bool o)
  obtain ⟨z0, z1, z2, -, -, -⟩ := C5.cells
  refine bodyPost_ret (v := cv t r o) ?_ rfl ⟨rfl, B5⟩
  simp [results, Try.f13, go_sem, z0, z1, z2, cv]
set_option maxHeartbeats 2000000 in
theorem Tx_idle (t r : Int) (o : Bool) (hk : (ok t r o && !o) = false) (W : World) :
    Calls Try.prog 18 #[cv t r o] W fun e W' => e = .returned (cv t r o) ∧ Below W.heap.size W W' := by
  have HK := Aside0.mk hk
  clear hk
  unfold cv
  go_enter Try.func18, Try.ntmps18
  go_wp2_with fail
  obtain ⟨W3, hW3⟩ : ∃ W3, ((W.alloc (.cells #[.int .i64 t, .int .i64 r, .bool o] 23)).alloc (.cells #[.int .i64 0, .int .i64 0, .bool false] 23)).alloc (.cells #[.int .i64 t, .int .i64 r, .bool o] 50) = W3 := ⟨_, rfl⟩
  have T3 : TurnAt W3 (W.heap.size + 1 + 1) t r o := by
    have := heap_alloc_new ((W.alloc (.cells #[.int .i64 t, .int .i64 r, .bool o] 23)).alloc (.cells #[.int .i64 0, .int .i64 0, .bool false] 23)) (.cells #[.int .i64 t, .int .i64 r, .bool o] 50)
    rw [hW3, World.size_alloc, World.size_alloc] at this
    exact this
  have C3 : CountAt W3 (W.heap.size + 1) 0 0 false := by
    have h1 := heap_alloc_new (W.alloc (.cells #[.int .i64 t, .int .i64 r, .bool o] 23)) (.cells #[.int .i64 0, .int .i64 0, .bool false] 23)
    have h2 : CountAt ((W.alloc (.cells #[.int .i64 t, .int .i64 r, .bool o] 23)).alloc (.cells #[.int .i64 0, .int .i64 0, .bool false] 23)) (W.heap.size + 1) 0 0 false := by
      rw [World.size_alloc] at h1
      exact h1
    exact hW3 ▸ h2.below ((Below.refl _ _).alloc (Nat.le_refl _) _)
  have B3 : Below W.heap.size W W3 := hW3 ▸ ((((Below.refl _ _).alloc (Nat.le_refl _) _).alloc (by simp) _).alloc (by simp; omega) _)
  rw [hW3]
  clear hW3
  refine (runs_skip (W.heap.size + 1 + 1) _ t r o W3 T3 HK.out).mono ?_
  rintro e w4 ⟨rfl, b4⟩
  have C4 := Aside0.mk (show CountAt w4 (W.heap.size + 1) 0 0 false from (b4.block _ C3.lt).trans C3)
  have B4 := Aside0.mk (show Below W.heap.size W w4 from B3.trans (b4.mono B3.size))
  clear b4 C3 B3 T3
  obtain ⟨x0, x1, x2, f0, f1, f2⟩ := C4.out.cells
  unfold cv
  go_wp2_with fail
  have C5 := CountAt.put C4.out t r o
  have B5 := Below.put B4.out (W.heap.size + 1) (by omega) (.int .i64 t) (.int .i64 r) (.bool o)
  obtain ⟨z0, z1, z2, -, -, -⟩ := C5.cells
  refine bodyPost_ret (v := cv t r o) ?_ rfl ⟨rfl, B5⟩
  simp [results, Try.f18, go_sem, z0, z1, z2, cv]
end Go.Proofs.Ytalonmhoamjcnaa
