/-
  Counts: the walk of Rx at its weights.
-/
import Derived.Test.YtalonmhoamjcnaaA7
namespace Go.Proofs.Ytalonmhoamjcnaa
open Go.RowKit Go.Proofs.YtalonmhoamjcnaaW.PrintWords

theorem heap5 (W : World) (a b c d e : Obj) : (((((W.alloc a).alloc b).alloc c).alloc d).alloc e).heap[W.heap.size + 1]? = some b ∧ (((((W.alloc a).alloc b).alloc c).alloc d).alloc e).heap[W.heap.size + 1 + 1]? = some c ∧
    (((((W.alloc a).alloc b).alloc c).alloc d).alloc e).heap[W.heap.size + 1 + 1 + 1]? = some d ∧ (((((W.alloc a).alloc b).alloc c).alloc d).alloc e).heap[W.heap.size + 1 + 1 + 1 + 1]? = some e := by
  show (((((W.heap.push a).push b).push c).push d).push e)[W.heap.size + 1]? = some b ∧ (((((W.heap.push a).push b).push c).push d).push e)[W.heap.size + 1 + 1]? = some c ∧ (((((W.heap.push a).push b).push c).push d).push e)[W.heap.size + 1 + 1 + 1]? = some d ∧ (((((W.heap.push a).push b).push c).push d).push e)[W.heap.size + 1 + 1 + 1 + 1]? = some e
  refine ⟨?_, ?_, ?_, ?_⟩ <;> simp [Array.getElem_push]
set_option maxHeartbeats 2000000 in
theorem Rx_calls (t r : Int) (o : Bool) (g : Int) (hg : g = 1 ∨ g = 8) (hok : ok t r o = true) (ho : o = false) (r' : Int) (ht : (if r + g ≤ 255 then r + g else 255) = r') (W : World) :
    Calls Try.prog 19 #[cv t r o, .int .i64 g] W fun e W' => e = .returned (cv t r' o) ∧ Below W.heap.size W W' := by
  subst ho
  have HT := Aside0.mk ht
  have HO := Aside0.mk hok
  have HG := Aside0.mk hg
  have e18 : ((g != 1) && (g != 8)) = false := by rcases hg with rfl | rfl <;> rfl
  clear ht hok
  unfold cv
  rcases hg with rfl | rfl
  · go_enter Try.func19, Try.ntmps19
    go_wp2_with fail
    obtain ⟨W5, hW5⟩ : ∃ W5, (((((W.alloc (.cells #[.int .i64 t, .int .i64 r, .bool false] 23)).alloc (.cells #[.int .i64 1] 3)).alloc (.cells #[.int .i64 0, .int .i64 0, .bool false] 23)).alloc (.cells #[.int .i64 t, .int .i64 r, .bool false] 50)).alloc (.cells #[.pointer (some ⟨W.heap.size + 1 + 1 + 1, 0, none⟩)] 48)) = W5 := ⟨_, rfl⟩
    have S5 : W5.heap.size = W.heap.size + 5 := by rw [← hW5]; simp
    have C5 : CountAt W5 (W.heap.size + 1 + 1) 0 0 false := by rw [← hW5]; exact (heap5 W _ _ _ _ _).2.1
    have T5 : TurnAt W5 (W.heap.size + 1 + 1 + 1) t r false := by rw [← hW5]; exact (heap5 W _ _ _ _ _).2.2.1
    have P5 : W5.cell? ⟨W.heap.size + 1 + 1 + 1 + 1, 0, none⟩ = some (.pointer (some ⟨W.heap.size + 1 + 1 + 1, 0, none⟩)) := by rw [← hW5]; unfold World.cell?; simp only []; rw [(heap5 W _ _ _ _ _).2.2.2]; rfl
    have Q5 : W5.cell? ⟨W.heap.size + 1, 0, none⟩ = some (.int .i64 1) := by rw [← hW5]; unfold World.cell?; simp only []; rw [(heap5 W _ _ _ _ _).1]; rfl
    have B5 : Below W.heap.size W W5 := by rw [← hW5]; exact (((((Below.refl _ _).alloc (Nat.le_refl _) _).alloc (by simp) _).alloc (by simp; omega) _).alloc (by simp; omega) _).alloc (by simp; omega) _
    rw [hW5]
    clear hW5
    refine (runs_rx (W.heap.size + 1 + 1 + 1) (W.heap.size + 1 + 1 + 1 + 1) (W.heap.size + 1) t r 1 W5 T5 HO.out (by simp) P5 Q5 r' HT.out).mono ?_
    rintro e w6 ⟨rfl, b6⟩
    have C6 := Aside0.mk (show CountAt w6 (W.heap.size + 1 + 1) 0 0 false from (b6.block _ (by omega)).trans C5)
    have B6 := Aside0.mk (show Below W.heap.size W w6 from B5.trans (b6.mono (by omega)))
    clear b6 C5 B5 T5 P5 Q5
    obtain ⟨x0, x1, x2, f0, f1, f2⟩ := C6.out.cells
    unfold cv
    go_wp2_with fail
    have C7 := CountAt.put C6.out t r' false
    have B7 := Below.put B6.out (W.heap.size + 1 + 1) (by omega) (.int .i64 t) (.int .i64 r') (.bool false)
    obtain ⟨z0, z1, z2, -, -, -⟩ := C7.cells
    refine bodyPost_ret (v := cv t r' false) ?_ rfl ⟨rfl, B7⟩
    simp [results, Try.f19, go_sem, z0, z1, z2, cv]
  · go_enter Try.func19, Try.ntmps19
    go_wp2_with fail
    obtain ⟨W5, hW5⟩ : ∃ W5, (((((W.alloc (.cells #[.int .i64 t, .int .i64 r, .bool false] 23)).alloc (.cells #[.int .i64 8] 3)).alloc (.cells #[.int .i64 0, .int .i64 0, .bool false] 23)).alloc (.cells #[.int .i64 t, .int .i64 r, .bool false] 50)).alloc (.cells #[.pointer (some ⟨W.heap.size + 1 + 1 + 1, 0, none⟩)] 48)) = W5 := ⟨_, rfl⟩
    have S5 : W5.heap.size = W.heap.size + 5 := by rw [← hW5]; simp
    have C5 : CountAt W5 (W.heap.size + 1 + 1) 0 0 false := by rw [← hW5]; exact (heap5 W _ _ _ _ _).2.1
    have T5 : TurnAt W5 (W.heap.size + 1 + 1 + 1) t r false := by rw [← hW5]; exact (heap5 W _ _ _ _ _).2.2.1
    have P5 : W5.cell? ⟨W.heap.size + 1 + 1 + 1 + 1, 0, none⟩ = some (.pointer (some ⟨W.heap.size + 1 + 1 + 1, 0, none⟩)) := by rw [← hW5]; unfold World.cell?; simp only []; rw [(heap5 W _ _ _ _ _).2.2.2]; rfl
    have Q5 : W5.cell? ⟨W.heap.size + 1, 0, none⟩ = some (.int .i64 8) := by rw [← hW5]; unfold World.cell?; simp only []; rw [(heap5 W _ _ _ _ _).1]; rfl
    have B5 : Below W.heap.size W W5 := by rw [← hW5]; exact (((((Below.refl _ _).alloc (Nat.le_refl _) _).alloc (by simp) _).alloc (by simp; omega) _).alloc (by simp; omega) _).alloc (by simp; omega) _
    rw [hW5]
    clear hW5
    refine (runs_rx (W.heap.size + 1 + 1 + 1) (W.heap.size + 1 + 1 + 1 + 1) (W.heap.size + 1) t r 8 W5 T5 HO.out (by simp) P5 Q5 r' HT.out).mono ?_
    rintro e w6 ⟨rfl, b6⟩
    have C6 := Aside0.mk (show CountAt w6 (W.heap.size + 1 + 1) 0 0 false from (b6.block _ (by omega)).trans C5)
    have B6 := Aside0.mk (show Below W.heap.size W w6 from B5.trans (b6.mono (by omega)))
    clear b6 C5 B5 T5 P5 Q5
    obtain ⟨x0, x1, x2, f0, f1, f2⟩ := C6.out.cells
    unfold cv
    go_wp2_with fail
    have C7 := CountAt.put C6.out t r' false
    have B7 := Below.put B6.out (W.heap.size + 1 + 1) (by omega) (.int .i64 t) (.int .i64 r') (.bool false)
    obtain ⟨z0, z1, z2, -, -, -⟩ := C7.cells
    refine bodyPost_ret (v := cv t r' false) ?_ rfl ⟨rfl, B7⟩
    simp [results, Try.f19, go_sem, z0, z1, z2, cv]

set_option maxHeartbeats 2000000 in
theorem Rx_idle (t r : Int) (o : Bool) (g : Int) (hg : g = 1 ∨ g = 8) (hk : (ok t r o && !o) = false) (W : World) :
    Calls Try.prog 19 #[cv t r o, .int .i64 g] W fun e W' => e = .returned (cv t r o) ∧ Below W.heap.size W W' := by
  have HK := Aside0.mk hk
  clear hk
  unfold cv
  rcases hg with rfl | rfl
  · go_enter Try.func19, Try.ntmps19
    go_wp2_with fail
    obtain ⟨W5, hW5⟩ : ∃ W5, (((((W.alloc (.cells #[.int .i64 t, .int .i64 r, .bool o] 23)).alloc (.cells #[.int .i64 1] 3)).alloc (.cells #[.int .i64 0, .int .i64 0, .bool false] 23)).alloc (.cells #[.int .i64 t, .int .i64 r, .bool o] 50)).alloc (.cells #[.pointer (some ⟨W.heap.size + 1 + 1 + 1, 0, none⟩)] 48)) = W5 := ⟨_, rfl⟩
    have S5 : W5.heap.size = W.heap.size + 5 := by rw [← hW5]; simp
    have C5 : CountAt W5 (W.heap.size + 1 + 1) 0 0 false := by rw [← hW5]; exact (heap5 W _ _ _ _ _).2.1
    have T5 : TurnAt W5 (W.heap.size + 1 + 1 + 1) t r o := by rw [← hW5]; exact (heap5 W _ _ _ _ _).2.2.1
    have P5 : W5.cell? ⟨W.heap.size + 1 + 1 + 1 + 1, 0, none⟩ = some (.pointer (some ⟨W.heap.size + 1 + 1 + 1, 0, none⟩)) := by rw [← hW5]; unfold World.cell?; simp only []; rw [(heap5 W _ _ _ _ _).2.2.2]; rfl
    have Q5 : W5.cell? ⟨W.heap.size + 1, 0, none⟩ = some (.int .i64 1) := by rw [← hW5]; unfold World.cell?; simp only []; rw [(heap5 W _ _ _ _ _).1]; rfl
    have B5 : Below W.heap.size W W5 := by rw [← hW5]; exact (((((Below.refl _ _).alloc (Nat.le_refl _) _).alloc (by simp) _).alloc (by simp; omega) _).alloc (by simp; omega) _).alloc (by simp; omega) _
    rw [hW5]
    clear hW5
    refine (runs_skip (W.heap.size + 1 + 1 + 1) _ t r o W5 T5 HK.out).mono ?_
    rintro e w6 ⟨rfl, b6⟩
    have C6 := Aside0.mk (show CountAt w6 (W.heap.size + 1 + 1) 0 0 false from (b6.block _ C5.lt).trans C5)
    have B6 := Aside0.mk (show Below W.heap.size W w6 from B5.trans (b6.mono B5.size))
    clear b6 C5 B5 T5 P5 Q5
    obtain ⟨x0, x1, x2, f0, f1, f2⟩ := C6.out.cells
    unfold cv
    go_wp2_with fail
    have C7 := CountAt.put C6.out t r o
    have B7 := Below.put B6.out (W.heap.size + 1 + 1) (by omega) (.int .i64 t) (.int .i64 r) (.bool o)
    obtain ⟨z0, z1, z2, -, -, -⟩ := C7.cells
    refine bodyPost_ret (v := cv t r o) ?_ rfl ⟨rfl, B7⟩
    simp [results, Try.f19, go_sem, z0, z1, z2, cv]
  · go_enter Try.func19, Try.ntmps19
    go_wp2_with fail
    obtain ⟨W5, hW5⟩ : ∃ W5, (((((W.alloc (.cells #[.int .i64 t, .int .i64 r, .bool o] 23)).alloc (.cells #[.int .i64 8] 3)).alloc (.cells #[.int .i64 0, .int .i64 0, .bool false] 23)).alloc (.cells #[.int .i64 t, .int .i64 r, .bool o] 50)).alloc (.cells #[.pointer (some ⟨W.heap.size + 1 + 1 + 1, 0, none⟩)] 48)) = W5 := ⟨_, rfl⟩
    have S5 : W5.heap.size = W.heap.size + 5 := by rw [← hW5]; simp
    have C5 : CountAt W5 (W.heap.size + 1 + 1) 0 0 false := by rw [← hW5]; exact (heap5 W _ _ _ _ _).2.1
    have T5 : TurnAt W5 (W.heap.size + 1 + 1 + 1) t r o := by rw [← hW5]; exact (heap5 W _ _ _ _ _).2.2.1
    have P5 : W5.cell? ⟨W.heap.size + 1 + 1 + 1 + 1, 0, none⟩ = some (.pointer (some ⟨W.heap.size + 1 + 1 + 1, 0, none⟩)) := by rw [← hW5]; unfold World.cell?; simp only []; rw [(heap5 W _ _ _ _ _).2.2.2]; rfl
    have Q5 : W5.cell? ⟨W.heap.size + 1, 0, none⟩ = some (.int .i64 8) := by rw [← hW5]; unfold World.cell?; simp only []; rw [(heap5 W _ _ _ _ _).1]; rfl
    have B5 : Below W.heap.size W W5 := by rw [← hW5]; exact (((((Below.refl _ _).alloc (Nat.le_refl _) _).alloc (by simp) _).alloc (by simp; omega) _).alloc (by simp; omega) _).alloc (by simp; omega) _
    rw [hW5]
    clear hW5
    refine (runs_skip (W.heap.size + 1 + 1 + 1) _ t r o W5 T5 HK.out).mono ?_
    rintro e w6 ⟨rfl, b6⟩
    have C6 := Aside0.mk (show CountAt w6 (W.heap.size + 1 + 1) 0 0 false from (b6.block _ C5.lt).trans C5)
    have B6 := Aside0.mk (show Below W.heap.size W w6 from B5.trans (b6.mono B5.size))
    clear b6 C5 B5 T5 P5 Q5
    obtain ⟨x0, x1, x2, f0, f1, f2⟩ := C6.out.cells
    unfold cv
    go_wp2_with fail
    have C7 := CountAt.put C6.out t r o
    have B7 := Below.put B6.out (W.heap.size + 1 + 1) (by omega) (.int .i64 t) (.int .i64 r) (.bool o)
    obtain ⟨z0, z1, z2, -, -, -⟩ := C7.cells
    refine bodyPost_ret (v := cv t r o) ?_ rfl ⟨rfl, B7⟩
    simp [results, Try.f19, go_sem, z0, z1, z2, cv]
end Go.Proofs.Ytalonmhoamjcnaa
