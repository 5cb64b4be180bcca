/-
  Counts: the walks of runs, where it runs.
-/
import Derived.Test.YtalonmhoamjcnaaA3
namespace Go.Proofs.Ytalonmhoamjcnaa
open Go.RowKit Go.Proofs.YtalonmhoamjcnaaW.PrintWords

theorem ok_rng {t r : Int} (h : ok t r false = true) : 0 ≤ r ∧ r ≤ 255 ∧ 0 ≤ t ∧ t ≤ 255 := by
  unfold ok at h
  simp at h
  omega
set_option maxHeartbeats 2000000 in
theorem runs_sent (B : Nat) (t r : Int) (W : World) (h : TurnAt W B t r false) (hok : ok t r false = true) (t' : Int) (ht : (if 0 < t then t - 1 else 0) = t') :
    Calls Try.prog 23 #[.pointer (some ⟨B, 0, none⟩), .func (.func 24) #[.pointer (some ⟨B, 0, none⟩)] #[]] W fun e W' => e = .returned (cv t' r false) ∧ Below B W W' := by
  obtain ⟨W1, hW1⟩ : ∃ W1, W.alloc (.cells #[.int .i64 0, .int .i64 0, .bool false] 23) = W1 := ⟨_, rfl⟩
  have H1 := Aside0.mk (show TurnAt W1 B t r false from hW1 ▸ h.below ((Below.refl _ _).alloc (Nat.le_refl _) _))
  have C1 := Aside0.mk (show CountAt W1 W.heap.size 0 0 false from hW1 ▸ heap_alloc_new W _)
  have B1 := Aside0.mk (show Below W.heap.size W W1 from hW1 ▸ (Below.refl _ _).alloc (Nat.le_refl _) _)
  have hlt := Aside0.mk h.lt
  have hrg := Aside0.mk (ok_rng hok)
  have HO := Aside0.mk hok
  obtain ⟨y0, y1, y2, -, -, -⟩ := H1.out.cells
  have HT := Aside0.mk ht
  clear h hok ht
  go_enter Try.func23, Try.ntmps23
  go_wp2_with fail
  refine (check_cv t r false 0 (by rw [HO.out]; rfl) W1).mono ?_
  rintro e w2 ⟨rfl, b2⟩
  have H2 := Aside0.mk (H1.out.below b2)
  have C2 := Aside0.mk (C1.out.below b2)
  have B2 := Aside0.mk (below_step B1.out b2)
  clear b2 y0 y1 y2 hW1
  obtain ⟨y0, y1, y2, -, -, -⟩ := H2.out.cells
  go_wp2_with fail
  refine (sent_calls B t r false w2 H2.out ⟨by have := hrg.out; omega, by have := hrg.out; omega⟩).mono ?_
  rintro e w3 ⟨⟨v, rfl⟩, h3, tn⟩
  have C3 := Aside0.mk (show CountAt w3 W.heap.size 0 0 false from (tn.2 _ (by have := hlt.out; omega)).trans C2.out)
  have B3 := Aside0.mk (show Below B W w3 from (B2.out.mono (by have := hlt.out; omega)).trans tn.1)
  have H3 := Aside0.mk h3
  rw [HT.out] at H3
  clear h3 tn y0 y1 y2
  obtain ⟨y0, y1, y2, -, -, -⟩ := H3.out.cells
  obtain ⟨x0, x1, x2, f0, f1, f2⟩ := C3.out.cells
  go_wp2_with fail
  have C4 := CountAt.put C3.out t' r false
  have B4 := Below.put B3.out W.heap.size (by have := hlt.out; omega) (.int .i64 t') (.int .i64 r) (.bool false)
  obtain ⟨z0, z1, z2, -, -, -⟩ := C4.cells
  refine bodyPost_ret (v := cv t' r false) ?_ rfl ⟨rfl, B4⟩
  simp [results, Try.f23, go_sem, z0, z1, z2, cv]
set_option maxHeartbeats 2000000 in
theorem runs_received (B : Nat) (t r : Int) (W : World) (h : TurnAt W B t r false) (hok : ok t r false = true) (r' : Int) (ht : (if 127 < r then 119 else if 0 < r then r - 1 else 0) = r') :
    Calls Try.prog 23 #[.pointer (some ⟨B, 0, none⟩), .func (.func 25) #[.pointer (some ⟨B, 0, none⟩)] #[]] W fun e W' => e = .returned (cv t r' false) ∧ Below B W W' := by
  obtain ⟨W1, hW1⟩ : ∃ W1, W.alloc (.cells #[.int .i64 0, .int .i64 0, .bool false] 23) = W1 := ⟨_, rfl⟩
  have H1 := Aside0.mk (show TurnAt W1 B t r false from hW1 ▸ h.below ((Below.refl _ _).alloc (Nat.le_refl _) _))
  have C1 := Aside0.mk (show CountAt W1 W.heap.size 0 0 false from hW1 ▸ heap_alloc_new W _)
  have B1 := Aside0.mk (show Below W.heap.size W W1 from hW1 ▸ (Below.refl _ _).alloc (Nat.le_refl _) _)
  have hlt := Aside0.mk h.lt
  have hrg := Aside0.mk (ok_rng hok)
  have HO := Aside0.mk hok
  obtain ⟨y0, y1, y2, -, -, -⟩ := H1.out.cells
  have HT := Aside0.mk ht
  clear h hok ht
  go_enter Try.func23, Try.ntmps23
  go_wp2_with fail
  refine (check_cv t r false 0 (by rw [HO.out]; rfl) W1).mono ?_
  rintro e w2 ⟨rfl, b2⟩
  have H2 := Aside0.mk (H1.out.below b2)
  have C2 := Aside0.mk (C1.out.below b2)
  have B2 := Aside0.mk (below_step B1.out b2)
  clear b2 y0 y1 y2 hW1
  obtain ⟨y0, y1, y2, -, -, -⟩ := H2.out.cells
  go_wp2_with fail
  refine (received_calls B t r false w2 H2.out ⟨by have := hrg.out; omega, by have := hrg.out; omega⟩).mono ?_
  rintro e w3 ⟨⟨v, rfl⟩, h3, tn⟩
  have C3 := Aside0.mk (show CountAt w3 W.heap.size 0 0 false from (tn.2 _ (by have := hlt.out; omega)).trans C2.out)
  have B3 := Aside0.mk (show Below B W w3 from (B2.out.mono (by have := hlt.out; omega)).trans tn.1)
  have H3 := Aside0.mk h3
  rw [HT.out] at H3
  clear h3 tn y0 y1 y2
  obtain ⟨y0, y1, y2, -, -, -⟩ := H3.out.cells
  obtain ⟨x0, x1, x2, f0, f1, f2⟩ := C3.out.cells
  go_wp2_with fail
  have C4 := CountAt.put C3.out t r' false
  have B4 := Below.put B3.out W.heap.size (by have := hlt.out; omega) (.int .i64 t) (.int .i64 r') (.bool false)
  obtain ⟨z0, z1, z2, -, -, -⟩ := C4.cells
  refine bodyPost_ret (v := cv t r' false) ?_ rfl ⟨rfl, B4⟩
  simp [results, Try.f23, go_sem, z0, z1, z2, cv]
set_option maxHeartbeats 2000000 in
theorem runs_tx (B : Nat) (t r : Int) (W : World) (h : TurnAt W B t r false) (hok : ok t r false = true) (t' : Int) (o' : Bool) (ht : (if 247 < t then 256 else t + 8) = t') (ho : decide (247 < t) = o') :
    Calls Try.prog 23 #[.pointer (some ⟨B, 0, none⟩), .func (.func 26) #[.pointer (some ⟨B, 0, none⟩)] #[]] W fun e W' => e = .returned (cv t' r o') ∧ Below B W W' := by
  obtain ⟨W1, hW1⟩ : ∃ W1, W.alloc (.cells #[.int .i64 0, .int .i64 0, .bool false] 23) = W1 := ⟨_, rfl⟩
  have H1 := Aside0.mk (show TurnAt W1 B t r false from hW1 ▸ h.below ((Below.refl _ _).alloc (Nat.le_refl _) _))
  have C1 := Aside0.mk (show CountAt W1 W.heap.size 0 0 false from hW1 ▸ heap_alloc_new W _)
  have B1 := Aside0.mk (show Below W.heap.size W W1 from hW1 ▸ (Below.refl _ _).alloc (Nat.le_refl _) _)
  have hlt := Aside0.mk h.lt
  have hrg := Aside0.mk (ok_rng hok)
  have HO := Aside0.mk hok
  obtain ⟨y0, y1, y2, -, -, -⟩ := H1.out.cells
  have HT := Aside0.mk ht
  have HB := Aside0.mk ho
  clear h hok ht ho
  go_enter Try.func23, Try.ntmps23
  go_wp2_with fail
  refine (check_cv t r false 0 (by rw [HO.out]; rfl) W1).mono ?_
  rintro e w2 ⟨rfl, b2⟩
  have H2 := Aside0.mk (H1.out.below b2)
  have C2 := Aside0.mk (C1.out.below b2)
  have B2 := Aside0.mk (below_step B1.out b2)
  clear b2 y0 y1 y2 hW1
  obtain ⟨y0, y1, y2, -, -, -⟩ := H2.out.cells
  go_wp2_with fail
  refine (tx_calls B t r w2 H2.out ⟨by have := hrg.out; omega, by have := hrg.out; omega⟩).mono ?_
  rintro e w3 ⟨⟨v, rfl⟩, h3, tn⟩
  have C3 := Aside0.mk (show CountAt w3 W.heap.size 0 0 false from (tn.2 _ (by have := hlt.out; omega)).trans C2.out)
  have B3 := Aside0.mk (show Below B W w3 from (B2.out.mono (by have := hlt.out; omega)).trans tn.1)
  have H3 := Aside0.mk h3
  rw [HT.out, HB.out] at H3
  clear h3 tn y0 y1 y2
  obtain ⟨y0, y1, y2, -, -, -⟩ := H3.out.cells
  obtain ⟨x0, x1, x2, f0, f1, f2⟩ := C3.out.cells
  go_wp2_with fail
  have C4 := CountAt.put C3.out t' r o'
  have B4 := Below.put B3.out W.heap.size (by have := hlt.out; omega) (.int .i64 t') (.int .i64 r) (.bool o')
  obtain ⟨z0, z1, z2, -, -, -⟩ := C4.cells
  refine bodyPost_ret (v := cv t' r o') ?_ rfl ⟨rfl, B4⟩
  simp [results, Try.f23, go_sem, z0, z1, z2, cv]
set_option maxHeartbeats 2000000 in
theorem runs_rx (B P Q : Nat) (t r g : Int) (W : World) (h : TurnAt W B t r false) (hok : ok t r false = true) (hg : g = 1 ∨ g = 8) (hP : W.cell? ⟨P, 0, none⟩ = some (.pointer (some ⟨B, 0, none⟩))) (hQ : W.cell? ⟨Q, 0, none⟩ = some (.int .i64 g)) (r' : Int) (ht : (if r + g ≤ 255 then r + g else 255) = r') :
    Calls Try.prog 23 #[.pointer (some ⟨B, 0, none⟩), .func (.func 27) #[] #[.pointer (some ⟨P, 0, none⟩), .pointer (some ⟨Q, 0, none⟩)]] W fun e W' => e = .returned (cv t r' false) ∧ Below B W W' := by
  obtain ⟨W1, hW1⟩ : ∃ W1, W.alloc (.cells #[.int .i64 0, .int .i64 0, .bool false] 23) = W1 := ⟨_, rfl⟩
  have H1 := Aside0.mk (show TurnAt W1 B t r false from hW1 ▸ h.below ((Below.refl _ _).alloc (Nat.le_refl _) _))
  have C1 := Aside0.mk (show CountAt W1 W.heap.size 0 0 false from hW1 ▸ heap_alloc_new W _)
  have B1 := Aside0.mk (show Below W.heap.size W W1 from hW1 ▸ (Below.refl _ _).alloc (Nat.le_refl _) _)
  have hlt := Aside0.mk h.lt
  have hrg := Aside0.mk (ok_rng hok)
  have HO := Aside0.mk hok
  obtain ⟨y0, y1, y2, -, -, -⟩ := H1.out.cells
  have HT := Aside0.mk ht
  have HG := Aside0.mk hg
  have HP := Aside0.mk hP
  have HQ := Aside0.mk hQ
  clear h hok ht hg hP hQ
  go_enter Try.func23, Try.ntmps23
  go_wp2_with fail
  refine (check_cv t r false 0 (by rw [HO.out]; rfl) W1).mono ?_
  rintro e w2 ⟨rfl, b2⟩
  have H2 := Aside0.mk (H1.out.below b2)
  have C2 := Aside0.mk (C1.out.below b2)
  have B2 := Aside0.mk (below_step B1.out b2)
  clear b2 y0 y1 y2 hW1
  obtain ⟨y0, y1, y2, -, -, -⟩ := H2.out.cells
  go_wp2_with fail
  refine (rx_calls B P Q t r g false w2 H2.out ⟨by have := hrg.out; omega, by have := hrg.out; omega⟩ HG.out (pw_cell_below B2.out HP.out) (pw_cell_below B2.out HQ.out)).mono ?_
  rintro e w3 ⟨⟨v, rfl⟩, h3, tn⟩
  have C3 := Aside0.mk (show CountAt w3 W.heap.size 0 0 false from (tn.2 _ (by have := hlt.out; omega)).trans C2.out)
  have B3 := Aside0.mk (show Below B W w3 from (B2.out.mono (by have := hlt.out; omega)).trans tn.1)
  have H3 := Aside0.mk h3
  rw [HT.out] at H3
  clear h3 tn y0 y1 y2
  obtain ⟨y0, y1, y2, -, -, -⟩ := H3.out.cells
  obtain ⟨x0, x1, x2, f0, f1, f2⟩ := C3.out.cells
  go_wp2_with fail
  have C4 := CountAt.put C3.out t r' false
  have B4 := Below.put B3.out W.heap.size (by have := hlt.out; omega) (.int .i64 t) (.int .i64 r') (.bool false)
  obtain ⟨z0, z1, z2, -, -, -⟩ := C4.cells
  refine bodyPost_ret (v := cv t r' false) ?_ rfl ⟨rfl, B4⟩
  simp [results, Try.f23, go_sem, z0, z1, z2, cv]
end Go.Proofs.Ytalonmhoamjcnaa
