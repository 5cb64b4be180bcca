/-
  The walks of VariPuts and VariGets.
-/
import Derived.Test.YtbneaecpjeffkaaA6
import Derived.Test.YtbneaecpjeffkaaB4
namespace Go.Proofs.Ytbneaecpjeffkaa
open Go.RowKit Go.Proofs.YtbneaecpjeffkaaW.PrintWords

theorem put_at (n : Nat) (hn : n < U64) (k : Nat) (hk : (Pl.put n).length = k) (w : World) :
    Calls Try.prog 15 #[.int .u64 n] w fun e w' => ∃ A c, e = .returned (.slice A k c) ∧ Own w' w.heap.size A c (Pl.put n) ∧ Below w.heap.size w w' := by subst hk; exact put_calls n hn w
theorem refput_at (n : Nat) (hn : n < U64) (k : Nat) (hk : (Pl.put n).length = k) (w : World) :
    Calls Try.prog 17 #[.int .u64 n] w fun e w' => ∃ A c, e = .returned (.slice A k c) ∧ Own w' w.heap.size A c (Pl.put n) ∧ Below w.heap.size w w' := by subst hk; exact refput_calls n hn w
theorem len_at (n : Nat) (hn : n < U64) (k : Nat) (hk : (Pl.put n).length = k) (w : World) :
    Calls Try.prog 18 #[.int .u64 n] w fun e w' => e = .returned (.int .i64 (k : Nat)) ∧ w = w' := by subst hk; exact len_calls n hn w
theorem Kw.ks_n {k : IntKind} {t : Nat} {M : Int} {w : World} {base : Nat} {A : Option Addr} {c : Nat} {l : List Int} (h : Kw k t M w base A c l) : Ks k M w A c l := h.ks

set_option maxRecDepth 100000 in
set_option maxHeartbeats 2000000 in
theorem puts_main (n : Nat) (hn : n < U64) (w : World) :
    Calls Try.prog 6 #[.int .u64 n] w fun e w' => e = .returned (.bool true) ∧ Below w.heap.size w w' := by
  have HN := Aside0.mk hn
  obtain ⟨k, hk⟩ : ∃ k, (Pl.put n).length = k := ⟨_, rfl⟩
  have HK := Aside0.mk hk
  clear hn hk
  go_enter Try.func6, Try.ntmps6
  go_wp2_with fail
  refine (refput_at n HN.out k HK.out w).mono ?_
  rintro e w1 ⟨A1, c1, rfl, h1, b1⟩
  have H1 := Aside0.mk h1
  have B1 := Aside0.mk b1
  clear h1 b1
  simp only []
  repeat go_step
  refine (put_at n HN.out k HK.out w1).mono ?_
  rintro e w2 ⟨A2, c2, rfl, h2, b2⟩
  have H2 := Aside0.mk h2
  have H12 := Aside0.mk (H1.out.below b2)
  have B2 := Aside0.mk (below_step B1.out b2)
  clear h2 b2
  simp only []
  repeat go_step
  refine (same_n A2 k c2 _ HK.out A1 k c1 _ HK.out w2 H2.out.ks H12.out.ks).mono ?_
  rintro e w3 ⟨rfl, hw⟩
  obtain ⟨q, hw⟩ := hw
  have B3 := Aside0.mk (show Below w.heap.size w w3 from hw ▸ pw_below_drewN B2.out q)
  clear hw
  rw [decide_eq_true rfl]
  simp only []
  repeat go_step
  refine (len_at n HN.out k HK.out w3).mono ?_
  rintro e w4 ⟨rfl, rfl⟩
  simp only []
  repeat go_step
  refine (awake_calls w3).mono ?_
  rintro e w5 ⟨rfl, b5⟩
  have B5 := Aside0.mk (below_step B3.out b5)
  clear b5
  simp only []
  repeat go_step
  go_ret
  exact ⟨by simp, B5.out⟩

set_option maxRecDepth 100000 in
set_option maxHeartbeats 2000000 in
theorem gets_main (A : Option Addr) (c : Nat) (l : List Int) (w : World) (h : Bs w A c l) :
    Calls Try.prog 3 #[.slice A l.length c] w fun e w' => e = .returned (.bool true) ∧ Below w.heap.size w w' := by
  have H := Aside0.mk h
  clear h
  by_cases hlt : 300 < l.length
  · have t0 : (300 : Int) < (l.length : Int) := by omega
    go_enter Try.func3, Try.ntmps3
    go_wp2_with fail
    refine (awake_calls w).mono ?_
    rintro e w5 ⟨rfl, b5⟩
    have B5 := Aside0.mk b5
    clear b5
    simp only []
    repeat go_step
    go_ret
    exact ⟨by simp, B5.out⟩
  · have t0 : ¬ (300 : Int) < (l.length : Int) := by omega
    obtain ⟨a, b, e0, hg⟩ : ∃ a b e, Pl.get l = (a, b, e) := ⟨_, _, _, rfl⟩
    obtain ⟨r, s, e1, ha⟩ : ∃ a b e, Pl.all l = (a, b, e) := ⟨_, _, _, rfl⟩
    have hl : l.length ≤ 1000 := by omega
    have G1 := get_calls A c l w H.out
    have G2 := refget_calls A c l w H.out
    have G3 := all_calls A c l hl w H.out
    have G4 := fun (w1 : World) (b : Below w.heap.size w w1) => refall_calls A c l hl w1 (H.out.below b)
    rw [hg] at G1 G2
    rw [ha] at G3
    simp only [ha] at G4
    clear hg ha
    obtain ⟨k, hk⟩ : ∃ k, r.length = k := ⟨_, rfl⟩
    have HK := Aside0.mk hk
    rw [hk] at G3
    simp only [hk] at G4
    clear hk
    go_enter Try.func3, Try.ntmps3
    go_wp2_with fail
    refine G1.mono ?_
    rintro e w1 ⟨rfl, rfl⟩
    simp only []
    repeat go_step
    refine G2.mono ?_
    rintro e w1 ⟨rfl, rfl⟩
    simp only []
    repeat go_step
    refine G3.mono ?_
    rintro e w1 ⟨A1, c1, rfl, h1, b1⟩
    have H1 := Aside0.mk h1
    have B1 := Aside0.mk b1
    clear h1 b1 G1 G2 G3
    simp only []
    repeat go_step
    refine (G4 w1 B1.out).mono ?_
    rintro e w2 ⟨A2, c2, rfl, h2, b2⟩
    have H2 := Aside0.mk h2
    have H12 := Aside0.mk (H1.out.below b2)
    have B2 := Aside0.mk (below_step B1.out b2)
    clear h2 b2 G4
    simp only []
    repeat go_step
    refine (nums_n A1 k c1 _ HK.out A2 k c2 _ HK.out w2 H12.out.ks H2.out.ks).mono ?_
    rintro e w3 ⟨rfl, hw⟩
    obtain ⟨q, hw⟩ := hw
    have B3 := Aside0.mk (show Below w.heap.size w w3 from hw ▸ pw_below_drewN B2.out q)
    clear hw
    rw [decide_eq_true rfl]
    simp only []
    repeat go_step
    refine (awake_calls w3).mono ?_
    rintro e w5 ⟨rfl, b5⟩
    have B5 := Aside0.mk (below_step B3.out b5)
    clear b5
    simp only []
    repeat go_step
    go_ret
    exact ⟨by simp, B5.out⟩
end Go.Proofs.Ytbneaecpjeffkaa
