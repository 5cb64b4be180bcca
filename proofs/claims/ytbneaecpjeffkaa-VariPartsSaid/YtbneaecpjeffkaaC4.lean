/-
  The walk of VariBack.
-/
import Derived.Test.YtbneaecpjeffkaaC1
import Derived.Test.YtbneaecpjeffkaaPlain2
import Derived.Test.YtbneaecpjeffkaaR
namespace Go.Proofs.Ytbneaecpjeffkaa
open Go.RowKit Go.Proofs.YtbneaecpjeffkaaW.PrintWords

theorem same_yes (A : Option Addr) (n c : Nat) (l : List Int) (hn : l.length = n) (B : Option Addr) (d : Nat) (m : List Int) (hm : m.length = n) (he : l = m) (w : World) (h : Bs w A c l) (h' : Bs w B d m) :
    Calls Try.prog 16 #[.slice A n c, .slice B n d] w fun e w' => e = .returned (.bool true) ∧ Drawn0 w w' := by
  have := same_n A n c l hn B n d m hm w h h'
  rw [decide_eq_true he] at this
  exact this

set_option maxRecDepth 100000 in
set_option maxHeartbeats 4000000 in
theorem back_main (x : Nat) (hx : x < U64) (A : Option Addr) (c : Nat) (l : List Int) (w : World) (h : Bs w A c l) :
    Calls Try.prog 7 #[.int .u64 x, .slice A l.length c] w fun e w' => e = .returned (.bool true) ∧ Below w.heap.size w w' := by
  have H := Aside0.mk h
  have hcap := h.cap
  have HX := Aside0.mk hx
  clear h hx
  by_cases hlt : 300 < l.length
  · have t0 : (300 : Int) < (l.length : Int) := by omega
    go_enter Try.func7, Try.ntmps7
    go_wp2_with fail
    refine (awake_calls w).mono ?_
    rintro e w5 ⟨rfl, b5⟩
    have B5 := Aside0.mk b5
    clear b5
    simp only []
    repeat go_step
    go_ret
    exact ⟨by simp, B5.out⟩
  · have t0 : ¬ (300 : Int) < (l.length : Int) := by omega
    obtain ⟨p, hp⟩ : ∃ p, Pl.put x = p := ⟨_, rfl⟩
    obtain ⟨k, hk⟩ : ∃ k, p.length = k := ⟨_, rfl⟩
    have hkp : 0 < k := by rw [← hk, ← hp]; exact put_pos x
    have hk10 : k ≤ 10 := by rw [← hk, ← hp]; exact put_ten HX.out
    have HP := Aside0.mk hp
    have HK := Aside0.mk hk
    have HPR := Aside0.mk (show ∀ y ∈ p, 0 ≤ y ∧ y < 256 by rw [← hp]; exact put_rng x)
    have HG := Aside0.mk (show Pl.get (p ++ l) = (x, k, 0) by rw [← hk, ← hp]; exact Pl.get_put x HX.out l)
    have HKX := Aside0.mk (show (Pl.put x).length = k by rw [hp, hk])
    have hln : l.length ≤ 300 := by omega
    clear hp hk hlt
    have s1 : ¬ (k : Int) < 1 := by omega
    have s2 : ¬ (10 : Int) < (k : Int) := by omega
    go_enter Try.func7, Try.ntmps7
    go_wp2_with fail
    refine (put_at x HX.out k HKX.out w).mono ?_
    rw [HP.out]
    rintro e w1 ⟨A1, c1, rfl, h1, b1⟩
    have H1 := Aside0.mk h1.ks
    have B1 := Aside0.mk b1
    clear h1 b1
    go_wp2_with (first
      | (at_builtin; refine print_append_row (w0 := w) w.heap.size rfl (.tmp 19) (.tmp 20) 22 5 .u8 1 rfl Try.underlying22 info5 (by decide) _ [] p A1 k c1 rfl rfl (by exact own_lit w1 w.heap.size 5 .u8 [] B1.out.size (by decide)) (by rw [← HK.out]; exact H1.out.reads.allocS _) (by exact B1.out.alloc B1.out.size _) (by have := B1.out.size; simp; omega) (by simp; omega) ?_; intro v2 w2 hown2 hB2 _ _; rw [List.nil_append] at hown2; rw [HK.out] at hown2; obtain ⟨A2, c2, rfl⟩ := own_slice hown2)
      | (at_builtin; refine print_append_row (w0 := w) w.heap.size rfl (.tmp 21) (.tmp 22) 22 5 .u8 1 rfl Try.underlying22 info5 (by decide) _ p l A l.length c rfl rfl (by rw [HK.out]; exact hown2) (by exact (H.out.below hB2).reads) (by exact hB2) (by exact hB2.size) (by have := HK.out; omega) ?_; intro v3 w3 hown3 hB3 _ _; rw [List.length_append, HK.out] at hown3; obtain ⟨A3, c3, rfl⟩ := own_slice hown3))
    have HLN := Aside0.mk (show (p ++ l).length = k + l.length by rw [List.length_append, HK.out])
    have O3 := Aside0.mk (show Bs w3 A3 c3 (p ++ l) from ⟨by rw [HLN.out]; exact own_reads' hown3, by rw [HLN.out]; exact own_cap hown3, fun y hy => (List.mem_append.1 hy).elim (HPR.out y) (H.out.rng y)⟩)
    have B3 := Aside0.mk hB3
    clear hown3 hB3 hown2 hB2
    refine (get_at A3 (k + l.length) c3 (p ++ l) HLN.out w3 O3.out x k 0 HG.out (x : Int) (k : Int) rfl rfl).mono ?_
    rintro e w4 ⟨rfl, hw⟩
    have B4 := Aside0.mk (show Below w.heap.size w w4 from hw ▸ B3.out)
    clear hw
    simp only []
    repeat go_step
    refine (len_at x HX.out k HKX.out w4).mono ?_
    rintro e w5 ⟨rfl, rfl⟩
    simp only []
    repeat go_step
    obtain ⟨v, m, e0, hg⟩ : ∃ v m e, Pl.get l = (v, m, e) := ⟨_, _, _, rfl⟩
    have HV := Aside0.mk hg
    clear hg
    refine (get_at A l.length c l rfl w4 (H.out.below B4.out) v m e0 HV.out (v : Int) (m : Int) rfl rfl).mono ?_
    rintro e w5 ⟨rfl, rfl⟩
    by_cases he : e0 = 0
    · subst he
      have hb := Pl.get_bound (l := l) (by rw [HV.out])
      rw [HV.out] at hb
      simp only at hb
      have HU := Aside0.mk (show v < U64 by have := get_lt (l := l) (fun x hx => (H.out.rng x hx).1); rw [HV.out] at this; exact this)
      have HE := Aside0.mk (show Pl.put v = l.take m by have := Pl.put_get (l := l) H.out.rng (by rw [HV.out]); rw [HV.out] at this; exact this)
      obtain ⟨cut1, kb⟩ := take_cut_n A c m l.length l rfl hb.2 hcap
      have HT := Aside0.mk kb
      have HTL := Aside0.mk (show (l.take m).length = m by rw [List.length_take]; omega)
      have HPL := Aside0.mk (show (Pl.put v).length = m by rw [HE.out, HTL.out])
      have g1 : (1 : Int) ≤ (m : Int) := by omega
      have g2 : (m : Int) ≤ (l.length : Int) := by omega
      clear kb
      simp only []
      repeat go_step
      go_region_held3 (fun w' => True) (trivial)
        (first
          | (go_at_call_of 15 (Value.int .u64 (v : Int)); refine (put_at v HU.out m HPL.out _).mono ?_; rintro e w6 ⟨A6, c6, rfl, h6, b6⟩)
          | (go_at_call_of 16 (Value.slice A6 m c6); refine (same_yes A6 m c6 (Pl.put v) HPL.out A c (l.take m) HTL.out HE.out _ (by exact h6.ks) (by exact HT.out _ (H.out.below (below_step B4.out (nodrew b6))))).mono ?_; rintro e w7 ⟨rfl, hw7⟩)
          | (go_at_call 9; refine (awake_calls _).mono ?_; rintro e w8 ⟨rfl, b8⟩))
      have B7 : Below w.heap.size w w7 := by
        obtain ⟨q, rfl⟩ := hw7
        exact pw_below_drewN (below_step B4.out (nodrew b6)) q
      have B8 := Aside0.mk (below_step B7 b8)
      clear b8 hw7 B7 b6 h6
      repeat go_step
      go_ret
      exact ⟨by simp, B8.out⟩
    · have HC := Aside0.mk (Pl.getFrom_code l 0 0)
      have hz : v = 0 ∧ m = 0 := by
        have := HC.out
        have hgg : Pl.getFrom l 0 0 = (v, m, e0) := HV.out
        rw [hgg] at this
        rcases this with h | ⟨_, h1, h2⟩
        · exact absurd h he
        · exact ⟨h1, h2⟩
      obtain ⟨rfl, rfl⟩ := hz
      have t1 : (e0 != 0) = true := by simp [he]
      have he' := Aside0.mk he
      clear he
      simp only []
      repeat go_step
      refine (awake_calls w4).mono ?_
      rintro e w5 ⟨rfl, b5⟩
      have B5 := Aside0.mk (below_step B4.out b5)
      clear b5
      simp only []
      repeat go_step
      go_ret
      exact ⟨by simp, B5.out⟩

theorem back_int (x : Int) (A : Option Addr) (c : Nat) (l : List Int) (w : World) (h' : (Lit.int .u64 x).wf = true) (h : Bs w A c l) :
    Calls Try.prog 7 #[.int .u64 x, .slice A l.length c] w fun e w' => e = .returned (.bool true) ∧ Below w.heap.size w w' := by
  obtain ⟨n, rfl, hn⟩ := u64_of h'
  exact back_main n hn A c l w h
end Go.Proofs.Ytbneaecpjeffkaa
