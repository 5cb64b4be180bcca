/-
  Files: the walk of FileSure.
-/
import Derived.Test.YtfbpfogmnaahpaaA7
namespace Go.Proofs.Ytfbpfogmnaahpaa
open Go.RowKit Go.Proofs.YtfbpfogmnaahpaaW.PrintWords

theorem FileAt.set {W : World} {b p : Nat} {q : Option Nat} {A : Option Addr} {c n : Nat} {l : List Int} {s : Nat} {most : Int} {cr : Bool} (h : FileAt W b p q A c n l s most cr) (a : Addr) (ha : a.block ≠ p) (hq : some a.block ≠ q) (v : Value) : FileAt (W.setCell a v) b p q A c n l s most cr :=
  ⟨(Below.heap_setCell _ _ _ p (fun e => ha e.symm)).trans h.blk, h.own, h.len, h.row.set a (fun e => hq e.symm) v, h.apart, h.sure, h.rng⟩

theorem Row.weaken {W : World} {b b' : Nat} {q : Option Nat} {A : Option Addr} {c : Nat} {l : List Int} (h : Row W b q A c l) (hb : b' ≤ b) : Row W b' q A c l :=
  ⟨h.byte, by
    rcases h.lies with h | ⟨g, cur, h3, h4, h5, h6⟩
    · exact .inl h
    · exact .inr ⟨g, cur, h3, h4, by omega, h6⟩⟩
theorem take_cut_n (A : Option Addr) (c n m : Nat) (l : List Int) (hm : l.length = m) (hn : n ≤ m) (hc : l.length ≤ c) :
    (∀ W : World, (Instr.slice 22 (.slice A m c) none (some (.int .i64 (n : Int))) none).run Try.prog W = .ok (.slice A n c) W) ∧ (∀ w : World, Bs w A c l → Bs w A c (l.take n)) := by
  subst hm
  obtain ⟨i5, hi, hii⟩ := Option.map_eq_some_iff.1 info5
  have hsz : i5.size = 1 := by simp only [Prod.mk.injEq] at hii; exact hii.2.1
  obtain ⟨cut1, r1, q1⟩ := print_take_int (k := .u8) 22 5 Try.underlying22 hi hsz A c l (n : Int) (by omega) (by omega) hc
  rw [Int.toNat_natCast] at cut1 r1 q1
  refine ⟨fun W => ?_, fun w h => ⟨r1 w h.reads, q1, fun x hx => h.byte x (List.mem_of_mem_take hx)⟩⟩
  rw [cut1 W, List.length_take, show min n l.length = n from by omega]
theorem drop_cut_n (A : Option Addr) (c n m : Nat) (l : List Int) (hm : l.length = m) (hn : n ≤ m) (hc : l.length ≤ c) : ∃ A2 : Option Addr,
    (∀ W : World, (Instr.slice 22 (.slice A m c) (some (.int .i64 (n : Int))) none none).run Try.prog W = .ok (.slice A2 (m - n) (c - n)) W) ∧ (∀ w : World, Bs w A c l → Bs w A2 (c - n) (l.drop n)) := by
  subst hm
  obtain ⟨i5, hi, hii⟩ := Option.map_eq_some_iff.1 info5
  have hsz : i5.size = 1 := by simp only [Prod.mk.injEq] at hii; exact hii.2.1
  obtain ⟨A2, cut2, r2, q2⟩ := print_cut_int (k := .u8) 22 5 Try.underlying22 hi hsz A c l (n : Int) (by omega) (by omega) hc
  rw [Int.toNat_natCast] at cut2 r2 q2
  refine ⟨A2, fun W => ?_, fun w h => ⟨r2 w h.reads, q2, fun x hx => h.byte x (List.mem_of_mem_drop hx)⟩⟩
  rw [cut2 W, List.length_drop]

theorem FileAt.grown {W W' : World} {b p : Nat} {q r : Option Nat} {A : Option Addr} {c n : Nat} {l : List Int} {s : Nat} {most : Int} {cr : Bool} (h : FileAt W b p q A c n l s most cr) (hg : W.grownBy W' r) (hp : some p ≠ r) (hq : ∀ k, q = some k → some k ≠ r) : FileAt W' b p q A c n l s most cr :=
  ⟨(hg.block p h.lt hp).trans h.blk, h.own, h.len, h.row.grown hg hq, h.apart, h.sure, h.rng⟩

/-- Cells that hold slices of bytes. -/
def Slices (w : World) (A : Option Addr) (len : Nat) : Prop :=
  ∀ i, i < len → ∃ a, A = some a ∧ ∃ X n c l, w.cell? (a.add i) = some (.slice X n c) ∧ Bs w X c l ∧ l.length = n
/-- Cells that hold bools. -/
def Bools (w : World) (A : Option Addr) (len : Nat) : Prop := ∀ i, i < len → ∃ a, A = some a ∧ ∃ b, w.cell? (a.add i) = some (.bool b)

set_option maxRecDepth 100000 in
set_option maxHeartbeats 8000000 in
theorem sure_long (A : Option Addr) (n c : Nat) (B : Option Addr) (m d : Nat) (left : Int) (W : World) (h : 60 < n ∨ 60 < m) :
    Calls Try.prog 5 #[.slice A n c, .slice B m d, .int .i64 left] W fun e W' => e = .returned (.bool true) ∧ Below W.heap.size W W' := by
  by_cases t0 : (60 : Int) < (n : Int)
  · clear h
    go_enter Try.func5, Try.ntmps5
    go_wp2_with fail
    refine (awake_calls W).mono ?_
    rintro e wz ⟨rfl, bz⟩
    have BZ := Aside0.mk (below_step (Below.refl _ _) bz)
    clear bz
    go_wp2_with fail
    go_ret
    exact ⟨rfl, BZ.out⟩
  have t1 : (60 : Int) < (m : Int) := by omega
  clear h
  go_enter Try.func5, Try.ntmps5
  go_wp2_with fail
  refine (awake_calls W).mono ?_
  rintro e wz ⟨rfl, bz⟩
  have BZ := Aside0.mk (below_step (Below.refl _ _) bz)
  clear bz
  go_wp2_with fail
  go_ret
  exact ⟨rfl, BZ.out⟩

set_option maxRecDepth 100000 in
set_option maxHeartbeats 16000000 in
theorem sure_short (A : Option Addr) (n c : Nat) (B : Option Addr) (m d : Nat) (left : Int) (W : World) (hs : Slices W A n) (hbo : Bools W B m) (un : n ≤ 60) (um : m ≤ 60) :
    Calls Try.prog 5 #[.slice A n c, .slice B m d, .int .i64 left] W fun e W' => e = .returned (.bool true) ∧ Below W.heap.size W W' := by
  have t0 : ¬ (60 : Int) < (n : Int) := by omega
  have t1 : ¬ (60 : Int) < (m : Int) := by omega
  go_enter Try.func5, Try.ntmps5
  go_wp2_with fail
  refine (new_calls 6000 (by decide) (by decide) W.heap.size W (Nat.le_refl _)).mono ?_
  rintro e w1 ⟨rfl, f1, b1⟩
  have F1 := Aside0.mk f1
  have B1 := Aside0.mk b1
  clear f1 b1 t0 t1
  go_upto_region 7 with fail
  obtain ⟨w2, hw2⟩ : ∃ w2, w1.alloc (.cells #[] 5) = w2 := ⟨_, rfl⟩
  have R2 := Aside0.mk ((lit_row #[] [] 0 rfl rfl (by simp) (by decide) hw2).weaken B1.out.size)
  have F2 := Aside0.mk (F1.out.below (grow hw2))
  have B2 := Aside0.mk (B1.out.trans ((grow hw2).mono B1.out.size))
  have LW := Aside0.mk F1.out.lt
  rw [hw2]
  clear hw2 F1 B1
  go_wp2_with fail
  go_loopw [9, 10, 11] (fun va vs i wr => ∃ k : Nat, k ≤ n ∧ i = .int .i64 k ∧ (∃ (na : Nat) (la : List Int) (s : Nat) (qf : Option Nat) (Af : Option Addr) (cf : Nat) (qa : Option Nat) (Aa : Option Addr) (ca : Nat), va = .slice Aa na ca ∧ vs = .int .i64 s ∧ FileAt wr W.heap.size W.heap.size qf Af cf na la s 6000 false ∧ Row wr W.heap.size qa Aa ca la ∧ (∀ j, qa = some j → j ≠ W.heap.size ∧ some j ≠ qf) ∧ na ≤ 100 * k) ∧ Below W.heap.size W wr) (fun _ _ i _ => n - (intOf i).toNat)
  case atStart => exact ⟨0, by omega, rfl, ⟨0, [], 0, none, none, 0, some w1.heap.size, some ⟨w1.heap.size, 0, none⟩, 0, rfl, rfl, F2.out, R2.out, fun j hj => ⟨by cases hj; have := LW.out; omega, by simp⟩, by omega⟩, B2.out⟩
  case round =>
    clear F2 B2 R2
    obtain ⟨k, hk, rfl, ⟨na, la, s, qf, Af, cf, qa, Aa, ca, rfl, rfl, hF, hR, hsep, hna⟩, hB⟩ := hrel
    by_cases hlt : k < n
    · obtain ⟨a, rfl, X, nk, ck, lk, v0, hX, hlk⟩ := hs k hlt
      have i0 : (0 : Int) ≤ (k : Int) := by omega
      have i1 : (k : Int) < (n : Int) := by omega
      have z0 := pw_cell_below hB v0
      have HX := Aside0.mk (And.intro hX hlk)
      have F := Aside0.mk hF
      have R := Aside0.mk hR
      have SEP := Aside0.mk hsep
      have HB := Aside0.mk hB
      have V0 := Aside0.mk v0
      clear hF hR hsep hB hX hlk v0
      by_cases cl : (100 : Int) < (nk : Int)
      · go_wp2_with fail
        refine (awake_calls wr).mono ?_
        rintro e wz ⟨rfl, bz⟩
        have BZ := Aside0.mk (below_step HB.out bz)
        clear bz
        go_wp2_with fail
        go_ret
        exact ⟨rfl, BZ.out⟩
      go_wp2_with fail
      refine (append_calls _ _ _ _ _ _ _ _ _ X ck nk lk wr F.out (HX.out.1.below HB.out) HX.out.2 (by omega) (by omega) HB.out.size).mono ?_
      rintro e w3 ⟨rfl, Af2, cf2, qf2, hf, hd, hq⟩
      have F3 := Aside0.mk hf
      have B3 := Aside0.mk (HB.out.trans hd.below)
      have R3 := Aside0.mk (R.out.did2 hd (fun e => (SEP.out _ e).1 rfl) (fun j hj => (SEP.out j hj).2))
      have SEP3 := Aside0.mk (show ∀ j, qa = some j → j ≠ W.heap.size ∧ some j ≠ qf2 from fun j hj => ⟨(SEP.out j hj).1, by
        rcases hq with rfl | ⟨i, rfl, hi⟩
        · exact (SEP.out j hj).2
        · intro e; cases e; have := (R.out.size j hj).2; omega⟩)
      have FLT := Aside0.mk (show ∀ j, qf2 = some j → j < w3.heap.size from fun j hj => (hf.row.size j hj).2)
      clear hf hd hq F R SEP HB z0
      have z0 := pw_cell_below B3.out V0.out
      obtain ⟨ny, hny⟩ : ∃ ny, na + nk = ny := ⟨_, rfl⟩
      obtain ⟨ly, hly⟩ : ∃ ly, la ++ lk = ly := ⟨_, rfl⟩
      go_wp2_with (at_builtin; refine wpList_append_Row (b := W.heap.size) (n := na) (l := la) rfl _ _ rfl X nk ck lk rfl rfl ?c1 R3.out ?c2 ?c3 ?c4 ?c5 ?_)
      case c1 => have := F3.out.len; have := HX.out.2; simp at *; omega
      case c2 => exact Bs.of HX.out B3.out
      case c3 => exact HX.out.1.byte
      case c4 => omega
      case c5 => exact B3.out.size
      intro Aa2 ca2 qa2 w4 hR hg hq
      have F4 := Aside0.mk (show FileAt w4 W.heap.size W.heap.size qf2 Af2 cf2 ny ly s 6000 false from by
        rw [← hny, ← hly]
        exact F3.out.grown hg (fun e => (SEP3.out _ e.symm).1 rfl) (fun j hj e => (SEP3.out j e.symm).2 hj.symm))
      have B4 := Aside0.mk (B3.out.grown hg B3.out.size (fun j hj => (R3.out.size j hj).1))
      have R4 := Aside0.mk (show Row w4 W.heap.size qa2 Aa2 ca2 ly from by first | exact hR | (rw [← hly]; exact hR))
      have SEP2 := Aside0.mk (show ∀ j, qa2 = some j → j ≠ W.heap.size ∧ some j ≠ qf2 from fun j hj => by
        rcases hq with rfl | ⟨i, rfl, hi⟩
        · exact SEP3.out j hj
        · cases hj
          exact ⟨by have := F3.out.lt; omega, fun e => by have := FLT.out _ e.symm; omega⟩)
      try rw [hny]
      have HNY := Aside0.mk (show ny ≤ 100 * (k + 1) by omega)
      clear hR hg hq hny hly F3 B3 R3 SEP3 FLT z0
      have hny2 := HNY.out
      by_cases cb1 : (k : Int) < (m : Int)
      · obtain ⟨ab, rfl, fb, u0⟩ := hbo k (by omega)
        replace u0 := pw_cell_below B4.out u0
        cases fb
        · go_wp2_with fail
          go_wp2_with fail
          refine (sure_calls _ _ _ F4.out.cells.2.1).mono ?_
          rintro e w' ⟨rfl, rfl⟩
          go_wp2_with fail
          refine (len_calls _ _ _ _ _ F4.out.cells.1).mono ?_
          rintro e w' ⟨rfl, rfl⟩
          go_wp2_with fail
          refine (bytes_calls _ _ _ _ ly F4.out.len (by omega) w4 F4.out.cells.1 F4.out.bs).mono ?_
          rintro e w8 ⟨A8, c8, q8, rfl, r8, b8⟩
          have R8 := Aside0.mk r8
          have F8 := Aside0.mk (F4.out.below b8)
          have L8 := Aside0.mk (R4.out.below b8)
          have B8 := Aside0.mk (B4.out.trans (b8.mono B4.out.size))
          clear r8 b8 F4 R4 B4
          go_wp2_with fail
          refine (same_calls _ _ ny ly F8.out.len _ _ ny ly F8.out.len w8 R8.out.bs L8.out.bs).mono ?_
          rintro e w9 ⟨rfl, hd⟩
          have dd : decide (ly = ly) = true := by simp
          rw [dd]
          have F9 := Aside0.mk (F8.out.below (same_below hd))
          have L9 := Aside0.mk (L8.out.below (same_below hd))
          have B9 := Aside0.mk (B8.out.trans ((same_below hd).mono B8.out.size))
          clear hd dd F8 L8 B8 R8
          go_wp2_with fail
          go_roundw
          case rel => exact ⟨k + 1, by omega, by go_num, ⟨ny, ly, s, qf2, Af2, cf2, qa2, Aa2, ca2, rfl, rfl, F9.out, L9.out, SEP2.out, by omega⟩, B9.out⟩
          case measure => simp [intOf]; omega
        · go_wp2_with fail
          refine (flush_calls _ _ _ _ _ _ _ _ _ w4 F4.out B4.out.size).mono ?_
          rintro e w5 ⟨rfl, hf, hd⟩
          have F5 := Aside0.mk hf
          have R5 := Aside0.mk (R4.out.did2 hd (fun e => (SEP2.out _ e).1 rfl) (fun j hj => (SEP2.out j hj).2))
          have B5 := Aside0.mk (B4.out.trans hd.below)
          clear hf hd F4 R4 B4 u0
          go_wp2_with fail
          refine (sure_calls _ _ _ F5.out.cells.2.1).mono ?_
          rintro e w' ⟨rfl, rfl⟩
          go_wp2_with fail
          refine (len_calls _ _ _ _ _ F5.out.cells.1).mono ?_
          rintro e w' ⟨rfl, rfl⟩
          go_wp2_with fail
          refine (bytes_calls _ _ _ _ ly F5.out.len (by omega) w5 F5.out.cells.1 F5.out.bs).mono ?_
          rintro e w8 ⟨A8, c8, q8, rfl, r8, b8⟩
          have R8 := Aside0.mk r8
          have F8 := Aside0.mk (F5.out.below b8)
          have L8 := Aside0.mk (R5.out.below b8)
          have B8 := Aside0.mk (B5.out.trans (b8.mono B5.out.size))
          clear r8 b8 F5 R5 B5
          go_wp2_with fail
          refine (same_calls _ _ ny ly F8.out.len _ _ ny ly F8.out.len w8 R8.out.bs L8.out.bs).mono ?_
          rintro e w9 ⟨rfl, hd⟩
          have dd : decide (ly = ly) = true := by simp
          rw [dd]
          have F9 := Aside0.mk (F8.out.below (same_below hd))
          have L9 := Aside0.mk (L8.out.below (same_below hd))
          have B9 := Aside0.mk (B8.out.trans ((same_below hd).mono B8.out.size))
          clear hd dd F8 L8 B8 R8
          go_wp2_with fail
          go_roundw
          case rel => exact ⟨k + 1, by omega, by go_num, ⟨ny, ly, ny, qf2, Af2, cf2, qa2, Aa2, ca2, rfl, rfl, F9.out, L9.out, SEP2.out, by omega⟩, B9.out⟩
          case measure => simp [intOf]; omega
      · go_wp2_with fail
        go_wp2_with fail
        refine (sure_calls _ _ _ F4.out.cells.2.1).mono ?_
        rintro e w' ⟨rfl, rfl⟩
        go_wp2_with fail
        refine (len_calls _ _ _ _ _ F4.out.cells.1).mono ?_
        rintro e w' ⟨rfl, rfl⟩
        go_wp2_with fail
        refine (bytes_calls _ _ _ _ ly F4.out.len (by omega) w4 F4.out.cells.1 F4.out.bs).mono ?_
        rintro e w8 ⟨A8, c8, q8, rfl, r8, b8⟩
        have R8 := Aside0.mk r8
        have F8 := Aside0.mk (F4.out.below b8)
        have L8 := Aside0.mk (R4.out.below b8)
        have B8 := Aside0.mk (B4.out.trans (b8.mono B4.out.size))
        clear r8 b8 F4 R4 B4
        go_wp2_with fail
        refine (same_calls _ _ ny ly F8.out.len _ _ ny ly F8.out.len w8 R8.out.bs L8.out.bs).mono ?_
        rintro e w9 ⟨rfl, hd⟩
        have dd : decide (ly = ly) = true := by simp
        rw [dd]
        have F9 := Aside0.mk (F8.out.below (same_below hd))
        have L9 := Aside0.mk (L8.out.below (same_below hd))
        have B9 := Aside0.mk (B8.out.trans ((same_below hd).mono B8.out.size))
        clear hd dd F8 L8 B8 R8
        go_wp2_with fail
        go_roundw
        case rel => exact ⟨k + 1, by omega, by go_num, ⟨ny, ly, s, qf2, Af2, cf2, qa2, Aa2, ca2, rfl, rfl, F9.out, L9.out, SEP2.out, by omega⟩, B9.out⟩
        case measure => simp [intOf]; omega
    · obtain rfl : n = k := by omega
      have F := Aside0.mk hF
      have R := Aside0.mk hR
      have SEP := Aside0.mk hsep
      have HB := Aside0.mk hB
      have hss := hF.sure
      clear hF hR hsep hB
      have hw : IntKind.i64.wrap ((na : Int) - (s : Int)) = (na : Int) - s := wrap_in (by omega) (by omega)
      by_cases cr : left < 0 ∨ (na : Int) - s < left
      · go_wp2_with fail
        refine (crash_range _ _ _ _ _ _ _ _ _ left none 0 0 wr F.out cr).mono ?_
        rintro e w3 ⟨rfl, b3⟩
        have F3 := Aside0.mk (F.out.below b3)
        have B3 := Aside0.mk (HB.out.trans (b3.mono HB.out.size))
        clear b3 F HB R SEP
        have fin : ∀ (x : Nat), x = 0 → True := fun _ _ => trivial
        clear fin
        by_cases c1 : left < 0
        · clear cr
          go_wp2_with fail
          refine (len_calls _ _ _ _ _ F3.out.cells.1).mono ?_
          rintro e w' ⟨rfl, rfl⟩
          go_wp2_with fail
          refine (flush_calls _ _ _ _ _ _ _ _ _ w3 F3.out B3.out.size).mono ?_
          rintro e w4 ⟨rfl, hf, hd⟩
          have F4 := Aside0.mk hf
          have B4 := Aside0.mk (B3.out.trans hd.below)
          clear hf hd F3 B3
          go_wp2_with fail
          refine (sure_calls _ _ _ F4.out.cells.2.1).mono ?_
          rintro e w' ⟨rfl, rfl⟩
          go_wp2_with fail
          refine (awake_calls w4).mono ?_
          rintro e wz ⟨rfl, bz⟩
          have BZ := Aside0.mk (below_step B4.out bz)
          clear bz
          go_wp2_with fail
          go_ret
          exact ⟨rfl, BZ.out⟩
        · have c2 : (na : Int) - s < left := by omega
          clear cr
          go_wp2_with fail
          refine (len_calls _ _ _ _ _ F3.out.cells.1).mono ?_
          rintro e w' ⟨rfl, rfl⟩
          go_wp2_with fail
          refine (flush_calls _ _ _ _ _ _ _ _ _ w3 F3.out B3.out.size).mono ?_
          rintro e w4 ⟨rfl, hf, hd⟩
          have F4 := Aside0.mk hf
          have B4 := Aside0.mk (B3.out.trans hd.below)
          clear hf hd F3 B3
          go_wp2_with fail
          refine (sure_calls _ _ _ F4.out.cells.2.1).mono ?_
          rintro e w' ⟨rfl, rfl⟩
          go_wp2_with fail
          refine (awake_calls w4).mono ?_
          rintro e wz ⟨rfl, bz⟩
          have BZ := Aside0.mk (below_step B4.out bz)
          clear bz
          go_wp2_with fail
          go_ret
          exact ⟨rfl, BZ.out⟩
      · obtain ⟨k0, rfl⟩ : ∃ k0 : Nat, left = (k0 : Int) := ⟨left.toNat, by omega⟩
        obtain ⟨N, hN⟩ : ∃ N, s + k0 = N := ⟨_, rfl⟩
        have hNa : N ≤ na := by omega
        have hNI : IntKind.i64.wrap ((s : Int) + (k0 : Int)) = (N : Int) := by rw [← hN]; exact wrap_in (by omega) (by omega)
        have c1 : ¬ (k0 : Int) < 0 := by omega
        have c2 : ¬ (na : Int) - s < (k0 : Int) := by omega
        have HN := Aside0.mk hN
        clear cr
        go_wp2_with fail
        refine (crash_calls _ _ _ _ _ _ _ _ _ k0 N hN hNa none 0 0 [] 0 (by simp) wr F.out ⟨⟨rfl, by simp, fun h => absurd h (by simp)⟩, by simp, by simp⟩ rfl (fun h => absurd h (by simp)) HB.out.size).mono ?_
        rintro e wc ⟨rfl, hf, hd⟩
        have FC := Aside0.mk (show FileAt wc W.heap.size W.heap.size qf Af N N (la.take N) s 6000 true from hf)
        have RC := Aside0.mk (R.out.did2 hd (fun e => (SEP.out _ e).1 rfl) (fun j hj => (SEP.out j hj).2))
        have BC := Aside0.mk (HB.out.trans hd.below)
        have NL := Aside0.mk (And.intro F.out.len R.out.bs.cap)
        clear hf hd F R SEP HB hN
        obtain ⟨-, y1, -, -⟩ := FC.out.cells
        obtain ⟨cut1, kb1⟩ := take_cut_n Aa ca N na la NL.out.1 hNa NL.out.2
        go_wp2_with fail
        refine wp_region_held_drew (S := fun w' => w'.cell? ⟨W.heap.size, 1, none⟩ = some (.int .i64 s)) (by kernel_rfl) ?_ (fun hHeld => ?_)
        · exact y1
        refine takeH 0 (some 131) ?_ (by rfl) (by kernel_rfl) (by kernel_rfl) (by kernel_rfl) (fun _ _ _ h => h) ?_ hHeld ?_
        rotate_left
        · intro o ho
          simp only [List.getElem?_toArray, List.getElem?_cons_zero, Option.some.injEq] at ho
          subst ho
          refine ⟨by rfl, fun w hSw => ?_⟩
          try dsimp only at hSw
          go_simp
          try with_reducible rfl
        try simp only [Act.put, List.setIfInBounds_toArray, List.set_cons_zero, List.set_cons_succ]
        refine takeH 1 (some 132) ?_ (by rfl) (by kernel_rfl) (by kernel_rfl) (by kernel_rfl) (fun _ _ _ h => h) ?_ hHeld ?_
        rotate_left
        · intro o ho
          simp only [List.getElem?_toArray, List.getElem?_cons_succ, List.getElem?_cons_zero, Option.some.injEq] at ho
          subst ho
          refine ⟨by rfl, fun w hSw => ?_⟩
          try dsimp only at hSw
          go_simp
          try with_reducible rfl
        try simp only [Act.put, List.setIfInBounds_toArray, List.set_cons_zero, List.set_cons_succ]
        refine takeH 2 (some 133) ?_ (by rfl) (by kernel_rfl) (by kernel_rfl) (by kernel_rfl) (fun _ _ _ h => h) ?_ hHeld ?_
        rotate_left
        · intro o ho
          simp only [List.getElem?_toArray, List.getElem?_cons_succ, List.getElem?_cons_zero, Option.some.injEq] at ho
          subst ho
          refine ⟨by rfl, fun w hSw => ?_⟩
          try dsimp only at hSw
          go_simp
          try with_reducible rfl
        try simp only [Act.put, List.setIfInBounds_toArray, List.set_cons_zero, List.set_cons_succ]
        refine takeH 3 (some 134) ?_ (by rfl) (by kernel_rfl) (by kernel_rfl) (by kernel_rfl) (fun _ _ _ h => h) ?_ hHeld ?_
        rotate_left
        · intro o ho
          simp only [List.getElem?_toArray, List.getElem?_cons_succ, List.getElem?_cons_zero, Option.some.injEq] at ho
          subst ho
          refine ⟨by rfl, fun w hSw => ?_⟩
          try dsimp only at hSw
          go_simp
          try with_reducible rfl
        try simp only [Act.put, List.setIfInBounds_toArray, List.set_cons_zero, List.set_cons_succ]
        refine takeH 5 (some 136) ?_ (by rfl) (by kernel_rfl) (by kernel_rfl) (by kernel_rfl) (fun _ _ _ h => h) ?_ hHeld ?_
        rotate_left
        · intro o ho
          simp only [List.getElem?_toArray, List.getElem?_cons_succ, List.getElem?_cons_zero, Option.some.injEq] at ho
          subst ho
          refine ⟨by rfl, fun w hSw => ?_⟩
          try dsimp only at hSw
          go_simp
          try with_reducible rfl
        try simp only [Act.put, List.setIfInBounds_toArray, List.set_cons_zero, List.set_cons_succ]
        refine oneH 4 (by kernel_rfl) (by rfl) (fun o ho K hK => ?_)
        simp only [List.getElem?_toArray, List.getElem?_cons_succ, List.getElem?_cons_zero, Option.some.injEq] at ho
        subst ho
        go_simp
        refine (sure_calls _ _ _ (by exact hHeld)).mono ?_
        rintro e v1 ⟨rfl, rfl⟩
        try go_wp2_with fail
        refine hK.out _ _ ?_ (fun hHeld2 => ?_)
        · exact hHeld
        clear hK K hHeld
        rename _ => hHeld
        try simp only [Act.put, List.setIfInBounds_toArray, List.set_cons_zero, List.set_cons_succ]
        refine takeH 6 (some 137) ?_ (by rfl) (by kernel_rfl) (by kernel_rfl) (by kernel_rfl) (fun _ _ _ h => h) ?_ hHeld ?_
        rotate_left
        · intro o ho
          simp only [List.getElem?_toArray, List.getElem?_cons_succ, List.getElem?_cons_zero, Option.some.injEq] at ho
          subst ho
          refine ⟨by rfl, fun w hSw => ?_⟩
          try dsimp only at hSw
          go_simp
          try with_reducible rfl
        try simp only [Act.put, List.setIfInBounds_toArray, List.set_cons_zero, List.set_cons_succ]
        refine takeH 7 (some 138) ?_ (by rfl) (by kernel_rfl) (by kernel_rfl) (by kernel_rfl) (fun _ _ _ h => h) ?_ hHeld ?_
        rotate_left
        · intro o ho
          simp only [List.getElem?_toArray, List.getElem?_cons_succ, List.getElem?_cons_zero, Option.some.injEq] at ho
          subst ho
          refine ⟨by rfl, fun w hSw => ?_⟩
          try dsimp only at hSw
          go_simp
          try with_reducible rfl
        try simp only [Act.put, List.setIfInBounds_toArray, List.set_cons_zero, List.set_cons_succ]
        refine takeH 8 (some 139) ?_ (by rfl) (by kernel_rfl) (by kernel_rfl) (by kernel_rfl) (fun _ _ _ h => h) ?_ hHeld ?_
        rotate_left
        · intro o ho
          simp only [List.getElem?_toArray, List.getElem?_cons_succ, List.getElem?_cons_zero, Option.some.injEq] at ho
          subst ho
          refine ⟨by rfl, fun w hSw => ?_⟩
          try dsimp only at hSw
          go_simp
          try with_reducible rfl
        try simp only [Act.put, List.setIfInBounds_toArray, List.set_cons_zero, List.set_cons_succ]
        refine takeH 9 (some 140) ?_ (by rfl) (by kernel_rfl) (by kernel_rfl) (by kernel_rfl) (fun _ _ _ h => h) ?_ hHeld ?_
        rotate_left
        · intro o ho
          simp only [List.getElem?_toArray, List.getElem?_cons_succ, List.getElem?_cons_zero, Option.some.injEq] at ho
          subst ho
          refine ⟨by rfl, fun w hSw => ?_⟩
          try dsimp only at hSw
          go_simp
          try with_reducible rfl
        try simp only [Act.put, List.setIfInBounds_toArray, List.set_cons_zero, List.set_cons_succ]
        refine takeH 11 (some 142) ?_ (by rfl) (by kernel_rfl) (by kernel_rfl) (by kernel_rfl) (fun _ _ _ h => h) ?_ hHeld ?_
        rotate_left
        · intro o ho
          simp only [List.getElem?_toArray, List.getElem?_cons_succ, List.getElem?_cons_zero, Option.some.injEq] at ho
          subst ho
          refine ⟨by rfl, fun w hSw => ?_⟩
          try dsimp only at hSw
          go_simp
          try with_reducible rfl
        try simp only [Act.put, List.setIfInBounds_toArray, List.set_cons_zero, List.set_cons_succ]
        refine takeH 12 (some 143) ?_ (by rfl) (by kernel_rfl) (by kernel_rfl) (by kernel_rfl) (fun _ _ _ h => h) ?_ hHeld ?_
        rotate_left
        · intro o ho
          simp only [List.getElem?_toArray, List.getElem?_cons_succ, List.getElem?_cons_zero, Option.some.injEq] at ho
          subst ho
          refine ⟨by rfl, fun w hSw => ?_⟩
          try dsimp only at hSw
          go_simp
          try with_reducible rfl
        try simp only [Act.put, List.setIfInBounds_toArray, List.set_cons_zero, List.set_cons_succ]
        refine takeH 13 (some 144) ?_ (by rfl) (by kernel_rfl) (by kernel_rfl) (by kernel_rfl) (fun _ _ _ h => h) ?_ hHeld ?_
        rotate_left
        · intro o ho
          simp only [List.getElem?_toArray, List.getElem?_cons_succ, List.getElem?_cons_zero, Option.some.injEq] at ho
          subst ho
          refine ⟨by rfl, fun w hSw => ?_⟩
          try dsimp only at hSw
          go_simp
          try with_reducible rfl
        try simp only [Act.put, List.setIfInBounds_toArray, List.set_cons_zero, List.set_cons_succ]
        refine takeH 14 (some 145) ?_ (by rfl) (by kernel_rfl) (by kernel_rfl) (by kernel_rfl) (fun _ _ _ h => h) ?_ hHeld ?_
        rotate_left
        · intro o ho
          simp only [List.getElem?_toArray, List.getElem?_cons_succ, List.getElem?_cons_zero, Option.some.injEq] at ho
          subst ho
          refine ⟨by rfl, fun w hSw => ?_⟩
          try dsimp only at hSw
          go_simp
          try with_reducible rfl
        try simp only [Act.put, List.setIfInBounds_toArray, List.set_cons_zero, List.set_cons_succ]
        refine takeH 15 (some 146) ?_ (by rfl) (by kernel_rfl) (by kernel_rfl) (by kernel_rfl) (fun _ _ _ h => h) ?_ hHeld ?_
        rotate_left
        · intro o ho
          simp only [List.getElem?_toArray, List.getElem?_cons_succ, List.getElem?_cons_zero, Option.some.injEq] at ho
          subst ho
          refine ⟨by rfl, fun w hSw => ?_⟩
          try dsimp only at hSw
          go_simp
          try with_reducible rfl
        try simp only [Act.put, List.setIfInBounds_toArray, List.set_cons_zero, List.set_cons_succ]
        refine oneH 10 (by kernel_rfl) (by rfl) (fun o ho K hK => ?_)
        simp only [List.getElem?_toArray, List.getElem?_cons_succ, List.getElem?_cons_zero, Option.some.injEq] at ho
        subst ho
        go_simp
        refine (bytes_calls _ _ _ _ (la.take N) FC.out.len (by omega) _ (by exact FC.out.cells.1) (by exact FC.out.bs.drewN 1)).mono ?_
        rintro e w2 ⟨A2, c2, q2, rfl, r2, b2'⟩
        have b2 := nodrew b2'
        try go_wp2_with fail
        refine hK.out _ _ ?_ (fun hHeld2 => ?_)
        · exact cb b2 y1
        clear hK K hHeld
        rename _ => hHeld
        try simp only [Act.put, List.setIfInBounds_toArray, List.set_cons_zero, List.set_cons_succ]
        refine oneH 16 (by kernel_rfl) (by rfl) (fun o ho K hK => ?_)
        simp only [List.getElem?_toArray, List.getElem?_cons_succ, List.getElem?_cons_zero, Option.some.injEq] at ho
        subst ho
        go_simp
        refine (same_calls _ _ N (la.take N) FC.out.len _ _ N (la.take N) FC.out.len w2 r2.bs (kb1 _ (RC.out.bs.below b2))).mono ?_
        rintro e w3 ⟨rfl, hd⟩
        have dd : decide (la.take N = la.take N) = true := by simp
        rw [dd]
        have b3 := below_step b2 (same_below hd)
        try go_wp2_with fail
        refine hK.out _ _ ?_ (fun hHeld2 => ?_)
        · exact cb b3 y1
        clear hK K hHeld
        rename _ => hHeld
        try simp only [Act.put, List.setIfInBounds_toArray, List.set_cons_zero, List.set_cons_succ]
        refine takeH 17 (some 148) ?_ (by rfl) (by kernel_rfl) (by kernel_rfl) (by kernel_rfl) (fun _ _ _ h => h) ?_ hHeld ?_
        rotate_left
        · intro o ho
          simp only [List.getElem?_toArray, List.getElem?_cons_succ, List.getElem?_cons_zero, Option.some.injEq] at ho
          subst ho
          refine ⟨by rfl, fun w hSw => ?_⟩
          try dsimp only at hSw
          go_simp
          try with_reducible rfl
        try simp only [Act.put, List.setIfInBounds_toArray, List.set_cons_zero, List.set_cons_succ]
        refine takeH 18 (some 149) ?_ (by rfl) (by kernel_rfl) (by kernel_rfl) (by kernel_rfl) (fun _ _ _ h => h) ?_ hHeld ?_
        rotate_left
        · intro o ho
          simp only [List.getElem?_toArray, List.getElem?_cons_succ, List.getElem?_cons_zero, Option.some.injEq] at ho
          subst ho
          refine ⟨by rfl, fun w hSw => ?_⟩
          try dsimp only at hSw
          go_simp
          try with_reducible rfl
        try simp only [Act.put, List.setIfInBounds_toArray, List.set_cons_zero, List.set_cons_succ]
        refine wpAnyH_done (by kernel_rfl) ?_ _
        have F4 := Aside0.mk (FC.out.below b3)
        have B4 := Aside0.mk (BC.out.trans (b3.mono BC.out.size))
        clear hHeld b2 b2' b3 r2 hd dd y1 cut1 kb1 FC RC BC hw
        go_wp2_with fail
        refine (open_calls _ _ _ _ _ _ _ _ _ true w3 F4.out (by omega) B4.out.size).mono ?_
        rintro e w5 ⟨pp, qp, Ap, cp, rfl, hfp, hpp, hqp, hbp⟩
        have P5 := Aside0.mk hfp
        have F5 := Aside0.mk (F4.out.below hbp)
        have B5 := Aside0.mk (B4.out.trans (hbp.mono B4.out.size))
        have LP := Aside0.mk (show W.heap.size < w3.heap.size ∧ w3.heap.size ≤ pp from ⟨F4.out.lt, hpp⟩)
        have FPA := Aside0.mk (show Fresh qp w3.heap.size from hqp)
        have LQ := Aside0.mk (show ∀ j, qf = some j → j < w3.heap.size from fun j hj => (F4.out.row.size j hj).2)
        clear hfp hpp hqp hbp F4 B4
        go_wp2_with fail
        refine (sure_calls _ _ w5 P5.out.cells.2.1).mono ?_
        rintro e w' ⟨rfl, rfl⟩
        go_wp2_with fail
        obtain ⟨v1, hv1⟩ : ∃ v1, w5.alloc (.cells #[.int .u8 7] 5) = v1 := ⟨_, rfl⟩
        rw [hv1]
        by_cases c6 : (N : Int) < 6000
        · refine (append_calls _ _ _ _ _ _ _ _ _ _ 1 1 [7] v1 (P5.out.below (grow hv1)) (lit_row _ [7] 1 rfl rfl (by decide) (by decide) hv1).bs rfl (by push_cast; omega) (by omega) (B5.out.trans ((grow hv1).mono B5.out.size)).size).mono ?_
          rintro e v2 ⟨rfl, Ay, cy, qy, hf, hd, hqy⟩
          have F6 := Aside0.mk ((F5.out.below (grow hv1)).did hd (by have := LP.out; omega) (by intro e; have := FPA.out _ e.symm; have := LP.out; omega) (by intro e; have := LQ.out _ e; have := LP.out; omega) (by intro j hj e; have := LQ.out _ hj; have := FPA.out _ e.symm; omega))
          have B6 := Aside0.mk ((B5.out.trans ((grow hv1).mono B5.out.size)).trans hd.below)
          clear hf hd hqy hv1 F5 B5 P5
          go_wp2_with fail
          refine (len_calls _ _ _ _ _ F6.out.cells.1).mono ?_
          rintro e w' ⟨rfl, rfl⟩
          go_wp2_with fail
          obtain ⟨v3, hv3⟩ : ∃ v3, v2.alloc (.cells #[.int .u8 7] 5) = v3 := ⟨_, rfl⟩
          rw [hv3]
          have F7 := Aside0.mk (F6.out.below (grow hv3))
          have B7 := Aside0.mk (B6.out.trans ((grow hv3).mono B6.out.size))
          clear hv3 F6 B6
          refine (append_crashed _ _ _ _ _ _ _ _ _ _ _ _ v3 F7.out).mono ?_
          rintro e w' ⟨rfl, rfl⟩
          go_wp2_with fail
          refine (flush_crashed _ _ _ _ _ _ _ _ _ v3 F7.out).mono ?_
          rintro e w' ⟨rfl, rfl⟩
          go_wp2_with fail
          refine (crash_crashed _ _ _ _ _ _ _ _ _ _ _ _ _ v3 F7.out).mono ?_
          rintro e w' ⟨rfl, rfl⟩
          go_wp2_with fail
          refine (cut_crashed _ _ _ _ _ _ _ _ _ _ v3 F7.out).mono ?_
          rintro e w' ⟨rfl, rfl⟩
          go_wp2_with fail
          refine (awake_calls v3).mono ?_
          rintro e wz ⟨rfl, bz⟩
          have BZ := Aside0.mk (below_step B7.out bz)
          clear bz
          go_wp2_with fail
          go_ret
          exact ⟨rfl, BZ.out⟩
        · refine (append_full _ _ _ _ _ _ _ _ _ _ 1 _ v1 (P5.out.below (grow hv1)) (by push_cast; omega)).mono ?_
          rintro e v2 ⟨rfl, hb⟩
          have F6 := Aside0.mk ((F5.out.below (grow hv1)).below hb)
          have B6 := Aside0.mk (B5.out.trans ((below_step (grow hv1) hb).mono B5.out.size))
          clear hb hv1 F5 B5 P5
          go_wp2_with fail
          refine (len_calls _ _ _ _ _ F6.out.cells.1).mono ?_
          rintro e w' ⟨rfl, rfl⟩
          go_wp2_with fail
          obtain ⟨v3, hv3⟩ : ∃ v3, v2.alloc (.cells #[.int .u8 7] 5) = v3 := ⟨_, rfl⟩
          rw [hv3]
          have F7 := Aside0.mk (F6.out.below (grow hv3))
          have B7 := Aside0.mk (B6.out.trans ((grow hv3).mono B6.out.size))
          clear hv3 F6 B6
          refine (append_crashed _ _ _ _ _ _ _ _ _ _ _ _ v3 F7.out).mono ?_
          rintro e w' ⟨rfl, rfl⟩
          go_wp2_with fail
          refine (flush_crashed _ _ _ _ _ _ _ _ _ v3 F7.out).mono ?_
          rintro e w' ⟨rfl, rfl⟩
          go_wp2_with fail
          refine (crash_crashed _ _ _ _ _ _ _ _ _ _ _ _ _ v3 F7.out).mono ?_
          rintro e w' ⟨rfl, rfl⟩
          go_wp2_with fail
          refine (cut_crashed _ _ _ _ _ _ _ _ _ _ v3 F7.out).mono ?_
          rintro e w' ⟨rfl, rfl⟩
          go_wp2_with fail
          refine (awake_calls v3).mono ?_
          rintro e wz ⟨rfl, bz⟩
          have BZ := Aside0.mk (below_step B7.out bz)
          clear bz
          go_wp2_with fail
          go_ret
          exact ⟨rfl, BZ.out⟩

theorem sure_calls' (A : Option Addr) (n c : Nat) (B : Option Addr) (m d : Nat) (left : Int) (W : World) (hs : Slices W A n) (hbo : Bools W B m) (_ : (Lit.int .i64 left).wf = true) :
    Calls Try.prog 5 #[.slice A n c, .slice B m d, .int .i64 left] W fun e W' => e = .returned (.bool true) ∧ Below W.heap.size W W' := by
  by_cases hl : 60 < n ∨ 60 < m
  · exact sure_long A n c B m d left W hl
  · exact sure_short A n c B m d left W hs hbo (by omega) (by omega)
end Go.Proofs.Ytfbpfogmnaahpaa
