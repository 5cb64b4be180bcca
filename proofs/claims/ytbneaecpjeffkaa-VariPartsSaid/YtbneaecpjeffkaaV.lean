/-
  Words for slices of numbers that are read, or are the call's own; Same and numbers.
-/
import Derived.Test.YtbneaecpjeffkaaProg
import Derived.Test.YtbneaecpjeffkaaWWords
import Derived.Lib.SliceRun
import Derived.Lib.SlBytesConst
import Derived.Deep.AppendLies
import Derived.Deep.RegionHeld3
namespace Go.Proofs.Ytbneaecpjeffkaa
open Go.RowKit Go.Proofs.YtbneaecpjeffkaaW.PrintWords

/-- Numbers that are read: a slice value's cells, and their range. -/
structure Ks (k : IntKind) (M : Int) (w : World) (A : Option Addr) (c : Nat) (l : List Int) : Prop where
  reads : ReadsInt w k A l.length l
  cap : l.length ≤ c
  rng : ∀ x ∈ l, 0 ≤ x ∧ x < M
/-- 2^64, behind a name. -/
def B64 : Int := 18446744073709551616
abbrev Bs := Ks .u8 256
abbrev Us := Ks .u64 B64

section
variable {k : IntKind} {M : Int}
theorem Ks.below {w w1 : World} {A : Option Addr} {c : Nat} {l : List Int} (h : Ks k M w A c l) (hb : Below w.heap.size w w1) : Ks k M w1 A c l := ⟨h.reads.below hb, h.cap, h.rng⟩
theorem Ks.drewN {w : World} {A : Option Addr} {c : Nat} {l : List Int} (h : Ks k M w A c l) (n : Nat) : Ks k M (w.drewN n) A c l := ⟨h.reads, h.cap, h.rng⟩
theorem Ks.drew {w : World} {A : Option Addr} {c : Nat} {l : List Int} (h : Ks k M w A c l) : Ks k M w.drew A c l := ⟨h.reads, h.cap, h.rng⟩
theorem Ks.nil (w : World) : Ks k M w none 0 [] := ⟨ReadsInt.nil _ _, by simp, by simp⟩
theorem rd_mem {l : List Int} {i : Int} (h0 : 0 ≤ i) (h1 : i < l.length) : rd l i ∈ l := by
  unfold rd
  rw [List.getD_eq_getElem?_getD, List.getElem?_eq_getElem (show i.toNat < l.length by omega)]
  exact List.getElem_mem _
theorem take_rd (l : List Int) (j : Nat) (h : j < l.length) : l.take (j + 1) = l.take j ++ [rd l j] := by
  rw [List.take_add_one, List.getElem?_eq_getElem h]
  simp [rd, List.getD_eq_getElem?_getD, List.getElem?_eq_getElem h]
theorem Ks.at_ {w : World} {A : Option Addr} {c : Nat} {l : List Int} (h : Ks k M w A c l) (j : Nat) (hj : j < l.length) :
    ∃ ad, A = some ad ∧ w.cell? (ad.add j) = some (.int k (rd l j)) ∧ 0 ≤ rd l j ∧ rd l j < M := by
  obtain ⟨ad, e, hc⟩ := h.reads.at_ (j : Int) (by omega) (by omega)
  rw [Int.toNat_natCast] at hc
  exact ⟨ad, e, hc, h.rng _ (rd_mem (by omega) (by omega))⟩
theorem Ks.cells {w : World} {ad : Addr} {c : Nat} {l : List Int} (h : Ks k M w (some ad) c l) : ∀ j u, (nums k l)[j]? = some u → w.cell? (ad.add j) = some u := by
  intro j u hu
  have hj : j < l.length := by
    rcases Nat.lt_or_ge j l.length with h | h
    · exact h
    · simp [nums, List.getElem?_eq_none h] at hu
  obtain ⟨ad', e, hc, _⟩ := h.at_ j hj
  injection e with e
  subst e
  rw [hc, ← hu]
  simp [nums, rd, List.getD_eq_getElem?_getD, List.getElem?_eq_getElem hj]
end
theorem ret_int {k : IntKind} {a b : Int} (h : a = b) : Ending.returned (.int k a) = .returned (.int k b) := by rw [h]
theorem int_eq {k : IntKind} {a b : Int} (h : a = b) : Value.int k a = .int k b := by rw [h]
theorem nodrew {W w1 : World} (h : Below W.drew.heap.size W.drew w1) : Below W.heap.size W w1 := below_step (Below.refl _ _).drew h
theorem cb {W w1 : World} (h : Below W.heap.size W w1) {p : Addr} {u : Value} (hc : W.cell? p = some u) : w1.cell? p = some u := pw_cell_below h hc

theorem info5 : (Try.prog.info? 5).map (fun i => (i.zero, i.size, i.bytes)) = some (some (.int .u8 0), 1, 1) := by kernel_rfl
theorem info24 : (Try.prog.info? 24).map (fun i => (i.zero, i.size, i.bytes)) = some (some (.int .u64 0), 1, 8) := by kernel_rfl

/-- Numbers of the call's own (t: the element's type). -/
structure Kw (k : IntKind) (t : Nat) (M : Int) (w : World) (base : Nat) (A : Option Addr) (c : Nat) (l : List Int) : Prop where
  row : w.ownsRow base t 1 (.slice A l.length c) l.length (nums k l)
  rng : ∀ x ∈ l, 0 ≤ x ∧ x < M
abbrev Own := Kw .u8 5 256
abbrev OwnU := Kw .u64 24 B64
section
variable {k : IntKind} {t : Nat} {M : Int} {w w1 : World} {base : Nat} {A : Option Addr} {c : Nat} {l : List Int}
theorem Kw.ks (h : Kw k t M w base A c l) : Ks k M w A c l := ⟨own_reads' h.row, own_cap h.row, h.rng⟩
theorem Kw.below (h : Kw k t M w base A c l) (hb : Below w.heap.size w w1) : Kw k t M w1 base A c l := ⟨pw_own_below h.row hb, h.rng⟩
theorem Kw.drewN (h : Kw k t M w base A c l) (n : Nat) : Kw k t M (w.drewN n) base A c l := ⟨pw_own_drewN h.row n, h.rng⟩
theorem Kw.less {b2 : Nat} (h : Kw k t M w base A c l) (hb : b2 ≤ base) : Kw k t M w b2 A c l := ⟨own_less h.row hb, h.rng⟩
theorem Kw.nil (w : World) (base : Nat) : Kw k t M w base none 0 [] := ⟨own_nil _ _ _ _, by simp⟩
end
theorem own_block (k : IntKind) (t : Nat) (M : Int) (W : World) (l : List Int) (hl : ∀ x ∈ l, 0 ≤ x ∧ x < M) (cs : Array Value) (h : cs = (nums k l).toArray) (hm : l.length ≤ 9223372036854775807) :
    Kw k t M (W.alloc (.cells cs t)) W.heap.size (some ⟨W.heap.size, 0, none⟩) l.length l := by
  subst h
  exact ⟨own_lit W W.heap.size t k l (Nat.le_refl _) hm, hl⟩
/-- A guarded operation whose guard wants it. -/
theorem unguard {P : Program} {ops : Array Oper} {rest : List Oper} {o : Oper} {a : Act} {Q : Exit → Act → World → Prop} {W : World}
    (hw : Region.wanted o (yielded ops a.tmps) = true) (h : wpList P ops Q ({ o with guard := none } :: rest) a W) : wpList P ops Q (o :: rest) a W := by
  have h1 : Region.wanted { o with guard := none } (yielded ops a.tmps) = true := rfl
  unfold wpList at h ⊢
  rw [if_pos h1] at h
  rw [if_pos hw]
  exact h
theorem own_form {w : World} {base n c t : Nat} {A : Option Addr} {xs : List Value} (h : w.ownsRow base t 1 (.slice A n c) n xs) (hn : 0 < n) : ∃ g, A = some ⟨g, 0, none⟩ ∧ base ≤ g := by
  obtain ⟨g, cap, he, hb, _⟩ := h.form hn
  injection he with h1 _ _
  exact ⟨g, h1, hb⟩

/-- 'l[:n]' and 'l[n:]' of bytes, the length a letter. -/
theorem take_cut_n (A : Option Addr) (c n m : Nat) (l : List Int) (hm : l.length = m) (hn : n ≤ m) (hc : l.length ≤ c) :
    (∀ W : World, (Instr.slice 22 (.slice A m c) none (some (.int .i64 (n : Int))) none).run Try.prog W = .ok (.slice A n c) W) ∧ (∀ w : World, Bs w A c l → Bs w A c (l.take n)) := by
  subst hm
  obtain ⟨i5, hi, hii⟩ := Option.map_eq_some_iff.1 info5
  have hsz : i5.size = 1 := by simp only [Prod.mk.injEq] at hii; exact hii.2.1
  obtain ⟨cut1, r1, q1⟩ := print_take_int (k := .u8) 22 5 Try.underlying22 hi hsz A c l (n : Int) (by omega) (by omega) hc
  rw [Int.toNat_natCast] at cut1 r1 q1
  refine ⟨fun W => ?_, fun w h => ⟨r1 w h.reads, q1, fun x hx => h.rng x (List.mem_of_mem_take hx)⟩⟩
  rw [cut1 W, List.length_take, show min n l.length = n from by omega]
theorem drop_cut_n (A : Option Addr) (c n m : Nat) (l : List Int) (hm : l.length = m) (hn : n ≤ m) (hc : l.length ≤ c) : ∃ A2 : Option Addr,
    (∀ W : World, (Instr.slice 22 (.slice A m c) (some (.int .i64 (n : Int))) none none).run Try.prog W = .ok (.slice A2 (m - n) (c - n)) W) ∧ (∀ w : World, Bs w A c l → Bs w A2 (c - n) (l.drop n)) := by
  subst hm
  obtain ⟨i5, hi, hii⟩ := Option.map_eq_some_iff.1 info5
  have hsz : i5.size = 1 := by simp only [Prod.mk.injEq] at hii; exact hii.2.1
  obtain ⟨A2, cut2, r2, q2⟩ := print_cut_int (k := .u8) 22 5 Try.underlying22 hi hsz A c l (n : Int) (by omega) (by omega) hc
  rw [Int.toNat_natCast] at cut2 r2 q2
  refine ⟨A2, fun W => ?_, fun w h => ⟨r2 w h.reads, q2, fun x hx => h.rng x (List.mem_of_mem_drop hx)⟩⟩
  rw [cut2 W, List.length_drop]

theorem take_eq_succ {l m : List Int} {k : Nat} (h : l.take k = m.take k) (h1 : k < l.length) (h2 : k < m.length) : l.take (k + 1) = m.take (k + 1) ↔ rd l k = rd m k := by
  rw [take_rd l k h1, take_rd m k h2, h]
  simp

set_option maxHeartbeats 1000000 in
theorem same_calls (A : Option Addr) (c : Nat) (l : List Int) (B : Option Addr) (d : Nat) (m : List Int) (w : World) (h : Bs w A c l) (h' : Bs w B d m) :
    Calls Try.prog 16 #[.slice A l.length c, .slice B m.length d] w fun e w' => e = .returned (.bool (decide (l = m))) ∧ Drawn0 w w' := by
  have hlen : (l.length : Int) ≤ 9223372036854775807 := by have := h.reads.2.1; omega
  have H := Aside0.mk h
  have H' := Aside0.mk h'
  clear h h'
  by_cases hll : l.length = m.length
  · have t1 : ((l.length : Int) != (m.length : Int)) = false := by simp [hll]
    have HL := Aside0.mk hll
    clear hll
    go_enter Try.func16, Try.ntmps16
    go_wp2
    go_loopw [5] (fun v wr => ∃ k : Nat, k ≤ l.length ∧ v = .int .i64 k ∧ Aside0 (l.take k = m.take k) ∧ Drawn0 w wr) (fun v _ => l.length - (intOf v).toNat)
    case atStart => exact ⟨0, by omega, rfl, ⟨by simp⟩, Drawn0.refl _⟩
    case round =>
      clear t1
      obtain ⟨k, hk, rfl, HK, ⟨q, rfl⟩⟩ := hrel
      by_cases hlt : k < l.length
      · have hlt' : k < m.length := by have := HL.out; omega
        obtain ⟨ad, rfl, hc, _, _⟩ := H.out.at_ k hlt
        obtain ⟨ad', rfl, hc', _, _⟩ := H'.out.at_ k hlt'
        have i0 : (0 : Int) ≤ (k : Int) := by omega
        have i1 : (k : Int) < (l.length : Int) := by omega
        have i2 : (k : Int) < (m.length : Int) := by omega
        by_cases he : rd l k = rd m k
        · have hb : (rd l k != rd m k) = false := by simp [he]
          have HK1 := Aside0.mk ((take_eq_succ HK.out hlt hlt').2 he)
          clear he HK
          go_wp2
          go_quiet (fail)
          go_wp2
          go_roundw
          case rel => exact ⟨k + 1, by omega, by go_num, HK1, ⟨⟨_, rfl⟩⟩⟩
          case measure => simp [intOf]; omega
        · have hb : (rd l k != rd m k) = true := by simp [he]
          have HK1 := Aside0.mk (fun e => he ((take_eq_succ HK.out hlt hlt').1 e))
          clear he HK
          go_wp2
          go_quiet (fail)
          go_wp2
          go_ret
          refine ⟨?_, Drawn0.step ⟨⟨q, rfl⟩⟩ _⟩
          have : l ≠ m := fun e => HK1.out (by rw [e])
          simp [this]
      · go_wp2
        go_ret
        refine ⟨?_, ⟨⟨q, rfl⟩⟩⟩
        have : l = m := by
          have := HK.out
          rwa [List.take_of_length_le (by omega), List.take_of_length_le (by have := HL.out; omega)] at this
        simp [this]
  · have t1 : ((l.length : Int) != (m.length : Int)) = true := by simp; omega
    have HL := Aside0.mk hll
    clear hll
    go_enter Try.func16, Try.ntmps16
    go_wp2
    go_ret
    refine ⟨?_, Drawn0.refl _⟩
    have : l ≠ m := fun e => HL.out (by rw [e])
    simp [this]
theorem same_n (A : Option Addr) (n c : Nat) (l : List Int) (hn : l.length = n) (B : Option Addr) (k d : Nat) (m : List Int) (hk : m.length = k) (w : World) (h : Bs w A c l) (h' : Bs w B d m) :
    Calls Try.prog 16 #[.slice A n c, .slice B k d] w fun e w' => e = .returned (.bool (decide (l = m))) ∧ Drawn0 w w' := by subst hn; subst hk; exact same_calls A c l B d m w h h'

set_option maxHeartbeats 1000000 in
theorem nums_calls (A : Option Addr) (c : Nat) (l : List Int) (B : Option Addr) (d : Nat) (m : List Int) (w : World) (h : Us w A c l) (h' : Us w B d m) :
    Calls Try.prog 14 #[.slice A l.length c, .slice B m.length d] w fun e w' => e = .returned (.bool (decide (l = m))) ∧ Drawn0 w w' := by
  have hlen : (l.length : Int) ≤ 9223372036854775807 := by have := h.reads.2.1; omega
  have H := Aside0.mk h
  have H' := Aside0.mk h'
  clear h h'
  by_cases hll : l.length = m.length
  · have t1 : ((l.length : Int) != (m.length : Int)) = false := by simp [hll]
    have HL := Aside0.mk hll
    clear hll
    go_enter Try.func14, Try.ntmps14
    go_wp2
    go_loopw [5] (fun v wr => ∃ k : Nat, k ≤ l.length ∧ v = .int .i64 k ∧ Aside0 (l.take k = m.take k) ∧ Drawn0 w wr) (fun v _ => l.length - (intOf v).toNat)
    case atStart => exact ⟨0, by omega, rfl, ⟨by simp⟩, Drawn0.refl _⟩
    case round =>
      clear t1
      obtain ⟨k, hk, rfl, HK, ⟨q, rfl⟩⟩ := hrel
      by_cases hlt : k < l.length
      · have hlt' : k < m.length := by have := HL.out; omega
        obtain ⟨ad, rfl, hc, _, _⟩ := H.out.at_ k hlt
        obtain ⟨ad', rfl, hc', _, _⟩ := H'.out.at_ k hlt'
        have i0 : (0 : Int) ≤ (k : Int) := by omega
        have i1 : (k : Int) < (l.length : Int) := by omega
        have i2 : (k : Int) < (m.length : Int) := by omega
        by_cases he : rd l k = rd m k
        · have hb : (rd l k != rd m k) = false := by simp [he]
          have HK1 := Aside0.mk ((take_eq_succ HK.out hlt hlt').2 he)
          clear he HK
          go_wp2
          go_quiet (fail)
          go_wp2
          go_roundw
          case rel => exact ⟨k + 1, by omega, by go_num, HK1, ⟨⟨_, rfl⟩⟩⟩
          case measure => simp [intOf]; omega
        · have hb : (rd l k != rd m k) = true := by simp [he]
          have HK1 := Aside0.mk (fun e => he ((take_eq_succ HK.out hlt hlt').1 e))
          clear he HK
          go_wp2
          go_quiet (fail)
          go_wp2
          go_ret
          refine ⟨?_, Drawn0.step ⟨⟨q, rfl⟩⟩ _⟩
          have : l ≠ m := fun e => HK1.out (by rw [e])
          simp [this]
      · go_wp2
        go_ret
        refine ⟨?_, ⟨⟨q, rfl⟩⟩⟩
        have : l = m := by
          have := HK.out
          rwa [List.take_of_length_le (by omega), List.take_of_length_le (by have := HL.out; omega)] at this
        simp [this]
  · have t1 : ((l.length : Int) != (m.length : Int)) = true := by simp; omega
    have HL := Aside0.mk hll
    clear hll
    go_enter Try.func14, Try.ntmps14
    go_wp2
    go_ret
    refine ⟨?_, Drawn0.refl _⟩
    have : l ≠ m := fun e => HL.out (by rw [e])
    simp [this]
theorem nums_n (A : Option Addr) (n c : Nat) (l : List Int) (hn : l.length = n) (B : Option Addr) (k d : Nat) (m : List Int) (hk : m.length = k) (w : World) (h : Us w A c l) (h' : Us w B d m) :
    Calls Try.prog 14 #[.slice A n c, .slice B k d] w fun e w' => e = .returned (.bool (decide (l = m))) ∧ Drawn0 w w' := by subst hn; subst hk; exact nums_calls A c l B d m w h h'
end Go.Proofs.Ytbneaecpjeffkaa
