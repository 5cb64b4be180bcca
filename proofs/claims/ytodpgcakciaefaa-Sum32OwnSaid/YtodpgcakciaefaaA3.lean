/-
  The walks of tail, bytes.Equal, bytes.Clone and Same.
-/
import Derived.Test.YtodpgcakciaefaaA2
import Derived.Lib.SliceRun
namespace Go.Proofs.Ytodpgcakciaefaa
open Go.RowKit Go.Proofs.YtodpgcakciaefaaW.PrintWords

theorem info5 : (Try.prog.info? 5).map (fun i => (i.zero, i.size, i.bytes)) = some (some (.int .u8 0), 1, 1) := by kernel_rfl

/-- Bytes of the call's own. -/
structure Own (w : World) (base : Nat) (A : Option Addr) (c : Nat) (l : List Int) : Prop where
  row : w.ownsRow base 5 1 (.slice A l.length c) l.length (nums .u8 l)
  byte : ∀ x ∈ l, 0 ≤ x ∧ x < 256
theorem Own.bs {w : World} {base : Nat} {A : Option Addr} {c : Nat} {l : List Int} (h : Own w base A c l) : Bs w A c l := ⟨own_reads' h.row, own_cap h.row, h.byte⟩
theorem Own.below {w w1 : World} {base : Nat} {A : Option Addr} {c : Nat} {l : List Int} (h : Own w base A c l) (hb : Below w.heap.size w w1) : Own w1 base A c l := ⟨pw_own_below h.row hb, h.byte⟩

theorem own_block (W : World) (l : List Int) (hl : ∀ x ∈ l, 0 ≤ x ∧ x < 256) (cs : Array Value) (h : cs = (nums .u8 l).toArray) (hm : l.length ≤ 9223372036854775807) :
    Own (W.alloc (.cells cs 5)) W.heap.size (some ⟨W.heap.size, 0, none⟩) l.length l := by
  subst h
  exact ⟨own_lit W W.heap.size 5 .u8 l (Nat.le_refl _) hm, hl⟩

/-- The four bytes of a sum. -/
def tl (n : Nat) : List Int := [((n % 256 : Nat) : Int), ((n / 256 % 256 : Nat) : Int), ((n / 65536 % 256 : Nat) : Int), ((n / 16777216 % 256 : Nat) : Int)]
theorem tl_byte (n : Nat) : ∀ x ∈ tl n, 0 ≤ x ∧ x < 256 := by
  intro x hx
  simp only [tl, List.mem_cons, List.not_mem_nil, or_false] at hx
  omega

set_option maxHeartbeats 400000 in
theorem tail_calls (n : Nat) (hn : n < 4294967296) (w : World) :
    Calls Try.prog 18 #[.int .u32 n] w fun e w' => ∃ A c, e = .returned (.slice A (tl n).length c) ∧ Own w' w.heap.size A c (tl n) ∧ Below w.heap.size w w' := by
  have hmk : ∀ W : World, (Instr.makeSlice 22 (.int .i64 4) (.int .i64 4)).run Try.prog W = .ok (.slice (some ⟨W.heap.size, 0, none⟩) 4 4) (W.alloc (.cells #[.int .u8 0, .int .u8 0, .int .u8 0, .int .u8 0] 5)) :=
    fun W => (print_make (P := Try.prog) 22 5 .u8 1 Try.underlying22 info5 (by decide) 4 (by decide) W).trans (by kernel_rfl)
  go_enter Try.func18, Try.ntmps18
  go_wp2
  refine wp_loop_rounds 5 ?_
  rw [rounds_succ]
  go_wp2
  rw [rounds_succ]
  go_wp2
  rw [rounds_succ]
  go_wp2
  rw [rounds_succ]
  go_wp2
  rw [rounds_succ]
  go_wp2
  go_ret
  refine ⟨_, _, rfl, ?_, (Below.refl _ _).alloc (Nat.le_refl _) _⟩
  have e : n / 16777216 = n / 16777216 % 256 := by omega
  exact own_block w (tl n) (tl_byte n) _ (by simp [tl, nums]; omega) (by simp [tl])

theorem toNat_inj {a b : Int} (ha : 0 ≤ a ∧ a < 256) (hb : 0 ≤ b ∧ b < 256) (h : UInt8.ofNat a.toNat = UInt8.ofNat b.toNat) : a = b := by
  have := congrArg UInt8.toNat h
  simp only [UInt8.toNat_ofNat'] at this
  omega
theorem str_inj : ∀ {l m : List Int}, (∀ x ∈ l, 0 ≤ x ∧ x < 256) → (∀ x ∈ m, 0 ≤ x ∧ x < 256) → (l.map fun n => UInt8.ofNat n.toNat) = (m.map fun n => UInt8.ofNat n.toNat) → l = m
  | [], [], _, _, _ => rfl
  | [], b :: m, _, _, h => by simp at h
  | a :: l, [], _, _, h => by simp at h
  | a :: l, b :: m, hl, hm, h => by
    simp only [List.map_cons, List.cons.injEq] at h
    rw [toNat_inj (hl a (by simp)) (hm b (by simp)) h.1, str_inj (fun x hx => hl x (by simp [hx])) (fun x hx => hm x (by simp [hx])) h.2]

set_option maxHeartbeats 400000 in
theorem equal_calls (A : Option Addr) (c : Nat) (l : List Int) (B : Option Addr) (d : Nat) (m : List Int) (w : World) (h : Bs w A c l) (h' : Bs w B d m) :
    Calls Try.prog 17 #[.slice A l.length c, .slice B m.length d] w fun e w' => e = .returned (.bool (decide (l = m))) ∧ w = w' := by
  have h1 := string_of_reads (c := c) Try.underlying22 Try.underlying5 Try.underlying9 h.reads
  have h2 := string_of_reads (c := d) Try.underlying22 Try.underlying5 Try.underlying9 h'.reads
  have H := Aside0.mk h
  have H' := Aside0.mk h'
  clear h h'
  go_enter Try.func17, Try.ntmps17
  go_wp2
  go_ret
  refine ⟨?_, rfl⟩
  show Ending.returned (.bool ((strOfNums l).toList == (strOfNums m).toList)) = _
  have e : ((strOfNums l).toList == (strOfNums m).toList) = decide (l = m) := by
    rw [Bool.eq_iff_iff]
    simp only [beq_iff_eq, decide_eq_true_eq]
    constructor
    · intro hh
      have := congrArg (fun a : List UInt8 => a) hh
      exact str_inj H.out.byte H'.out.byte (by simpa [strOfNums, ByteArray.toList_eq] using hh)
    · rintro rfl; rfl
  rw [e]

/-- nil, or not, a clone is new memory. -/
theorem clone_calls (A : Option Addr) (c : Nat) (l : List Int) (w : World) (h : Bs w A c l) (hl : l.length ≤ 140737488355328) :
    Calls Try.prog 19 #[.slice A l.length c] w fun e w' => ∃ A' c', e = .returned (.slice A' l.length c') ∧ Own w' w.heap.size A' c' l ∧ Below w.heap.size w w' := by
  have q22 : ∀ (w : World) (a : Option Addr) (n c n' c' : Nat), (binOp .eql 22 (.slice a n c) (.slice none n' c')).run Try.prog w = .ok (.bool a.isNone) w := fun w a n c n' c' => Lib.run_eql_slice_nil w _ _ a n c n' c' Try.underlying22
  have H := Aside0.mk h
  clear h
  rcases A with _ | ad
  · have hl : l = [] := by
      rcases l with _ | ⟨a, l⟩
      · rfl
      · obtain ⟨ad, h, _⟩ := H.out.at_ 0 (by simp)
        cases h
    subst hl
    go_enter Try.func19, Try.ntmps19
    go_wp2
    go_ret
    exact ⟨none, 0, rfl, ⟨own_nil _ _ _ _, by simp⟩, Below.refl _ _⟩
  · go_enter Try.func19, Try.ntmps19
    go_wp2_with (at_builtin; refine print_append_row (w0 := w) w.heap.size rfl _ _ 22 5 .u8 1 rfl Try.underlying22 info5 (by decide) _ [] l (some ad) l.length c rfl rfl ?c1 ?c2 ?c3 ?c4 ?c5 ?_)
    case c1 => exact own_lit w w.heap.size 5 .u8 [] (Nat.le_refl _) (by decide)
    case c2 => exact H.out.reads.allocS _
    case c3 => exact (Below.refl _ _).alloc (Nat.le_refl _) _
    case c4 => simp
    case c5 => simp; omega
    intro v1 w1 hown hB _ _
    obtain ⟨A', c', rfl⟩ := own_slice hown
    go_wp2
    go_ret
    exact ⟨A', c', rfl, ⟨hown, H.out.byte⟩, hB⟩

theorem take_eq_succ {l m : List Int} {k : Nat} (h : l.take k = m.take k) (h1 : k < l.length) (h2 : k < m.length) : l.take (k + 1) = m.take (k + 1) ↔ rd l k = rd m k := by
  rw [take_rd l k h1, take_rd m k h2, h]
  simp

set_option maxHeartbeats 1000000 in
theorem same_calls (A : Option Addr) (c : Nat) (l : List Int) (B : Option Addr) (d : Nat) (m : List Int) (w : World) (h : Bs w A c l) (h' : Bs w B d m) :
    Calls Try.prog 13 #[.slice A l.length c, .slice B m.length d] w fun e w' => e = .returned (.bool (decide (l = m))) ∧ Drawn0 w w' := by
  have hlen : (l.length : Int) ≤ 9223372036854775807 := by have := h.reads.2.1; omega
  have H := Aside0.mk h
  have H' := Aside0.mk h'
  clear h h'
  by_cases hll : l.length = m.length
  · have t1 : ((l.length : Int) != (m.length : Int)) = false := by simp [hll]
    have HL := Aside0.mk hll
    clear hll
    go_enter Try.func13, Try.ntmps13
    go_wp2
    go_loopw [5] (fun v wr => ∃ k : Nat, k ≤ l.length ∧ v = .int .i64 k ∧ Aside0 (l.take k = m.take k) ∧ Drawn0 w wr) (fun v _ => l.length - (intOf v).toNat)
    case atStart => exact ⟨0, by omega, rfl, ⟨by simp⟩, Drawn0.refl _⟩
    case round =>
      clear t1
      obtain ⟨k, hk, rfl, HK, ⟨q, rfl⟩⟩ := hrel
      by_cases hlt : k < l.length
      · have hlt' : k < m.length := by have := HL.out; omega
        obtain ⟨ad, rfl, hc, _, _⟩ := H.out.at_ k hlt
        obtain ⟨ad', rfl, hc', _, _⟩ := H'.out.at_ k hlt'
        have i0 : (0 : Int) ≤ (k : Int) := by omega
        have i1 : (k : Int) < (l.length : Int) := by omega
        have i2 : (k : Int) < (m.length : Int) := by omega
        by_cases he : rd l k = rd m k
        · have hb : (rd l k != rd m k) = false := by simp [he]
          have HK1 := Aside0.mk ((take_eq_succ HK.out hlt hlt').2 he)
          clear he HK
          go_wp2
          go_quiet (fail)
          go_wp2
          go_roundw
          case rel => exact ⟨k + 1, by omega, by go_num, HK1, ⟨⟨_, rfl⟩⟩⟩
          case measure => simp [intOf]; omega
        · have hb : (rd l k != rd m k) = true := by simp [he]
          have HK1 := Aside0.mk (fun e => he ((take_eq_succ HK.out hlt hlt').1 e))
          clear he HK
          go_wp2
          go_quiet (fail)
          go_wp2
          go_ret
          refine ⟨?_, Drawn0.step ⟨⟨q, rfl⟩⟩ _⟩
          have : l ≠ m := fun e => HK1.out (by rw [e])
          simp [this]
      · go_wp2
        go_ret
        refine ⟨?_, ⟨⟨q, rfl⟩⟩⟩
        have : l = m := by
          have := HK.out
          rwa [List.take_of_length_le (by omega), List.take_of_length_le (by have := HL.out; omega)] at this
        simp [this]
  · have t1 : ((l.length : Int) != (m.length : Int)) = true := by simp; omega
    have HL := Aside0.mk hll
    clear hll
    go_enter Try.func13, Try.ntmps13
    go_wp2
    go_ret
    refine ⟨?_, Drawn0.refl _⟩
    have : l ≠ m := fun e => HL.out (by rw [e])
    simp [this]

end Go.Proofs.Ytodpgcakciaefaa
