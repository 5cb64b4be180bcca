/-
  The walk of the closure within Sum: a byte comes to the sum.
-/
import Derived.Test.YtodpgcakciaefaaProg
import Derived.Test.YtodpgcakciaefaaWWords
import Derived.Test.YtodpgcakciaefaaPlain
namespace Go.Proofs.Ytodpgcakciaefaa
open Go.RowKit Go.Proofs.YtodpgcakciaefaaW.PrintWords

theorem grown_set {a w : World} {g : Nat} (h : a.grownBy w (some g)) {p : Addr} (hp : p.block = g) (u : Value) : a.grownBy (w.setCell p u) (some g) :=
  ⟨h.os, h.tape, h.output, by simpa [World.setCell] using h.size, fun i hi hne => (Below.heap_setCell w p u i (by rintro rfl; exact hne (by rw [hp]))).trans (h.block i hi hne)⟩

theorem one_bits (x : Nat) (h : x < 4294967296) : bits BinOp.xor IntKind.u32 ((x : Int) / 2) (bits BinOp.and IntKind.u32 (x : Int) 1 * 3988292384 % 4294967296) = ((Pl.one x : Nat) : Int) := by
  have e1 : bits BinOp.and IntKind.u32 (x : Int) 1 = ((x % 2 : Nat) : Int) := by
    have := u32_and_nat x 1 h (by omega)
    rw [show ((1 : Nat) : Int) = 1 from rfl] at this
    rw [this, Nat.and_one_is_mod]
  rw [e1]
  have e2 : ((x % 2 : Nat) : Int) * 3988292384 % 4294967296 = ((x % 2 * 3988292384 : Nat) : Int) := by omega
  have e3 : (x : Int) / 2 = ((x / 2 : Nat) : Int) := by omega
  rw [e2, e3, u32_xor_nat _ _ (by omega) (by omega)]
  rfl

set_option maxHeartbeats 400000 in
theorem on_calls (g x c : Nat) (hx : x < 4294967296) (hc : c < 256) (w : World) (hb : w.heap[g]? = some (.cells #[.int .u32 x] 25 (0, 0))) :
    Calls Try.prog 16 #[.int .u8 c, .pointer (some ⟨g, 0, none⟩)] w fun e w' =>
      e = .returned (.tuple #[]) ∧ w'.heap[g]? = some (.cells #[.int .u32 (Pl.byte x c : Nat)] 25 (0, 0)) ∧ w.grownBy w' (some g) := by
  have hc0 := cell_of_one hb
  have hf0 := free_of_one hb
  have hxc : x ^^^ c < 4294967296 := Nat.xor_lt_two_pow (n := 32) hx (by omega)
  go_enter Try.func16, Try.ntmps16
  go_wp2
  go_loopw [7] (fun v wr => ∃ k : Nat, k ≤ 8 ∧ v = .int .i64 k ∧ wr.heap[g]? = some (.cells #[.int .u32 (Pl.ones k (x ^^^ c) : Nat)] 25 (0, 0)) ∧ w.grownBy wr (some g))
    (fun v _ => 8 - (intOf v).toNat)
  case atStart =>
    refine ⟨0, by omega, rfl, ?_, grown_set (World.grownBy.refl w _) rfl _⟩
    rw [u32_xor_nat _ _ hx (by omega)]
    exact one_setCell hb
  case round =>
    obtain ⟨k, hk, rfl, hb1, hg1⟩ := hrel
    have hc1 := cell_of_one hb1
    have hf1 := free_of_one hb1
    by_cases hlt : k < 8
    · go_wp2
      refine ⟨⟨k + 1, by omega, by go_num, ?_, grown_set hg1 rfl _⟩, by simp [intOf]; omega⟩
      rw [one_bits _ (Pl.ones_lt hxc k)]
      exact one_setCell hb1
    · go_wp2
      obtain rfl : k = 8 := by omega
      go_end0
      exact ⟨rfl, hb1, hg1⟩
end Go.Proofs.Ytodpgcakciaefaa
