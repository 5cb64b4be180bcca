/-
  The walk of Len: as many as Put's bytes.
-/
import Derived.Test.YtbneaecpjeffkaaB3
namespace Go.Proofs.Ytbneaecpjeffkaa
open Go.RowKit Go.Proofs.YtbneaecpjeffkaaW.PrintWords

theorem put_len : ∀ (f n : Nat), n < f → n < 18446744073709551616 → (Pl.put n).length = if (Lib.bitLen n + 6) / 7 < 1 then 1 else (Lib.bitLen n + 6) / 7
  | 0, _, h, _ => by omega
  | f + 1, n, h, h64 => by
    by_cases c : n < 128
    · have := Lib.bitLen_le n 7 (by omega) (by simpa using c)
      rw [put_small c]
      simp only [List.length_singleton]
      split <;> omega
    · have e := Lib.bitLen_shift 7 n (by omega) h64
      have ih := put_len f (n / 128) (by omega) (by omega)
      have p := Lib.bitLen_half (n / 128) (by omega) (by omega)
      rw [put_big c, List.length_cons, ih, e]
      simp only [Nat.reducePow]
      generalize Lib.bitLen (n / 128) = q at *
      split <;> split <;> omega

set_option maxRecDepth 100000 in
set_option maxHeartbeats 1000000 in
theorem len_calls (n : Nat) (hn : n < U64) (w : World) :
    Calls Try.prog 18 #[.int .u64 n] w fun e w' => e = .returned (.int .i64 ((Pl.put n).length : Nat)) ∧ w = w' := by
  have HN := Aside0.mk hn
  have HL := Aside0.mk (put_len (n + 1) n (by omega) (by unfold U64 at hn; exact hn))
  have hb : Lib.bitLen n ≤ 64 := Lib.bitLen_le n 64 (by omega) (by unfold U64 at hn; simpa using hn)
  clear hn
  go_enter Try.func18, Try.ntmps18
  go_wp2_with fail
  refine (len64_calls n HN.out w).mono ?_
  rintro e w' ⟨rfl, rfl⟩
  generalize Lib.bitLen n = q at *
  go_wp2
  all_goals
    go_ret
    refine ⟨ret_int ?_, rfl⟩
    rw [HL.out]
    split <;> omega
end Go.Proofs.Ytbneaecpjeffkaa
