/-
  The walks of Len64 and Len.
-/
import Derived.Lib.Tables
import Derived.Lib.BitFns
import Derived.Test.YtbneaecpjeffkaaB1
namespace Go.Proofs.Ytbneaecpjeffkaa
open Go.RowKit Go.Proofs.YtbneaecpjeffkaaW.PrintWords

theorem tab_get (k : Nat) (h : k < Lib.len8tab.size) : (((Lib.len8tab[k]'h).toNat : Nat) : Int) = (Lib.bitLen k : Nat) := by
  have h2 : k < 256 := by rw [Lib.len8tab_size] at h; exact h
  have := Lib.len8_of (k : Int) (by omega) (by omega)
  rw [Int.toNat_natCast] at this
  rw [← this]
  unfold Lib.len8
  rw [Int.toNat_natCast, getElem?_pos Lib.len8tab k h]
  rfl
theorem int_nat {k : IntKind} {a b : Nat} (h : a = b) : Value.int k (a : Int) = .int k (b : Int) := by rw [h]

set_option maxRecDepth 1000000 in
set_option maxHeartbeats 4000000 in
theorem len64_calls (n : Nat) (hn : n < U64) (w : World) :
    Calls Try.prog 20 #[.int .u64 n] w fun e w' => e = .returned (.int .i64 (Lib.bitLen n : Nat)) ∧ w = w' := by
  have HN := Aside0.mk hn
  clear hn
  go_enter Try.func20, Try.ntmps20
  conv in (Value.string _) => change Value.string Lib.len8tab
  have hsz := Lib.len8tab_size
  have HG := Aside0.mk tab_get
  generalize Lib.len8tab = T at *
  by_cases c1 : n < 4294967296
  · have t1 : ¬ (4294967296 : Int) ≤ (n : Int) := by omega
    by_cases c2 : n < 65536
    · have t2 : ¬ (65536 : Int) ≤ (n : Int) := by omega
      by_cases c3 : n < 256
      · have t3 : ¬ (256 : Int) ≤ (n : Int) := by omega
        have hx : n < 256 := by
          have hn := HN.out
          unfold U64 at hn
          omega
        have hb : Lib.bitLen (n) ≤ 8 := Lib.bitLen_le8 ⟨n, hx⟩
        have hE : Lib.bitLen n = 0 + Lib.bitLen (n) := by
          have hn := HN.out
          unfold U64 at hn
          try omega
        have HE := Aside0.mk hE
        have HX := Aside0.mk hx
        clear hE hx c1 c2 c3
        repeat go_step
        rw [dif_pos (by have := HX.out; omega)]
        simp only [HG.out]
        try rw [Nat.mod_eq_of_lt HX.out]
        generalize hq : Lib.bitLen (n) = q at *
        go_simp
        repeat go_step
        go_ret
        exact ⟨ret_int (by have := HE.out; omega), rfl⟩
      · have t3 : (256 : Int) ≤ (n : Int) := by omega
        have hx : n / 256 < 256 := by
          have hn := HN.out
          unfold U64 at hn
          omega
        have hb : Lib.bitLen (n / 256) ≤ 8 := Lib.bitLen_le8 ⟨n / 256, hx⟩
        have hE : Lib.bitLen n = 8 + Lib.bitLen (n / 256) := by
          have hn := HN.out
          unfold U64 at hn
          rw [Lib.bitLen_shift8 (n) (by omega) (by omega)]
          try omega
        have HE := Aside0.mk hE
        have HX := Aside0.mk hx
        clear hE hx c1 c2 c3
        repeat go_step
        rw [dif_pos (by have := HX.out; omega)]
        simp only [HG.out]
        try rw [Nat.mod_eq_of_lt HX.out]
        generalize hq : Lib.bitLen (n / 256) = q at *
        go_simp
        repeat go_step
        go_ret
        exact ⟨ret_int (by have := HE.out; omega), rfl⟩
    · have t2 : (65536 : Int) ≤ (n : Int) := by omega
      by_cases c3 : n / 65536 < 256
      · have t3 : ¬ (256 : Int) ≤ (n : Int) / 65536 := by omega
        have hx : n / 65536 < 256 := by
          have hn := HN.out
          unfold U64 at hn
          omega
        have hb : Lib.bitLen (n / 65536) ≤ 8 := Lib.bitLen_le8 ⟨n / 65536, hx⟩
        have hE : Lib.bitLen n = 16 + Lib.bitLen (n / 65536) := by
          have hn := HN.out
          unfold U64 at hn
          rw [Lib.bitLen_shift16 (n) (by omega) (by omega)]
          try omega
        have HE := Aside0.mk hE
        have HX := Aside0.mk hx
        clear hE hx c1 c2 c3
        repeat go_step
        rw [dif_pos (by have := HX.out; omega)]
        simp only [HG.out]
        try rw [Nat.mod_eq_of_lt HX.out]
        generalize hq : Lib.bitLen (n / 65536) = q at *
        go_simp
        repeat go_step
        go_ret
        exact ⟨ret_int (by have := HE.out; omega), rfl⟩
      · have t3 : (256 : Int) ≤ (n : Int) / 65536 := by omega
        have hx : n / 65536 / 256 < 256 := by
          have hn := HN.out
          unfold U64 at hn
          omega
        have hb : Lib.bitLen (n / 65536 / 256) ≤ 8 := Lib.bitLen_le8 ⟨n / 65536 / 256, hx⟩
        have hE : Lib.bitLen n = 24 + Lib.bitLen (n / 65536 / 256) := by
          have hn := HN.out
          unfold U64 at hn
          rw [Lib.bitLen_shift16 (n) (by omega) (by omega)]
          rw [Lib.bitLen_shift8 (n / 65536) (by omega) (by omega)]
          try omega
        have HE := Aside0.mk hE
        have HX := Aside0.mk hx
        clear hE hx c1 c2 c3
        repeat go_step
        rw [dif_pos (by have := HX.out; omega)]
        simp only [HG.out]
        try rw [Nat.mod_eq_of_lt HX.out]
        generalize hq : Lib.bitLen (n / 65536 / 256) = q at *
        go_simp
        repeat go_step
        go_ret
        exact ⟨ret_int (by have := HE.out; omega), rfl⟩
  · have t1 : (4294967296 : Int) ≤ (n : Int) := by omega
    by_cases c2 : n / 4294967296 < 65536
    · have t2 : ¬ (65536 : Int) ≤ (n : Int) / 4294967296 := by omega
      by_cases c3 : n / 4294967296 < 256
      · have t3 : ¬ (256 : Int) ≤ (n : Int) / 4294967296 := by omega
        have hx : n / 4294967296 < 256 := by
          have hn := HN.out
          unfold U64 at hn
          omega
        have hb : Lib.bitLen (n / 4294967296) ≤ 8 := Lib.bitLen_le8 ⟨n / 4294967296, hx⟩
        have hE : Lib.bitLen n = 32 + Lib.bitLen (n / 4294967296) := by
          have hn := HN.out
          unfold U64 at hn
          rw [Lib.bitLen_shift32 (n) (by omega) (by omega)]
          try omega
        have HE := Aside0.mk hE
        have HX := Aside0.mk hx
        clear hE hx c1 c2 c3
        repeat go_step
        rw [dif_pos (by have := HX.out; omega)]
        simp only [HG.out]
        try rw [Nat.mod_eq_of_lt HX.out]
        generalize hq : Lib.bitLen (n / 4294967296) = q at *
        go_simp
        repeat go_step
        go_ret
        exact ⟨ret_int (by have := HE.out; omega), rfl⟩
      · have t3 : (256 : Int) ≤ (n : Int) / 4294967296 := by omega
        have hx : n / 4294967296 / 256 < 256 := by
          have hn := HN.out
          unfold U64 at hn
          omega
        have hb : Lib.bitLen (n / 4294967296 / 256) ≤ 8 := Lib.bitLen_le8 ⟨n / 4294967296 / 256, hx⟩
        have hE : Lib.bitLen n = 40 + Lib.bitLen (n / 4294967296 / 256) := by
          have hn := HN.out
          unfold U64 at hn
          rw [Lib.bitLen_shift32 (n) (by omega) (by omega)]
          rw [Lib.bitLen_shift8 (n / 4294967296) (by omega) (by omega)]
          try omega
        have HE := Aside0.mk hE
        have HX := Aside0.mk hx
        clear hE hx c1 c2 c3
        repeat go_step
        rw [dif_pos (by have := HX.out; omega)]
        simp only [HG.out]
        try rw [Nat.mod_eq_of_lt HX.out]
        generalize hq : Lib.bitLen (n / 4294967296 / 256) = q at *
        go_simp
        repeat go_step
        go_ret
        exact ⟨ret_int (by have := HE.out; omega), rfl⟩
    · have t2 : (65536 : Int) ≤ (n : Int) / 4294967296 := by omega
      by_cases c3 : n / 4294967296 / 65536 < 256
      · have t3 : ¬ (256 : Int) ≤ (n : Int) / 4294967296 / 65536 := by omega
        have hx : n / 4294967296 / 65536 < 256 := by
          have hn := HN.out
          unfold U64 at hn
          omega
        have hb : Lib.bitLen (n / 4294967296 / 65536) ≤ 8 := Lib.bitLen_le8 ⟨n / 4294967296 / 65536, hx⟩
        have hE : Lib.bitLen n = 48 + Lib.bitLen (n / 4294967296 / 65536) := by
          have hn := HN.out
          unfold U64 at hn
          rw [Lib.bitLen_shift32 (n) (by omega) (by omega)]
          rw [Lib.bitLen_shift16 (n / 4294967296) (by omega) (by omega)]
          try omega
        have HE := Aside0.mk hE
        have HX := Aside0.mk hx
        clear hE hx c1 c2 c3
        repeat go_step
        rw [dif_pos (by have := HX.out; omega)]
        simp only [HG.out]
        try rw [Nat.mod_eq_of_lt HX.out]
        generalize hq : Lib.bitLen (n / 4294967296 / 65536) = q at *
        go_simp
        repeat go_step
        go_ret
        exact ⟨ret_int (by have := HE.out; omega), rfl⟩
      · have t3 : (256 : Int) ≤ (n : Int) / 4294967296 / 65536 := by omega
        have hx : n / 4294967296 / 65536 / 256 < 256 := by
          have hn := HN.out
          unfold U64 at hn
          omega
        have hb : Lib.bitLen (n / 4294967296 / 65536 / 256) ≤ 8 := Lib.bitLen_le8 ⟨n / 4294967296 / 65536 / 256, hx⟩
        have hE : Lib.bitLen n = 56 + Lib.bitLen (n / 4294967296 / 65536 / 256) := by
          have hn := HN.out
          unfold U64 at hn
          rw [Lib.bitLen_shift32 (n) (by omega) (by omega)]
          rw [Lib.bitLen_shift16 (n / 4294967296) (by omega) (by omega)]
          rw [Lib.bitLen_shift8 (n / 4294967296 / 65536) (by omega) (by omega)]
          try omega
        have HE := Aside0.mk hE
        have HX := Aside0.mk hx
        clear hE hx c1 c2 c3
        repeat go_step
        rw [dif_pos (by have := HX.out; omega)]
        simp only [HG.out]
        try rw [Nat.mod_eq_of_lt HX.out]
        generalize hq : Lib.bitLen (n / 4294967296 / 65536 / 256) = q at *
        go_simp
        repeat go_step
        go_ret
        exact ⟨ret_int (by have := HE.out; omega), rfl⟩
end Go.Proofs.Ytbneaecpjeffkaa
