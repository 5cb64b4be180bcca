/-
  The walk of Sum.
-/
import Derived.Test.YtodpgcakciaefaaA1
namespace Go.Proofs.Ytodpgcakciaefaa
open Go.RowKit Go.Proofs.YtodpgcakciaefaaW.PrintWords

/-- Bytes that are read: a slice value's cells, and that they are bytes. -/
structure Bs (w : World) (A : Option Addr) (c : Nat) (l : List Int) : Prop where
  reads : ReadsInt w .u8 A l.length l
  cap : l.length ≤ c
  byte : ∀ x ∈ l, 0 ≤ x ∧ x < 256

theorem Bs.below {w w1 : World} {A : Option Addr} {c : Nat} {l : List Int} (h : Bs w A c l) (hb : Below w.heap.size w w1) : Bs w1 A c l := ⟨h.reads.below hb, h.cap, h.byte⟩
theorem Bs.drewN {w : World} {A : Option Addr} {c : Nat} {l : List Int} (h : Bs w A c l) (n : Nat) : Bs (w.drewN n) A c l := ⟨h.reads, h.cap, h.byte⟩
theorem ret_int {k : IntKind} {a b : Int} (h : a = b) : Ending.returned (.int k a) = .returned (.int k b) := by rw [h]
theorem rd_mem {l : List Int} {i : Int} (h0 : 0 ≤ i) (h1 : i < l.length) : rd l i ∈ l := by
  unfold rd
  rw [List.getD_eq_getElem?_getD, List.getElem?_eq_getElem (show i.toNat < l.length by omega)]
  exact List.getElem_mem _
theorem take_rd (l : List Int) (k : Nat) (h : k < l.length) : l.take (k + 1) = l.take k ++ [rd l k] := by
  rw [List.take_add_one, List.getElem?_eq_getElem h]
  simp [rd, List.getD_eq_getElem?_getD, List.getElem?_eq_getElem h]

theorem Bs.at_ {w : World} {A : Option Addr} {c : Nat} {l : List Int} (h : Bs w A c l) (k : Nat) (hk : k < l.length) :
    ∃ ad, A = some ad ∧ w.cell? (ad.add k) = some (.int .u8 (rd l k)) ∧ 0 ≤ rd l k ∧ rd l k < 256 := by
  obtain ⟨ad, e, hc⟩ := h.reads.at_ (k : Int) (by omega) (by omega)
  rw [Int.toNat_natCast] at hc
  exact ⟨ad, e, hc, h.byte _ (rd_mem (by omega) (by omega))⟩

theorem on_int (g x : Nat) (c : Int) (hx : x < 4294967296) (h0 : 0 ≤ c) (h1 : c < 256) (w : World) (hb : w.heap[g]? = some (.cells #[.int .u32 x] 25 (0, 0))) :
    Calls Try.prog 16 #[.int .u8 c, .pointer (some ⟨g, 0, none⟩)] w fun e w' =>
      e = .returned (.tuple #[]) ∧ w'.heap[g]? = some (.cells #[.int .u32 (Pl.byte x c.toNat : Nat)] 25 (0, 0)) ∧ w.grownBy w' (some g) := by
  obtain ⟨n, rfl⟩ := Int.eq_ofNat_of_zero_le h0
  exact on_calls g x n hx (by omega) w hb

set_option maxHeartbeats 400000 in
theorem sum_calls (A : Option Addr) (c : Nat) (l : List Int) (w : World) (h : Bs w A c l) :
    Calls Try.prog 9 #[.slice A l.length c] w fun e w' => e = .returned (.int .u32 (Pl.sum l : Nat)) ∧ Below w.heap.size w w' := by
  have hmf : ∀ (fn : Fn) (first cap : Array Value) (w : World), (Instr.makeFunc fn first cap).run Try.prog w = .ok (.func fn first cap) w := fun _ _ _ _ => rfl
  have hlen : (l.length : Int) ≤ 9223372036854775807 := by have := h.reads.2.1; omega
  have H := Aside0.mk h
  clear h
  go_enter Try.func9, Try.ntmps9
  go_wp2
  go_loopw [10] (fun v wr => ∃ k : Nat, k ≤ l.length ∧ v = .int .i64 k ∧ wr.heap[w.heap.size]? = some (.cells #[.int .u32 (Pl.run 4294967295 (l.take k) : Nat)] 25 (0, 0)) ∧ Below w.heap.size w wr)
    (fun v _ => l.length - (intOf v).toNat)
  case atStart => exact ⟨0, by omega, rfl, heap_alloc_new w _, (Below.refl _ _).alloc (Nat.le_refl _) _⟩
  case round =>
    obtain ⟨k, hk, rfl, hb1, hB⟩ := hrel
    have hc1 := cell_of_one hb1
    have hf1 := free_of_one hb1
    have hrl := Pl.run_lt (l := l.take k) (x := 4294967295) (by omega) (fun c hc => (H.out.byte c (List.mem_of_mem_take hc)).2)
    by_cases hlt : k < l.length
    · obtain ⟨ad, rfl, hcell, h0, h1⟩ := (H.out.below hB).at_ k hlt
      have hon := Aside0.mk (on_int w.heap.size _ (rd l k) hrl h0 h1 wr hb1)
      have hts := Aside0.mk (take_rd l k hlt)
      clear hb1 hc1 hf1 hrl
      go_wp2_with fail
      refine (hon.out).mono ?_
      rintro e w' ⟨rfl, hb2, hg2⟩
      go_wp2
      refine ⟨⟨k + 1, by omega, by go_num, ?_, hB.grown hg2 hB.size (by intro k hk; injection hk with hk; omega)⟩, by simp [intOf]; omega⟩
      rw [hts.out, Pl.run_snoc]
      exact hb2
    · obtain rfl : k = l.length := by omega
      rw [List.take_length] at hb1 hc1 hrl
      go_wp2
      go_ret
      refine ⟨ret_int ?_, hB⟩
      rw [show (4294967295 : Int) = ((4294967295 : Nat) : Int) from rfl, u32_xor_nat _ _ hrl (by omega)]
      rfl
end Go.Proofs.Ytodpgcakciaefaa
