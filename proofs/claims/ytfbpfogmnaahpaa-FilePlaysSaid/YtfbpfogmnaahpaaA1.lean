/-
  Files: bytes that are read; a row of the call's own (its room may be less than its block's); what is put behind it; Clone, Same.
-/
import Derived.Test.YtfbpfogmnaahpaaProg
import Derived.Test.YtfbpfogmnaahpaaWWords
import Derived.Deep.RegionHeld3
import Derived.Deep.AppendLies
import Derived.Lib.SliceRun
namespace Go.Proofs.Ytfbpfogmnaahpaa
open Go.RowKit Go.Proofs.YtfbpfogmnaahpaaW.PrintWords

theorem info5 : (Try.prog.info? 5).map (fun i => (i.zero, i.size, i.bytes)) = some (some (.int .u8 0), 1, 1) := by kernel_rfl

/-- Bytes that are read: a slice value's cells, and that they are bytes. -/
structure Bs (w : World) (A : Option Addr) (c : Nat) (l : List Int) : Prop where
  reads : ReadsInt w .u8 A l.length l
  cap : l.length ≤ c
  byte : ∀ x ∈ l, 0 ≤ x ∧ x < 256
theorem Bs.below {w w1 : World} {A : Option Addr} {c : Nat} {l : List Int} (h : Bs w A c l) (hb : Below w.heap.size w w1) : Bs w1 A c l := ⟨h.reads.below hb, h.cap, h.byte⟩
theorem Bs.drewN {w : World} {A : Option Addr} {c : Nat} {l : List Int} (h : Bs w A c l) (n : Nat) : Bs (w.drewN n) A c l := ⟨h.reads, h.cap, h.byte⟩
theorem rd_mem {l : List Int} {i : Int} (h0 : 0 ≤ i) (h1 : i < l.length) : rd l i ∈ l := by
  unfold rd
  rw [List.getD_eq_getElem?_getD, List.getElem?_eq_getElem (show i.toNat < l.length by omega)]
  exact List.getElem_mem _
theorem take_rd (l : List Int) (k : Nat) (h : k < l.length) : l.take (k + 1) = l.take k ++ [rd l k] := by
  rw [List.take_add_one, List.getElem?_eq_getElem h]
  simp [rd, List.getD_eq_getElem?_getD, List.getElem?_eq_getElem h]
theorem Bs.at_ {w : World} {A : Option Addr} {c : Nat} {l : List Int} (h : Bs w A c l) (k : Nat) (hk : k < l.length) :
    ∃ ad, A = some ad ∧ w.cell? (ad.add k) = some (.int .u8 (rd l k)) ∧ 0 ≤ rd l k ∧ rd l k < 256 := by
  obtain ⟨ad, e, hc⟩ := h.reads.at_ (k : Int) (by omega) (by omega)
  rw [Int.toNat_natCast] at hc
  exact ⟨ad, e, hc, h.byte _ (rd_mem (by omega) (by omega))⟩
theorem take_eq_succ {l m : List Int} {k : Nat} (h : l.take k = m.take k) (h1 : k < l.length) (h2 : k < m.length) : l.take (k + 1) = m.take (k + 1) ↔ rd l k = rd m k := by
  rw [take_rd l k h1, take_rd m k h2, h]
  simp

/-- A row of bytes of the call's own: its block q; its room c may be less than the block's. -/
structure Row (W : World) (b : Nat) (q : Option Nat) (A : Option Addr) (c : Nat) (l : List Int) : Prop where
  byte : ∀ x ∈ l, 0 ≤ x ∧ x < 256
  lies : (A = none ∧ c = 0 ∧ l = [] ∧ q = none) ∨ ∃ g cur, q = some g ∧ A = some ⟨g, 0, none⟩ ∧ b ≤ g ∧ W.heap[g]? = some (.cells cur 5 (0, 0)) ∧ l.length ≤ c ∧ c ≤ cur.size ∧ c ≤ maxLen ∧ cur.toList.take l.length = nums .u8 l
theorem Row.cell {W : World} {g : Nat} {cur : Array Value} {l : List Int} (hg : W.heap[g]? = some (.cells cur 5 (0, 0))) (ht : cur.toList.take l.length = nums .u8 l) (k : Nat) (hk : k < l.length) :
    W.cell? ⟨g, k, none⟩ = some (.int .u8 (rd l k)) := by
  have h1 : cur.toList[k]? = some (.int .u8 (rd l k)) := by
    have h2 : (cur.toList.take l.length)[k]? = cur.toList[k]? := by rw [List.getElem?_take_of_lt hk]
    rw [← h2, ht]
    simp [nums, rd, List.getD_eq_getElem?_getD, List.getElem?_eq_getElem hk]
  unfold World.cell?
  simp only [hg]
  rw [← Array.getElem?_toList, h1]
  rfl
theorem addr0_add (g k : Nat) : (⟨g, 0, none⟩ : Addr).add k = ⟨g, k, none⟩ := by
  unfold Addr.add
  by_cases h : k = 0
  · subst h; rfl
  · simp [h]
theorem Row.bs {W : World} {b : Nat} {q : Option Nat} {A : Option Addr} {c : Nat} {l : List Int} (h : Row W b q A c l) : Bs W A c l := by
  refine ⟨⟨rfl, ?_, ?_⟩, ?_, h.byte⟩
  · rcases h.lies with ⟨_, _, rfl, _⟩ | ⟨g, cur, _, _, _, _, h1, _, h2, _⟩
    · simp
    · unfold maxLen at h2; omega
  · intro hp
    rcases h.lies with ⟨_, _, rfl, _⟩ | ⟨g, cur, _, rfl, _, hg, _, _, _, ht⟩
    · simp at hp
    · refine ⟨⟨g, 0, none⟩, rfl, fun j hj => ?_⟩
      rw [addr0_add, Row.cell hg ht j hj]
      simp [rd]
  · rcases h.lies with ⟨_, rfl, rfl, _⟩ | ⟨g, cur, _, _, _, _, h1, _⟩
    · simp
    · exact h1
theorem Row.below {W W' : World} {b : Nat} {q : Option Nat} {A : Option Addr} {c : Nat} {l : List Int} (h : Row W b q A c l) (hb : Below W.heap.size W W') : Row W' b q A c l := by
  refine ⟨h.byte, ?_⟩
  rcases h.lies with h | ⟨g, cur, h1, h2, h3, h4, h5⟩
  · exact .inl h
  · exact .inr ⟨g, cur, h1, h2, h3, (hb.block g (Array.getElem?_eq_some_iff.1 h4).1).trans h4, h5⟩
theorem Row.nil (W : World) (b : Nat) : Row W b none none 0 [] := ⟨by simp, .inl ⟨rfl, rfl, rfl, rfl⟩⟩
theorem Row.of_own {W : World} {b : Nat} {A : Option Addr} {c : Nat} {l : List Int} {n : Nat} (hn : l.length = n) (h : W.ownsRow b 5 1 (.slice A n c) n (nums .u8 l)) (hb : ∀ x ∈ l, 0 ≤ x ∧ x < 256) : ∃ q, Row W b q A c l := by
  subst hn
  rcases h.2 with ⟨h1, h2⟩ | ⟨g, cap, cur, h1, h2, h3, h4, h5, h6, h7⟩
  · simp only [Value.slice.injEq] at h1
    obtain ⟨rfl, _, rfl⟩ := h1
    exact ⟨none, hb, .inl ⟨rfl, rfl, List.eq_nil_of_length_eq_zero h2, rfl⟩⟩
  · simp only [Value.slice.injEq, true_and] at h1
    obtain ⟨rfl, rfl⟩ := h1
    exact ⟨some g, hb, .inr ⟨g, cur, rfl, rfl, h2, h3, h4, by omega, h5, by simpa using h7⟩⟩
theorem Row.size {W : World} {b : Nat} {q : Option Nat} {A : Option Addr} {c : Nat} {l : List Int} (h : Row W b q A c l) : ∀ k, q = some k → b ≤ k ∧ k < W.heap.size := by
  intro k hk
  rcases h.lies with ⟨_, _, _, h1⟩ | ⟨g, cur, h1, _, h3, h4, _⟩
  · rw [h1] at hk; cases hk
  · rw [h1] at hk; cases hk; exact ⟨h3, (Array.getElem?_eq_some_iff.1 h4).1⟩
theorem Row.grown {W W' : World} {b : Nat} {q r : Option Nat} {A : Option Addr} {c : Nat} {l : List Int} (h : Row W b q A c l) (hg : W.grownBy W' r) (hq : ∀ k, q = some k → some k ≠ r) : Row W' b q A c l := by
  refine ⟨h.byte, ?_⟩
  rcases h.lies with h | ⟨g, cur, h1, h2, h3, h4, h5⟩
  · exact .inl h
  · exact .inr ⟨g, cur, h1, h2, h3, (hg.block g (Array.getElem?_eq_some_iff.1 h4).1 (hq g h1)).trans h4, h5⟩

theorem nums_app (l m : List Int) : nums .u8 (l ++ m) = nums .u8 l ++ nums .u8 m := by simp [nums]
theorem nums_length (l : List Int) : (nums .u8 l).length = l.length := by simp [nums]

/-- append(v, ys...): v a row of the call's own, ys bytes that are read. -/
theorem run_append_Row {W : World} {b : Nat} {q : Option Nat} {A : Option Addr} {c : Nat} {l : List Int} (h : Row W b q A c l) {X : Option Addr} {m cx : Nat} {ys : List Int} (hY : ReadsInt W .u8 X m ys) (hyb : ∀ x ∈ ys, 0 ≤ x ∧ x < 256)
    (hl : l.length + m ≤ 140737488355328) (hbase : b ≤ W.heap.size) (ty : TypeId) :
    ∃ A' c' q' W', (Builtin.append_ #[22, 22] ty #[.slice A l.length c, .slice X m cx]).run Try.prog W = .ok (.slice A' (l.length + m) c') W' ∧ Row W' b q' A' c' (l ++ ys) ∧ W.grownBy W' q ∧ (q' = q ∨ ∃ k, q' = some k ∧ W.heap.size ≤ k) := by
  obtain ⟨i0, hi, hzz⟩ := Option.map_eq_some_iff.1 info5
  simp only [Prod.mk.injEq] at hzz
  obtain ⟨hz0, hz1, hz2⟩ := hzz
  have ht := Try.underlying22
  have hyn : ys.length = m := hY.1
  have hbyte : ∀ x ∈ l ++ ys, 0 ≤ x ∧ x < 256 := by
    intro x hx
    rcases List.mem_append.1 hx with hx | hx
    · exact h.byte x hx
    · exact hyb x hx
  rcases X with _ | ad
  · have h0 : m = 0 := by
      rcases Nat.eq_zero_or_pos m with h0 | h0
      · exact h0
      · obtain ⟨ad, h, _⟩ := hY.2.2 h0
        cases h
    subst h0
    obtain rfl : ys = [] := List.eq_nil_of_length_eq_zero hyn
    refine ⟨A, c, q, W, ?_, by simpa using h, World.grownBy.refl W _, .inl rfl⟩
    rcases h.lies with ⟨rfl, rfl, rfl, _⟩ | ⟨g, cur, _, rfl, _, hg, h1, h2, h3, h4⟩
    · simp [Builtin.append_, run_underlying ht, sizeOf, typeInfo, hi, Builtin.lenOf, Builtin.firstCells]
    · simp [Builtin.append_, run_underlying ht, sizeOf, typeInfo, hi, Builtin.lenOf, Builtin.firstCells, h1, storeCells]
  · have hcells : ∀ j u, (nums .u8 ys)[j]? = some u → W.cell? (ad.add j) = some u := by
      intro j u hu
      have hj : j < ys.length := by
        rcases Nat.lt_or_ge j ys.length with h | h
        · exact h
        · simp [nums, List.getElem?_eq_none h] at hu
      obtain ⟨ad', h', hc⟩ := hY.2.2 (by omega)
      injection h' with h'
      subst h'
      have := hc j (by omega)
      simp [nums, List.getElem?_eq_getElem hj] at hu
      subst hu
      rw [this]
      simp [List.getD_eq_getElem?_getD, List.getElem?_eq_getElem hj]
    have hone : ∀ u ∈ nums .u8 ys, u.oneCell' = true := by intro u hu; simp only [nums, List.mem_map] at hu; obtain ⟨q, _, rfl⟩ := hu; rfl
    have hlm : l.length + m ≤ maxLen := by unfold maxLen; omega
    have grown : ∀ (old : Nat), old < l.length + m → ∀ (row : Option Nat),
        Row (W.drew.alloc (.cells ((nums .u8 l).toArray ++ (nums .u8 ys).toArray ++ Builtin.zeroCells (Value.int .u8 0).cells (grownCap W (l.length + m) old 5 - (l.length + m))) 5)) b (some W.heap.size) (some ⟨W.heap.size, 0, none⟩) (grownCap W (l.length + m) old 5) (l ++ ys) ∧
        W.grownBy (W.drew.alloc (.cells ((nums .u8 l).toArray ++ (nums .u8 ys).toArray ++ Builtin.zeroCells (Value.int .u8 0).cells (grownCap W (l.length + m) old 5 - (l.length + m))) 5)) row := by
      intro old ho row
      have hge := grownCap_ge W (l.length + m) old 5
      have hcm : grownCap W (l.length + m) old 5 ≤ maxLen := grownCap_le_maxLen W (l.length + m) old 5 hlm
      refine ⟨⟨hbyte, .inr ⟨W.heap.size, _, rfl, rfl, hbase, heap_alloc_new W.drew _, by rw [List.length_append, hyn]; exact hge, ?_, hcm, ?_⟩⟩, ⟨rfl, rfl, rfl, by simp, fun k hk _ => heap_alloc_old W.drew _ hk⟩⟩
      · have hzc : (Value.int .u8 0).cells.size = 1 := rfl
        simp only [Array.size_append, List.size_toArray, size_zeroCells, nums_length, hyn, hzc]
        omega
      · simp only [Array.toList_append]
        rw [← nums_app, show (l ++ ys).length = (nums .u8 (l ++ ys)).length from (nums_length _).symm]
        exact List.take_left
    rcases h.lies with ⟨rfl, rfl, rfl, rfl⟩ | ⟨g, cur, rfl, rfl, hbg, hg, h1, h2, h3, h4⟩
    · by_cases hm : m = 0
      · subst hm
        obtain rfl : ys = [] := List.eq_nil_of_length_eq_zero hyn
        refine ⟨none, 0, none, W, ?_, Row.nil W b, World.grownBy.refl W _, .inl rfl⟩
        simp [Builtin.append_, run_underlying ht, sizeOf, typeInfo, hi, Builtin.lenOf, Builtin.firstCells, loadCells, loadCellsFrom]
      · have hr := run_append_nil (P := Try.prog) W 22 ty 5 i0 (.int .u8 0) ht hi hz0 ad m cx (nums .u8 ys) (by rw [hz1, nums_length, hyn]; omega) hcells (by omega) (by simp at hl; omega) (by rw [hz2]; simp at hl; omega)
        have hgr := grown 0 (by simp; omega) none
        simp only [List.length_nil, Nat.zero_add, List.nil_append] at hgr ⊢
        have e0 : (nums .u8 []).toArray = #[] := rfl
        rw [e0, Array.empty_append] at hgr
        exact ⟨_, _, _, _, hr, hgr.1, hgr.2, .inr ⟨_, rfl, Nat.le_refl _⟩⟩
    · by_cases hroom : l.length + m ≤ c
      · have hfit : l.length * i0.size + (nums .u8 ys).length ≤ cur.size := by rw [nums_length, hyn, hz1]; omega
        have hr := run_append_room (P := Try.prog) W 22 ty 5 i0 ht hi g l.length c cur hg ad m cx (nums .u8 ys) (by rw [hz1, nums_length, hyn]; omega) hcells hone hroom hfit
        refine ⟨_, _, some g, _, hr, ⟨hbyte, .inr ⟨g, _, rfl, rfl, hbg, setRow_heap W g cur _ 5 _ hg, by rw [List.length_append, hyn]; exact hroom, ?_, h3, ?_⟩⟩, ⟨rfl, rfl, rfl, by simp, fun k _ hk => setRow_other W g k _ (fun e => hk (by simp [e]))⟩, .inl rfl⟩
        · simp only [List.size_toArray, List.length_append, List.length_take, List.length_drop, Array.length_toList, nums_length, hz1]
          omega
        · rw [hz1, Nat.mul_one, h4, ← nums_app, show (l ++ ys).length = (nums .u8 (l ++ ys)).length from (nums_length _).symm]
          exact List.take_left
      · have holds : ∀ j u, (nums .u8 l)[j]? = some u → W.cell? ((⟨g, 0, none⟩ : Addr).add j) = some u := by
          intro j u hu
          have hj : j < l.length := by
            rcases Nat.lt_or_ge j l.length with h | h
            · exact h
            · simp [nums, List.getElem?_eq_none h] at hu
          rw [addr0_add, Row.cell hg h4 j hj]
          simp [nums, List.getElem?_eq_getElem hj] at hu
          rw [← hu]
          simp [rd, List.getD_eq_getElem?_getD, List.getElem?_eq_getElem hj]
        have hr := run_append_grow (P := Try.prog) W 22 ty 5 i0 (.int .u8 0) ht hi hz0 ⟨g, 0, none⟩ l.length c (nums .u8 l) (by rw [hz1, nums_length]; omega) holds ad m cx (nums .u8 ys) (by rw [hz1, nums_length, hyn]; omega) hcells (by omega) (by omega) (growslice_fits (by omega) (by rw [hz2]; omega))
        have hgr := grown c (by omega) (some g)
        exact ⟨_, _, _, _, hr, hgr.1, hgr.2, .inr ⟨_, rfl, Nat.le_refl _⟩⟩

set_option maxHeartbeats 400000 in
/-- nil, or not, a clone is new memory. -/
theorem clone_calls (A : Option Addr) (c n : Nat) (l : List Int) (hn : l.length = n) (w : World) (h : Bs w A c l) (hl : n ≤ 140737488355328) :
    Calls Try.prog 30 #[.slice A n c] w fun e w' => ∃ A' c' q', e = .returned (.slice A' n c') ∧ Row w' w.heap.size q' A' c' l ∧ Below w.heap.size w w' := by
  subst hn
  have q22 : ∀ (w : World) (a : Option Addr) (n c n' c' : Nat), (binOp .eql 22 (.slice a n c) (.slice none n' c')).run Try.prog w = .ok (.bool a.isNone) w := fun w a n c n' c' => Lib.run_eql_slice_nil w _ _ a n c n' c' Try.underlying22
  have H := Aside0.mk h
  clear h
  rcases A with _ | ad
  · have hl : l = [] := by
      rcases l with _ | ⟨a, l⟩
      · rfl
      · obtain ⟨ad, h, _⟩ := H.out.at_ 0 (by simp)
        cases h
    subst hl
    go_enter Try.func30, Try.ntmps30
    go_wp2
    go_ret
    exact ⟨none, 0, none, rfl, Row.nil _ _, Below.refl _ _⟩
  · go_enter Try.func30, Try.ntmps30
    go_wp2_with (at_builtin; refine print_append_row (w0 := w) w.heap.size rfl _ _ 22 5 .u8 1 rfl Try.underlying22 info5 (by decide) _ [] l (some ad) l.length c rfl rfl ?c1 ?c2 ?c3 ?c4 ?c5 ?_)
    case c1 => exact own_lit w w.heap.size 5 .u8 [] (Nat.le_refl _) (by decide)
    case c2 => exact H.out.reads.allocS _
    case c3 => exact (Below.refl _ _).alloc (Nat.le_refl _) _
    case c4 => simp
    case c5 => simp; omega
    intro v1 w1 hown hB _ _
    obtain ⟨A', c', rfl⟩ := own_slice hown
    obtain ⟨q', hq⟩ := Row.of_own rfl hown H.out.byte
    go_wp2
    go_ret
    exact ⟨A', c', q', rfl, hq, hB⟩

set_option maxHeartbeats 1000000 in
theorem same_calls (A : Option Addr) (c n : Nat) (l : List Int) (hln : l.length = n) (B : Option Addr) (d k : Nat) (m : List Int) (hmk : m.length = k) (w : World) (h : Bs w A c l) (h' : Bs w B d m) :
    Calls Try.prog 14 #[.slice A n c, .slice B k d] w fun e w' => e = .returned (.bool (decide (l = m))) ∧ Drawn0 w w' := by
  subst hln hmk
  have hlen : (l.length : Int) ≤ 9223372036854775807 := by have := h.reads.2.1; omega
  have H := Aside0.mk h
  have H' := Aside0.mk h'
  clear h h'
  by_cases hll : l.length = m.length
  · have t1 : ((l.length : Int) != (m.length : Int)) = false := by simp [hll]
    have HL := Aside0.mk hll
    clear hll
    go_enter Try.func14, Try.ntmps14
    go_wp2
    go_loopw [5] (fun v wr => ∃ k : Nat, k ≤ l.length ∧ v = .int .i64 k ∧ Aside0 (l.take k = m.take k) ∧ Drawn0 w wr) (fun v _ => l.length - (intOf v).toNat)
    case atStart => exact ⟨0, by omega, rfl, ⟨by simp⟩, Drawn0.refl _⟩
    case round =>
      clear t1
      obtain ⟨k, hk, rfl, HK, ⟨q, rfl⟩⟩ := hrel
      by_cases hlt : k < l.length
      · have hlt' : k < m.length := by have := HL.out; omega
        obtain ⟨ad, rfl, hc, _, _⟩ := H.out.at_ k hlt
        obtain ⟨ad', rfl, hc', _, _⟩ := H'.out.at_ k hlt'
        have i0 : (0 : Int) ≤ (k : Int) := by omega
        have i1 : (k : Int) < (l.length : Int) := by omega
        have i2 : (k : Int) < (m.length : Int) := by omega
        by_cases he : rd l k = rd m k
        · have hb : (rd l k != rd m k) = false := by simp [he]
          have HK1 := Aside0.mk ((take_eq_succ HK.out hlt hlt').2 he)
          clear he HK
          go_wp2
          go_quiet (fail)
          go_wp2
          go_roundw
          case rel => exact ⟨k + 1, by omega, by go_num, HK1, ⟨⟨_, rfl⟩⟩⟩
          case measure => simp [intOf]; omega
        · have hb : (rd l k != rd m k) = true := by simp [he]
          have HK1 := Aside0.mk (fun e => he ((take_eq_succ HK.out hlt hlt').1 e))
          clear he HK
          go_wp2
          go_quiet (fail)
          go_wp2
          go_ret
          refine ⟨?_, Drawn0.step ⟨⟨q, rfl⟩⟩ _⟩
          have : l ≠ m := fun e => HK1.out (by rw [e])
          simp [this]
      · go_wp2
        go_ret
        refine ⟨?_, ⟨⟨q, rfl⟩⟩⟩
        have : l = m := by
          have := HK.out
          rwa [List.take_of_length_le (by omega), List.take_of_length_le (by have := HL.out; omega)] at this
        simp [this]
  · have t1 : ((l.length : Int) != (m.length : Int)) = true := by simp; omega
    have HL := Aside0.mk hll
    clear hll
    go_enter Try.func14, Try.ntmps14
    go_wp2
    go_ret
    refine ⟨?_, Drawn0.refl _⟩
    have : l ≠ m := fun e => HL.out (by rw [e])
    simp [this]
end Go.Proofs.Ytfbpfogmnaahpaa
