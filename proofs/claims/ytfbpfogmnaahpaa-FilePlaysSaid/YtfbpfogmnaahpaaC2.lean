/-
  Files: the document's answer (Cut, Crash).
-/
import Derived.Test.YtfbpfogmnaahpaaC1
namespace Go.Proofs.Ytfbpfogmnaahpaa
open Go.RowKit Go.Proofs.YtfbpfogmnaahpaaW.PrintWords

theorem mid_cut_n (A : Option Addr) (c k j m : Nat) (l : List Int) (hm : l.length = m) (hk : k ≤ j) (hj : j ≤ m) (hc : l.length ≤ c) : ∃ A2 : Option Addr,
    (∀ W : World, (Instr.slice 22 (.slice A m c) (some (.int .i64 (k : Int))) (some (.int .i64 (j : Int))) none).run Try.prog W = .ok (.slice A2 (j - k) (c - k)) W) ∧ (∀ w : World, Bs w A c l → Bs w A2 (c - k) ((l.take j).drop k)) := by
  subst hm
  obtain ⟨i5, hi, hii⟩ := Option.map_eq_some_iff.1 info5
  have hsz : i5.size = 1 := by simp only [Prod.mk.injEq] at hii; exact hii.2.1
  obtain ⟨A2, cut2, r2, q2⟩ := print_mid_int (k := .u8) 22 5 Try.underlying22 hi hsz A c l (k : Int) (j : Int) (by omega) (by omega) (by omega) hc
  simp only [Int.toNat_natCast] at cut2 r2 q2
  refine ⟨A2, fun W => ?_, fun w h => ⟨r2 w h.reads, q2, fun x hx => h.byte x (List.mem_of_mem_take (List.mem_of_mem_drop hx))⟩⟩
  rw [cut2 W, show ((l.take j).drop k).length = j - k by simp; omega]
theorem wpList_append_N {ops : Array Oper} {rest : List Oper} {o : Oper} {a : Act} {Q : Exit → Act → World → Prop} {W : World} {b : Nat} {q : Option Nat} {A : Option Addr} {c n : Nat} {l : List Int} (hgd : o.guard = none) (s x : Operand)
    (ho : o.op = .call { callee := .builtin .append, args := #[s, x], argTypes := #[22, 22] }) (X : Option Addr) (m cx : Nat) (ys : List Int) (hs : a.eval s = .slice A n c) (hx : a.eval x = .slice X m cx) (hn : l.length = n) (N : Nat) (hN : n + m = N)
    (h : Row W b q A c l) (hY : ReadsInt W .u8 X m ys) (hyb : ∀ x ∈ ys, 0 ≤ x ∧ x < 256) (hl : n + m ≤ 140737488355328) (hbase : b ≤ W.heap.size)
    (hk : ∀ A' c' q' W', Row W' b q' A' c' (l ++ ys) → W.grownBy W' q → (q' = q ∨ ∃ k, q' = some k ∧ W.heap.size ≤ k) → wpList Try.prog ops Q rest (a.put o.dst (.slice A' N c')) W') :
    wpList Try.prog ops Q (o :: rest) a W := by
  subst hN
  exact wpList_append_Row hgd s x ho X m cx ys hs hx hn h hY hyb hl hbase hk
theorem rcut_crashed (b r : Nat) (qF : Option Nat) (AF : Option Addr) (cF nF : Nat) (lF : List Int) (qL : Option Nat) (AL : Option Addr) (cL nL : Nat) (lL : List Int) (most : Int) (j : Int) (w : World) (h : RefAt w b r qF AF cF nF lF qL AL cL nL lL most true) :
    Calls Try.prog 19 #[.pointer (some ⟨r, 0, none⟩), .int .i64 j] w fun e w' => e = .returned (.int .i64 25) ∧ w = w' := by
  obtain ⟨-, -, -, y3⟩ := h.cells
  clear h
  go_enter Try.func19, Try.ntmps19
  go_wp2
  go_ret
  simp
set_option maxHeartbeats 2000000 in
theorem rcut_range (b r : Nat) (qF : Option Nat) (AF : Option Addr) (cF nF : Nat) (lF : List Int) (qL : Option Nat) (AL : Option Addr) (cL nL : Nat) (lL : List Int) (most : Int) (n : Nat) (hn : nF + nL = n) (hl : n ≤ 140737488355328) (j : Int) (w : World) (h : RefAt w b r qF AF cF nF lF qL AL cL nL lL most false) (hj : j < 0 ∨ n < j) :
    Calls Try.prog 19 #[.pointer (some ⟨r, 0, none⟩), .int .i64 j] w fun e w' => e = .returned (.int .i64 10) ∧ Below w.heap.size w w' := by
  obtain ⟨-, -, -, y3⟩ := h.cells
  have HH := Aside0.mk h
  clear h
  by_cases c1 : j < 0
  · clear hj
    go_enter Try.func19, Try.ntmps19
    go_wp2_with fail
    refine (all_calls b r qF AF cF nF lF qL AL cL nL lL most false n hn hl w HH.out).mono ?_
    rintro e w1 ⟨A', c', q', rfl, hr, hb1⟩
    have HB := Aside0.mk hb1
    clear hr hb1 hn y3
    go_wp2
    go_ret
    exact ⟨rfl, HB.out⟩
  · have c2 : (n : Int) < j := by omega
    clear hj
    go_enter Try.func19, Try.ntmps19
    go_wp2_with fail
    refine (all_calls b r qF AF cF nF lF qL AL cL nL lL most false n hn hl w HH.out).mono ?_
    rintro e w1 ⟨A', c', q', rfl, hr, hb1⟩
    have HB := Aside0.mk hb1
    clear hr hb1 hn y3
    go_wp2
    go_ret
    exact ⟨rfl, HB.out⟩
set_option maxRecDepth 20000 in
set_option maxHeartbeats 8000000 in
theorem rcut_calls (b r : Nat) (qF : Option Nat) (AF : Option Addr) (cF nF : Nat) (lF : List Int) (qL : Option Nat) (AL : Option Addr) (cL nL : Nat) (lL : List Int) (most : Int) (n : Nat) (hn : nF + nL = n) (hl : n ≤ 140737488355328) (j : Nat) (hj : j ≤ n) (w : World) (h : RefAt w b r qF AF cF nF lF qL AL cL nL lL most false) (hb : b ≤ w.heap.size) :
    Calls Try.prog 19 #[.pointer (some ⟨r, 0, none⟩), .int .i64 j] w fun e w' => e = .returned (.int .i64 0) ∧ ∃ q3 A3 c3 K q6 A6 c6, K = min nF j ∧ RefAt w' b r q3 A3 c3 K ((lF ++ lL).take K) q6 A6 c6 (j - K) (((lF ++ lL).take j).drop K) most false ∧ Did b w w' r none ∧ (∀ k, q3 = some k → w.heap.size ≤ k) ∧ (∀ k, q6 = some k → w.heap.size ≤ k) := by
  obtain ⟨-, -, -, y3⟩ := h.cells
  have HH := Aside0.mk h
  have c1 : ¬ (j : Int) < 0 := by omega
  have c2 : ¬ (n : Int) < (j : Int) := by omega
  have RLW := Aside0.mk h.lt
  have OWN := Aside0.mk h.own
  have HBW := Aside0.mk hb
  have HFL := Aside0.mk (show nF ≤ n by omega)
  clear h
  go_enter Try.func19, Try.ntmps19
  go_wp2_with fail
  refine (all_calls b r qF AF cF nF lF qL AL cL nL lL most false n hn hl w HH.out).mono ?_
  rintro e w1 ⟨Aa, ca, qa, rfl, hr, hb1⟩
  obtain ⟨la, hla⟩ : ∃ la, lF ++ lL = la := ⟨_, rfl⟩
  rw [hla] at hr
  have HLAE := Aside0.mk hla
  have HLA := Aside0.mk (show la.length = n by rw [← hla, List.length_append, HH.out.lenF, HH.out.lenL, hn])
  have HCA := Aside0.mk hr.bs.cap
  have RA1 := Aside0.mk hr
  have BW1 := Aside0.mk hb1
  have K1 := Aside0.mk (HH.out.below hb1).blk
  have RL := Aside0.mk (HH.out.below hb1).lt
  have QAR := Aside0.mk (show ∀ k, qa = some k → w.heap.size ≤ k from fun k hk => (hr.size k hk).1)
  obtain ⟨-, y1, -, -⟩ := (HH.out.below hb1).cells
  clear hr hb1 y3 hla hn
  have hFL := HFL.out
  by_cases cj : (j : Int) < (nF : Int)
  · obtain ⟨cut1, kb1⟩ := take_cut_n Aa ca j n la HLA.out (by omega) HCA.out
    obtain ⟨Am, cut2, kb2⟩ := mid_cut_n Aa ca j j n la HLA.out (by omega) (by omega) HCA.out
    obtain ⟨M, hM⟩ : ∃ M, j - j = M := ⟨_, rfl⟩
    obtain ⟨cm, hcm⟩ : ∃ cm, ca - j = cm := ⟨_, rfl⟩
    rw [hM, hcm] at cut2
    rw [hcm] at kb2
    have HMM := Aside0.mk hM
    clear hM hcm
    obtain ⟨w2, hw2⟩ : ∃ w2, w1.alloc (.cells #[] 5) = w2 := ⟨_, rfl⟩
    have HW2 := Aside0.mk hw2
    have R2 := Aside0.mk (lit_row #[] [] 0 rfl rfl (by simp) (by decide) hw2)
    have RA2 := Aside0.mk (RA1.out.below (grow hw2))
    have K2 := Aside0.mk (((grow hw2).block r RL.out).trans K1.out)
    have G2 := Aside0.mk (grow hw2)
    clear hw2
    go_wp2_with (at_builtin; rw [HW2.out]; refine wpList_append_N (b := w1.heap.size) (n := 0) (l := []) rfl _ _ rfl Aa j ca (la.take j) rfl rfl rfl j (Nat.zero_add _) R2.out ?c1 ?c2 ?c3 ?c4 ?_)
    case c1 => have := (kb1 _ RA2.out.bs).reads; rw [List.length_take, HLA.out, Nat.min_eq_left (by omega)] at this; exact this
    case c2 => exact (kb1 _ RA2.out.bs).byte
    case c3 => omega
    case c4 => exact G2.out.size
    intro A3 c3 q3 w3 hr3 hg3 hq3
    have hb3 : Below w1.heap.size w1 w3 := G2.out.grown hg3 G2.out.size (fun k hk => by injection hk with hk; omega)
    have K3 := (hb3.block r RL.out).trans K1.out
    have f3 : w3.frozen? ⟨r, 1, none⟩ = false := by simp [World.frozen?, K3]
    have y3 : w3.cell? ⟨r, 1, none⟩ = some (.slice AF nF cF) := by simp [World.cell?, K3]
    have y3' : w3.cell? ⟨r, 2, none⟩ = some (.slice AL nL cL) := by simp [World.cell?, K3]
    have RA3 := Aside0.mk (RA1.out.below hb3)
    have R3 := Aside0.mk hr3
    have B3 := Aside0.mk hb3
    have K3 := Aside0.mk K3
    clear hr3 hg3 hq3 hb3 R2 RA2 K2 G2 HW2
    go_upto_region 10 with fail
    obtain ⟨w4, hw4⟩ : ∃ w4, w3.setCell ⟨r, 1, none⟩ (.slice A3 j c3) = w4 := ⟨_, rfl⟩
    have QR : q3 ≠ some r := fun e => by have := (R3.out.size _ e).1; have := RL.out; omega
    have QA : qa ≠ some r := fun e => by have := QAR.out _ e; have := RLW.out; omega
    have K4 := Aside0.mk (show w4.heap[r]? = some (.cells #[.int .i64 most, .slice A3 j c3, .slice AL nL cL, .bool false] 39 (0, 0)) from hw4 ▸ refput 1 _ K3.out)
    have R4 := Aside0.mk (hw4 ▸ R3.out.set ⟨r, 1, none⟩ QR (.slice A3 j c3))
    have RA4 := Aside0.mk (hw4 ▸ RA3.out.set ⟨r, 1, none⟩ QA (.slice A3 j c3))
    have S4 := Aside0.mk (show w4.heap.size = w3.heap.size by rw [← hw4]; simp)
    have D4 := Aside0.mk (show Did b w w4 r none from hw4 ▸ ⟨((BW1.out.trans (B3.out.mono BW1.out.size)).mono HBW.out).setCell (p := ⟨r, 1, none⟩) OWN.out _, fun k hk h1 h2 => (Below.heap_setCell _ _ _ k h1).trans ((BW1.out.trans (B3.out.mono BW1.out.size)).block k hk)⟩)
    rw [hw4]
    clear hw4 y3 y3' f3
    obtain ⟨w5, hw5⟩ : ∃ w5, w4.alloc (.cells #[] 5) = w5 := ⟨_, rfl⟩
    have HW5 := Aside0.mk hw5
    have R5 := Aside0.mk (lit_row #[] [] 0 rfl rfl (by simp) (by decide) hw5)
    have RA5 := Aside0.mk (RA4.out.below (grow hw5))
    have G5 := Aside0.mk (grow hw5)
    clear hw5
    go_wp2_with (at_builtin; rw [HW5.out]; refine wpList_append_N (b := w4.heap.size) (n := 0) (l := []) rfl _ _ rfl Am M cm ((la.take j).drop j) rfl rfl rfl M (Nat.zero_add _) R5.out ?d1 ?d2 ?d3 ?d4 ?_)
    case d1 => have := (kb2 _ RA5.out.bs).reads; rw [show ((la.take j).drop j).length = M by have := HLA.out; have := HMM.out; rw [List.length_drop, List.length_take]; omega] at this; exact this
    case d2 => exact (kb2 _ RA5.out.bs).byte
    case d3 => have := HMM.out; omega
    case d4 => exact G5.out.size
    intro A6 c6 q6 w6 hr6 hg6 hq6
    have hb6 : Below w4.heap.size w4 w6 := G5.out.grown hg6 G5.out.size (fun k hk => by injection hk with hk; omega)
    have hrl4 : r < w4.heap.size := by have := S4.out; have := RL.out; have := B3.out.size; omega
    have K6 := (hb6.block r hrl4).trans K4.out
    have f6 : w6.frozen? ⟨r, 2, none⟩ = false := by simp [World.frozen?, K6]
    have y6 : w6.cell? ⟨r, 2, none⟩ = some (.slice AL nL cL) := by simp [World.cell?, K6]
    have hb4 : b ≤ w4.heap.size := by have := S4.out; have := B3.out.size; have := BW1.out.size; have := HBW.out; omega
    have hr6' : Row w6 b q6 A6 c6 ((la.take j).drop j) := by have h := Row.weaken hr6 hb4; first | exact h | (simpa using h)
    have QR6 : q6 ≠ some r := fun e => by have := (hr6.size _ e).1; omega
    have F := Aside0.mk (show RefAt (w6.setCell ⟨r, 2, none⟩ (.slice A6 M c6)) b r q3 A3 c3 j (la.take j) q6 A6 c6 M ((la.take j).drop j) most false from
      ⟨refput 2 _ K6, OWN.out, by have := HLA.out; rw [List.length_take]; omega, by have := HLA.out; have := HMM.out; rw [List.length_drop, List.length_take]; omega, ((R4.out.below hb6).weaken (by have := BW1.out.size; have := HBW.out; omega)).set _ QR _, hr6'.set _ QR6 _, QR, QR6, fun k hk e => by have := (hr6.size _ e).1; have := (R3.out.size _ hk).2; have := S4.out; omega⟩)
    have D := Aside0.mk (show Did b w (w6.setCell ⟨r, 2, none⟩ (.slice A6 M c6)) r none from
      ⟨(D4.out.below.trans (hb6.mono (by have := D4.out.below.size; have := HBW.out; omega))).setCell (p := ⟨r, 2, none⟩) OWN.out _, fun k hk h1 h2 => (Below.heap_setCell _ _ _ k h1).trans ((hb6.block k (by have := D4.out.below.size; omega)).trans (D4.out.kept k hk h1 h2))⟩)
    have N1 := Aside0.mk (show ∀ k, q3 = some k → w.heap.size ≤ k from fun k hk => by have := (R3.out.size _ hk).1; have := BW1.out.size; omega)
    have N2 := Aside0.mk (show ∀ k, q6 = some k → w.heap.size ≤ k from fun k hk => by have := (hr6.size _ hk).1; have := S4.out; have := B3.out.size; have := BW1.out.size; omega)
    clear hr6 hg6 hq6 hb6 K6 QR6 hrl4 QR QA
    go_wp2
    go_ret
    exact ⟨rfl, q3, A3, c3, j, q6, A6, c6, by omega, by rw [HLAE.out, HMM.out]; exact F.out, D.out, N1.out, N2.out⟩
  · obtain ⟨cut1, kb1⟩ := take_cut_n Aa ca nF n la HLA.out (by omega) HCA.out
    obtain ⟨Am, cut2, kb2⟩ := mid_cut_n Aa ca nF j n la HLA.out (by omega) (by omega) HCA.out
    obtain ⟨M, hM⟩ : ∃ M, j - nF = M := ⟨_, rfl⟩
    obtain ⟨cm, hcm⟩ : ∃ cm, ca - nF = cm := ⟨_, rfl⟩
    rw [hM, hcm] at cut2
    rw [hcm] at kb2
    have HMM := Aside0.mk hM
    clear hM hcm
    obtain ⟨w2, hw2⟩ : ∃ w2, w1.alloc (.cells #[] 5) = w2 := ⟨_, rfl⟩
    have HW2 := Aside0.mk hw2
    have R2 := Aside0.mk (lit_row #[] [] 0 rfl rfl (by simp) (by decide) hw2)
    have RA2 := Aside0.mk (RA1.out.below (grow hw2))
    have K2 := Aside0.mk (((grow hw2).block r RL.out).trans K1.out)
    have G2 := Aside0.mk (grow hw2)
    clear hw2
    go_wp2_with (at_builtin; rw [HW2.out]; refine wpList_append_N (b := w1.heap.size) (n := 0) (l := []) rfl _ _ rfl Aa nF ca (la.take nF) rfl rfl rfl nF (Nat.zero_add _) R2.out ?c1 ?c2 ?c3 ?c4 ?_)
    case c1 => have := (kb1 _ RA2.out.bs).reads; rw [List.length_take, HLA.out, Nat.min_eq_left (by omega)] at this; exact this
    case c2 => exact (kb1 _ RA2.out.bs).byte
    case c3 => omega
    case c4 => exact G2.out.size
    intro A3 c3 q3 w3 hr3 hg3 hq3
    have hb3 : Below w1.heap.size w1 w3 := G2.out.grown hg3 G2.out.size (fun k hk => by injection hk with hk; omega)
    have K3 := (hb3.block r RL.out).trans K1.out
    have f3 : w3.frozen? ⟨r, 1, none⟩ = false := by simp [World.frozen?, K3]
    have y3 : w3.cell? ⟨r, 1, none⟩ = some (.slice AF nF cF) := by simp [World.cell?, K3]
    have y3' : w3.cell? ⟨r, 2, none⟩ = some (.slice AL nL cL) := by simp [World.cell?, K3]
    have RA3 := Aside0.mk (RA1.out.below hb3)
    have R3 := Aside0.mk hr3
    have B3 := Aside0.mk hb3
    have K3 := Aside0.mk K3
    clear hr3 hg3 hq3 hb3 R2 RA2 K2 G2 HW2
    go_upto_region 10 with fail
    obtain ⟨w4, hw4⟩ : ∃ w4, w3.setCell ⟨r, 1, none⟩ (.slice A3 nF c3) = w4 := ⟨_, rfl⟩
    have QR : q3 ≠ some r := fun e => by have := (R3.out.size _ e).1; have := RL.out; omega
    have QA : qa ≠ some r := fun e => by have := QAR.out _ e; have := RLW.out; omega
    have K4 := Aside0.mk (show w4.heap[r]? = some (.cells #[.int .i64 most, .slice A3 nF c3, .slice AL nL cL, .bool false] 39 (0, 0)) from hw4 ▸ refput 1 _ K3.out)
    have R4 := Aside0.mk (hw4 ▸ R3.out.set ⟨r, 1, none⟩ QR (.slice A3 nF c3))
    have RA4 := Aside0.mk (hw4 ▸ RA3.out.set ⟨r, 1, none⟩ QA (.slice A3 nF c3))
    have S4 := Aside0.mk (show w4.heap.size = w3.heap.size by rw [← hw4]; simp)
    have D4 := Aside0.mk (show Did b w w4 r none from hw4 ▸ ⟨((BW1.out.trans (B3.out.mono BW1.out.size)).mono HBW.out).setCell (p := ⟨r, 1, none⟩) OWN.out _, fun k hk h1 h2 => (Below.heap_setCell _ _ _ k h1).trans ((BW1.out.trans (B3.out.mono BW1.out.size)).block k hk)⟩)
    rw [hw4]
    clear hw4 y3 y3' f3
    obtain ⟨w5, hw5⟩ : ∃ w5, w4.alloc (.cells #[] 5) = w5 := ⟨_, rfl⟩
    have HW5 := Aside0.mk hw5
    have R5 := Aside0.mk (lit_row #[] [] 0 rfl rfl (by simp) (by decide) hw5)
    have RA5 := Aside0.mk (RA4.out.below (grow hw5))
    have G5 := Aside0.mk (grow hw5)
    clear hw5
    go_wp2_with (at_builtin; rw [HW5.out]; refine wpList_append_N (b := w4.heap.size) (n := 0) (l := []) rfl _ _ rfl Am M cm ((la.take j).drop nF) rfl rfl rfl M (Nat.zero_add _) R5.out ?d1 ?d2 ?d3 ?d4 ?_)
    case d1 => have := (kb2 _ RA5.out.bs).reads; rw [show ((la.take j).drop nF).length = M by have := HLA.out; have := HMM.out; rw [List.length_drop, List.length_take]; omega] at this; exact this
    case d2 => exact (kb2 _ RA5.out.bs).byte
    case d3 => have := HMM.out; omega
    case d4 => exact G5.out.size
    intro A6 c6 q6 w6 hr6 hg6 hq6
    have hb6 : Below w4.heap.size w4 w6 := G5.out.grown hg6 G5.out.size (fun k hk => by injection hk with hk; omega)
    have hrl4 : r < w4.heap.size := by have := S4.out; have := RL.out; have := B3.out.size; omega
    have K6 := (hb6.block r hrl4).trans K4.out
    have f6 : w6.frozen? ⟨r, 2, none⟩ = false := by simp [World.frozen?, K6]
    have y6 : w6.cell? ⟨r, 2, none⟩ = some (.slice AL nL cL) := by simp [World.cell?, K6]
    have hb4 : b ≤ w4.heap.size := by have := S4.out; have := B3.out.size; have := BW1.out.size; have := HBW.out; omega
    have hr6' : Row w6 b q6 A6 c6 ((la.take j).drop nF) := by have h := Row.weaken hr6 hb4; first | exact h | (simpa using h)
    have QR6 : q6 ≠ some r := fun e => by have := (hr6.size _ e).1; omega
    have F := Aside0.mk (show RefAt (w6.setCell ⟨r, 2, none⟩ (.slice A6 M c6)) b r q3 A3 c3 nF (la.take nF) q6 A6 c6 M ((la.take j).drop nF) most false from
      ⟨refput 2 _ K6, OWN.out, by have := HLA.out; rw [List.length_take]; omega, by have := HLA.out; have := HMM.out; rw [List.length_drop, List.length_take]; omega, ((R4.out.below hb6).weaken (by have := BW1.out.size; have := HBW.out; omega)).set _ QR _, hr6'.set _ QR6 _, QR, QR6, fun k hk e => by have := (hr6.size _ e).1; have := (R3.out.size _ hk).2; have := S4.out; omega⟩)
    have D := Aside0.mk (show Did b w (w6.setCell ⟨r, 2, none⟩ (.slice A6 M c6)) r none from
      ⟨(D4.out.below.trans (hb6.mono (by have := D4.out.below.size; have := HBW.out; omega))).setCell (p := ⟨r, 2, none⟩) OWN.out _, fun k hk h1 h2 => (Below.heap_setCell _ _ _ k h1).trans ((hb6.block k (by have := D4.out.below.size; omega)).trans (D4.out.kept k hk h1 h2))⟩)
    have N1 := Aside0.mk (show ∀ k, q3 = some k → w.heap.size ≤ k from fun k hk => by have := (R3.out.size _ hk).1; have := BW1.out.size; omega)
    have N2 := Aside0.mk (show ∀ k, q6 = some k → w.heap.size ≤ k from fun k hk => by have := (hr6.size _ hk).1; have := S4.out; have := B3.out.size; have := BW1.out.size; omega)
    clear hr6 hg6 hq6 hb6 K6 QR6 hrl4 QR QA
    go_wp2
    go_ret
    exact ⟨rfl, q3, A3, c3, nF, q6, A6, c6, by omega, by rw [HLAE.out, HMM.out]; exact F.out, D.out, N1.out, N2.out⟩
end Go.Proofs.Ytfbpfogmnaahpaa
