/- A part of the proof of TopReplay (no condition of its own). -/
import Derived.Deep.RegionHeld3
import Derived.Deep.QuietTactic
import Derived.BigQuiet
import Derived.IntWalk
import Derived.Deep.DeepMust
import Derived.Test.YtjoehjclaonneaaGreatMM
import Derived.Test.YtjoehjclaonneaaGreatMN
import Derived.Test.YtjoehjclaonneaaGreatMO
namespace Go.Proofs.YtjoehjclaonneaaGreat
open Go.RowKit Go.Proofs.YtjoehjclaonneaaGreatW.PrintWords
set_option maxHeartbeats 8000000
set_option linter.unusedVariables false
set_option linter.unusedSimpArgs false
namespace Bl
structure Ok (f : Nat) (l : List Run) : Prop where
 ne : l ≠ []
 len : l.length <= 4096
 rgt : ∀ r ∈ l, Pl.rgt r
 drv : ∀ r ∈ l, 0 <= r.drv /\ r.drv < 4294967296
 ends : (f : Int) + Pl.tot l <= 1000000
 apart : ∀ i x y, l[i]? = some x -> l[i + 1]? = some y -> x.drv ≠ y.drv
theorem check_calls (f : Nat) (A : Option Addr) (c m : Nat) (l : List Run) (hm : l.length = m) (hk : Ok f l) (w : World) (h : Rd Rv w A c l) :
   Calls Tryz.prog 85 #[.agg #[.int .i64 f, .slice A m c]] w fun e w' => e = .returned (.int .i64 0) /\ Ch [] w w' := by
 have hlen := h.len63 hm
 have hnn : ∀ x ∈ l, 0 <= x.n := fun x hx => by have := (hk.rgt x hx).1; omega
 have htot : 0 <= Pl.tot l := by have := Pl.ex_len l hnn; omega
 have hends := hk.ends
 have hm1 : 1 <= m := by rw [<- hm]; exact List.length_pos_iff.2 hk.ne
 have hm2 : m <= 4096 := by rw [<- hm]; exact hk.len
 have H := Ad h
 have HM := Ad hm
 have HK := Ad hk
 have TC := Ad (fun (W : World) (hc : Ch [] w W) => ticks_calls A c m l hm hk.rgt (by omega) W (h.on hc))
 clear h hm hk hnn
 have f0 : ¬ (f : Int) < 0 := by omega
 have f1 : ¬ (1073741824 : Int) < f := by omega
 have m0 : ((m : Int) == 0) = false := by rw [beq_eq_false_iff_ne]; omega
 have m1 : ¬ (4096 : Int) < m := by omega
 have mw : (m : Int) - 1 = ((m - 1 : Nat) : Int) := by omega
 generalize Pl.tot l = tt at *
 go_enter Tryz.func85, Tryz.ntmps85
 go_wp2_with fail
 refine (TC.out _ ((Ch.refl [] w).alloc _)).mono ?_
 rintro e w2 ⟨rfl, hC⟩
 have C1 := (Ch.refl [] w).alloc (.cells #[Value.int .i64 f, .slice A m c] 85)
 have B1 := (Cs.new w [Value.int .i64 f, .slice A m c] 85).on hC
 have c0 : w2.cell? ⟨w.heap.size, 0, none⟩ = some (.int .i64 f) := B1.cell rfl
 have c1 : w2.cell? ⟨w.heap.size, 1, none⟩ = some (.slice A m c) := B1.cell rfl
 have lb := B1.lt
 have C2 := Ad (C1.then hC)
 clear hC C1 B1 TC
 go_wp2
 go_loopw [5, 38] (fun _ i wr => ∃ k : Nat, k <= m - 1 /\ i = .int .i64 k /\ ∃ z, wr = w2.drewN z) (fun _ i _ => m - (intOf i).toNat)
 case atStart => exact ⟨0, by omega, rfl, 0, rfl⟩
 case round =>
   obtain ⟨k, hk, rfl, z, rfl⟩ := hrel
   by_cases hlt : k < m - 1
   · obtain ⟨x, hx⟩ : ∃ x, l[k]? = some x := ⟨_, List.getElem?_eq_getElem (by rw [HM.out]; omega)⟩
     obtain ⟨y, hy⟩ : ∃ y, l[k + 1]? = some y := ⟨_, List.getElem?_eq_getElem (by rw [HM.out]; omega)⟩
     obtain ⟨g, o, rfl, hrx⟩ := (H.out.on C2.out).cells hx
     obtain ⟨g', o', e', hry⟩ := (H.out.on C2.out).cells hy
     cases e'
     have d0 : w2.cell? ⟨g, o + k * 3 + 2, none⟩ = some (.int .u32 x.drv) := hrx 2 _ rfl
     have d1 : w2.cell? ⟨g, o + (k + 1) * 3 + 2, none⟩ = some (.int .u32 y.drv) := hry 2 _ rfl
     have hne : (x.drv == y.drv) = false := by rw [beq_eq_false_iff_ne]; exact HK.out.apart k x y hx hy
     have k0 : (0 : Int) <= (k : Int) := by omega
     have k1 : (k : Int) < (m : Int) := by omega
     have k2 : (0 : Int) <= (k : Int) + 1 := by omega
     have k3 : (k : Int) + 1 < (m : Int) := by omega
     have k5 : ((k : Int) + 1).toNat = k + 1 := by omega
     have k4 : IntKind.i64.wrap ((k : Int) + 1) = (k : Int) + 1 := IntWalk.i64_in _ (by omega)
     clear hrx hry hx hy
     go_wp2
     go_quiet (fail)
     clear k4
     go_wp2
     go_roundw
     case rel => exact ⟨k + 1, by omega, by go_num, z + nq, rfl⟩
     case measure => simp [intOf]; omega
   · have e : k = m - 1 := by omega
     subst e
     have f3 : ¬ (1073741824 : Int) < (f : Int) + tt := by omega
     go_wp2
     go_ret
     exact ⟨rfl, C2.out.drewN _⟩
end Bl
namespace Vr.Pl
theorem row_len : ∀ (l : List Nat), (∀ n ∈ l, n < 18446744073709551616) -> (row l).length <= 10 * l.length
 | [], _ => by simp [row]
 | n :: l, h => by
   have h1 := Vr.put_ten (h n (by simp))
   have h2 := row_len l (fun m hm => h m (by simp [hm]))
   rw [row, List.length_append, List.length_cons]
   omega
end Vr.Pl
namespace Bl
def pairs : Nat -> List Run -> List Nat
 | _, [] => []
 | last, r :: l => r.n.toNat :: (r.drv.toNat ^^^ last) :: pairs r.drv.toNat l
def lastOf : Nat -> List Run -> Nat
 | last, [] => last
 | _, r :: l => lastOf r.drv.toNat l
theorem lastOf_snoc : ∀ (l : List Run) (last : Nat) (r : Run), lastOf last (l ++ [r]) = r.drv.toNat
 | [], _, _ => rfl
 | x :: l, _, r => by simp only [List.cons_append, lastOf]; exact lastOf_snoc l _ r
theorem pairs_snoc : ∀ (l : List Run) (last : Nat) (r : Run), pairs last (l ++ [r]) = pairs last l ++ [r.n.toNat, r.drv.toNat ^^^ lastOf last l]
 | [], _, _ => rfl
 | x :: l, last, r => by simp only [List.cons_append, pairs, lastOf, pairs_snoc l]
theorem pairs_len : ∀ (l : List Run) (last : Nat), (pairs last l).length = 2 * l.length
 | [], _ => rfl
 | x :: l, last => by simp only [pairs, List.length_cons, pairs_len l]; omega
theorem lastOf_lt : ∀ (l : List Run) (last : Nat), last < 4294967296 -> (∀ r ∈ l, 0 <= r.drv /\ r.drv < 4294967296) -> lastOf last l < 4294967296
 | [], _, h, _ => h
 | x :: l, _, _, h => by
   have := h x (by simp)
   exact lastOf_lt l _ (by omega) (fun r hr => h r (by simp [hr]))
theorem pairs_lt : ∀ (l : List Run) (last : Nat), last < 4294967296 -> (∀ r ∈ l, Pl.rgt r) -> (∀ r ∈ l, 0 <= r.drv /\ r.drv < 4294967296) -> ∀ n ∈ pairs last l, n < 4294967296
 | [], _, _, _, _, n, hn => by simp [pairs] at hn
 | x :: l, last, hl, hr, hd, n, hn => by
   have h1 := hd x (by simp)
   obtain ⟨h2, h3, _⟩ := hr x (by simp)
   simp only [pairs, List.mem_cons] at hn
   rcases hn with rfl | rfl | hn
   · omega
   · exact Nat.xor_lt_two_pow (n := 32) (by omega) (by omega)
   · exact pairs_lt l _ (by omega) (fun r h => hr r (by simp [h])) (fun r h => hd r (by simp [h])) n hn
def nums (f : Nat) (m : Nat) (l : List Run) : List Nat := f :: m :: pairs 4294967295 l
def bytes (f : Nat) (l : List Run) : List Int := Sm.Pl.sealed (Vr.Pl.put (Vr.Pl.row (nums f l.length l)).length ++ Vr.Pl.row (nums f l.length l))
theorem nums_lt {f m : Nat} {l : List Run} (hf : f < 4294967296) (hm : m < 4294967296) (hr : ∀ r ∈ l, Pl.rgt r) (hd : ∀ r ∈ l, 0 <= r.drv /\ r.drv < 4294967296) : ∀ n ∈ nums f m l, n < 18446744073709551616 := by
 intro n hn
 simp only [nums, List.mem_cons] at hn
 rcases hn with rfl | rfl | hn
 · omega
 · omega
 · have := pairs_lt l 4294967295 (by omega) hr hd n hn
   omega
theorem row_le {f m : Nat} {l : List Run} (hf : f < 4294967296) (hm : m < 4294967296) (hr : ∀ r ∈ l, Pl.rgt r) (hd : ∀ r ∈ l, 0 <= r.drv /\ r.drv < 4294967296) : (Vr.Pl.row (nums f m l)).length <= 20 * l.length + 20 := by
 have h1 := Vr.Pl.row_len _ (nums_lt hf hm hr hd)
 have h2 : (nums f m l).length = 2 * l.length + 2 := by simp only [nums, List.length_cons, pairs_len]
 omega
set_option maxRecDepth 100000 in
theorem putc_calls (n : Nat) (hn : n < 18446744073709551616) (g b m : Nat) (q : Option Nat) (A : Option Addr) (c : Nat) (l : List Int) (hm : l.length = m) (hm9 : m <= 10000000) (w : World) (hG : Bx w g 64 (.slice A m c)) (hO : Ow By w b q A c l) (hb : b <= w.heap.size) :
   Calls Tryz.prog 86 #[.int .u64 n, .pointer (some ⟨g, 0, none⟩)] w fun e w' => e = .returned (.tuple #[]) /\ ∃ A' c' q' m', Bx w' g 64 (.slice A' m' c') /\ (l ++ Vr.Pl.put n).length = m' /\ Ow By w' b q' A' c' (l ++ Vr.Pl.put n) /\ Ch (g :: q.toList) w w' := by
 have cg := hG.cell
 have fg := hG.free
 have lg := hG.lt
 have G := Ad hG
 have O := Ad hO
 have HM := Ad hm
 have PC := Ad (fun w => Vr.put_calls n hn w)
 have P10 := Ad (Vr.put_ten hn)
 have SK := Ad (fun (W' : World) (hc : Ch [] w W') => (⟨hc.cell cg (by simp), ⟨hc⟩⟩ : W'.cell? ⟨g, 0, none⟩ = some (.slice A m c) /\ Aside0 (Ch [] w W')))
 clear hG hO hm hn
 go_enter Tryz.func86, Tryz.ntmps86
 go_wp2_with fail
 go_region_law ((first
     | (go_simp
        go_at_call 87
        go_must ((have CP := Ad (show Ch [] w _ from (Ch.refl [] w).drew); refine (PC.out _).mono ?_; rintro e w9 ⟨A3, c3, q3, m3, rfl, ⟨hm3, hO3⟩, hC3⟩; have CQ := Ad (CP.out.then hC3); have O3 := Ad hO3; have M3 := Ad hm3; have hm3' : m3 <= 10 := (by rw [<- hm3]; exact P10.out); have x9 := CQ.out.cell cg (by simp); clear hO3 hm3 hC3)))
     | (refine step_append_Ow (by rfl) (.tmp 3) (.tmp 5) 64 (by rfl) (by rfl) A3 m3 c3 (Vr.Pl.put n) (by rfl) (by rfl) HM.out (O.out.on CQ.out) O3.out.rd M3.out (by show (m + m3) * 1 <= _; omega) (by have := CQ.out.size; omega) ?_
        intro A4 c4 q4 W4 hO4 hC4 hq4
        have G4 := Ad ((G.out.keep CQ.out (by simp)).keep hC4 (fun hm => by rw [Option.mem_toList] at hm; exact O.out.ne G.out (by decide) hm))
        have x4 := G4.out.cell
        have f4 := G4.out.free
        have C4 := Ad (CQ.out.any.then hC4)
        have O4 := Ad hO4
        clear hO4 hC4)
     | fail))
 all_goals
   go_end0
   have hs := (Ch.refl [g] W4).set ⟨g, 0, none⟩ (.slice A4 (m + m3) c4) (.inl (by simp))
   refine ⟨rfl, A4, c4, q4, m + m3, G4.out.set _, by rw [List.length_append, HM.out, M3.out], O4.out.keep hs (fun k hk hm => by simp at hm; subst hm; exact O4.out.ne G4.out (by decide) hk), (C4.out.sub (fun x hx => by simp at hx ⊢; exact .inr hx)).then (hs.sub (fun x hx => by simp at hx ⊢; exact .inl hx))⟩
def PS (w2 : World) (ns : List Nat) (W : World) : Prop := ∃ A c q m, Bx W w2.heap.size 64 (.slice A m c) /\ (Vr.Pl.row ns).length = m /\ Ow By W w2.heap.size q A c (Vr.Pl.row ns) /\ Ch [] w2 W
theorem PS.on {w2 : World} {ns : List Nat} {W W' : World} (h : PS w2 ns W) (hc : Ch [] W W') : PS w2 ns W' := by
 obtain ⟨A, c, q, m, h1, h2, h3, h4⟩ := h
 exact ⟨A, c, q, m, h1.keep hc (by simp), h2, h3.on hc, h4.then hc⟩
theorem putp_calls {w2 : World} {ns : List Nat} {W : World} (h : PS w2 ns W) (n : Nat) (hn : n < 18446744073709551616) (hl : (Vr.Pl.row ns).length <= 1000000) (ns' : List Nat) (hns : ns' = ns ++ [n]) :
   Calls Tryz.prog 86 #[.int .u64 n, .pointer (some ⟨w2.heap.size, 0, none⟩)] W fun e w' => e = .returned (.tuple #[]) /\ PS w2 ns' w' /\ W.heap.size <= w'.heap.size /\ ∀ g t cs, Cs W g t cs -> t ≠ 5 /\ t ≠ 64 -> Cs w' g t cs := by
 subst hns
 obtain ⟨A, c, q, m, h1, h2, h3, h4⟩ := h
 refine (putc_calls n hn w2.heap.size w2.heap.size m q A c (Vr.Pl.row ns) h2 (by omega) W h1 h3 h4.size).mono ?_
 rintro e w' ⟨rfl, A', c', q', m', h5, h6, h7, h8⟩
 rw [<- Vr.Pl.row_snoc] at h6 h7
 refine ⟨rfl, ⟨A', c', q', m', h5, h6, h7, h4.trans h8 (fun x hx => .inr ?_)⟩, h8.size, fun g t cs hg ht => hg.keep h8 (fun hm => ?_)⟩
 · rcases List.mem_cons.1 hx with rfl | hx
   · exact Nat.le_refl _
   · rw [Option.mem_toList] at hx
     exact (h3.size x hx).1
 · rcases List.mem_cons.1 hm with rfl | hm
   · have h9 : W.heap[w2.heap.size]? = _ := h1
     rw [show W.heap[w2.heap.size]? = _ from hg] at h9
     cases h9
     exact ht.2 rfl
   · rw [Option.mem_toList] at hm
     exact h3.ne hg (fun e => ht.1 e.symm) hm
set_option maxRecDepth 100000 in
theorem put_calls (f : Nat) (A : Option Addr) (c m : Nat) (l : List Run) (hm : l.length = m) (hk : Ok f l) (w : World) (h : Rd Rv w A c l) :
   Calls Tryz.prog 69 #[.agg #[.int .i64 f, .slice A m c]] w fun e w' => ∃ A' c' q' k, e = .returned (.tuple #[.slice A' k c', .int .i64 0]) /\ ((bytes f l).length = k /\ Ow By w' w.heap.size q' A' c' (bytes f l)) /\ Ch [] w w' := by
 have hmf : ∀ (fn : Fn) (first cap : Array Value) (w : World), (Instr.makeFunc fn first cap).run Tryz.prog w = .ok (.func fn first cap) w := fun _ _ _ _ => rfl
 have hends := hk.ends
 have htot : 0 <= Pl.tot l := by have := Pl.ex_len l (fun x hx => by have := (hk.rgt x hx).1; omega); omega
 have hm2 : m <= 4096 := by rw [<- hm]; exact hk.len
 have hf : f <= 1000000 := by omega
 have H := Ad h
 have HM := Ad hm
 have HK := Ad hk
 have NL := Ad (nums_lt (f := f) (m := m) (by omega) (by omega) hk.rgt hk.drv)
 have CK := Ad (fun (W : World) (hc : Ch [] w W) => check_calls f A c m l hm hk W (h.on hc))
 have B1 := Ad (Cs.new w [Value.int .i64 f, .slice A m c] 85)
 have C1 := Ad ((Ch.refl [] w).alloc (.cells [Value.int .i64 f, .slice A m c].toArray 85))
 clear h hm hk hends htot
 go_enter Tryz.func69, Tryz.ntmps69
 go_wp2_with (refine wpList_load_Cs rfl 85 (.tmp 1) rfl 0 [Value.int .i64 f, .slice A m c] (by rfl) B1.out (fun j v hv => by rwa [Nat.zero_add]) Tryz.underlying85 rfl size85 ?_)
 refine (CK.out _ C1.out).mono ?_
 rintro e w2 ⟨rfl, hC⟩
 have C2 := Ad (C1.out.then hC)
 have B2 := Ad (B1.out.on hC)
 have x0 : w2.cell? ⟨w.heap.size, 0, none⟩ = some (.int .i64 f) := B2.out.cell rfl
 have x1 : w2.cell? ⟨w.heap.size, 1, none⟩ = some (.slice A m c) := B2.out.cell rfl
 have lb := B2.out.lt
 clear hC CK C1 B1
 go_wp2_with fail
 have P0 := Ad (show PS w2 [] (w2.alloc (.cells #[.slice none 0 0] 64)) from ⟨none, 0, none, 0, Bx.new w2 _ 64, rfl, Ow.nil By _ _, (Ch.refl [] w2).alloc _⟩)
 have LEN := Ad (show ∀ k, (Vr.Pl.row (nums f m (l.take k))).length <= 20 * m + 20 from fun k => by
   have h1 := row_le (f := f) (m := m) (l := l.take k) (by omega) (by omega) (fun r hr => HK.out.rgt r (List.mem_of_mem_take hr)) (fun r hr => HK.out.drv r (List.mem_of_mem_take hr))
   have h2 : (l.take k).length <= m := by rw [List.length_take, HM.out]; omega
   omega)
 have LE1 := Ad (show (Vr.Pl.row [f]).length <= 1000000 from by
   have := Vr.put_ten (n := f) (by omega)
   simp only [Vr.Pl.row, List.append_nil]
   omega)
 refine (putp_calls P0.out f (by omega) (by decide) [f] rfl).mono ?_
 rintro e w3 ⟨rfl, h3, -, -⟩
 have P3 := Ad h3
 have C3 := Ad (show Ch [] w2 w3 from by obtain ⟨_, _, _, _, _, _, _, h⟩ := h3; exact h)
 have y1 := C3.out.cell x1 (by simp)
 have lb3 := Nat.lt_of_lt_of_le lb C3.out.size
 clear h3 x0 x1
 go_wp2_with fail
 refine (putp_calls P3.out m (by omega) LE1.out [f, m] rfl).mono ?_
 rintro e w4 ⟨rfl, h4, -, -⟩
 have P4 := Ad h4
 have C4 := Ad (show Ch [] w2 w4 from by obtain ⟨_, _, _, _, _, _, _, h⟩ := h4; exact h)
 have B4 := Ad (B2.out.on C4.out)
 have z1 : w4.cell? ⟨w.heap.size, 1, none⟩ = some (.slice A m c) := B4.out.cell rfl
 have lb4 := B4.out.lt
 clear h4 y1 lb3 C3 P3 P0 lb
 have hlen := H.out.len63 HM.out
 go_wp2
 go_loopw [7, 30] (fun la i wr => ∃ k : Nat, k <= m /\ i = .int .i64 k /\ la = .int .u32 (lastOf 4294967295 (l.take k) : Nat) /\ Aside0 (PS w2 (nums f m (l.take k)) wr)) (fun _ i _ => m - (intOf i).toNat)
 case atStart => exact ⟨0, by omega, rfl, rfl, P4⟩
 case round =>
   obtain ⟨k, hk, rfl, rfl, PK⟩ := hrel
   have CK := Ad (show Ch [] w2 wr from by obtain ⟨_, _, _, _, _, _, _, h⟩ := PK.out; exact h)
   by_cases hlt : k < m
   · obtain ⟨x, hx⟩ : ∃ x, l[k]? = some x := ⟨_, List.getElem?_eq_getElem (by rw [HM.out]; exact hlt)⟩
     obtain ⟨g, o, rfl, hrc⟩ := (H.out.on (C2.out.then CK.out)).cells hx
     have hxm := List.mem_of_getElem? hx
     obtain ⟨hx1, hx2, -⟩ := HK.out.rgt x hxm
     obtain ⟨hd1, hd2⟩ := HK.out.drv x hxm
     obtain ⟨xn, hxn⟩ : ∃ xn : Nat, x.n = xn := ⟨x.n.toNat, by omega⟩
     obtain ⟨xd, hxd⟩ : ∃ xd : Nat, x.drv = xd := ⟨x.drv.toNat, by omega⟩
     have R := Ad (show wr.rangeAt g (o + k * 3) [.int .i64 xn, .int .i64 x.bus, .int .u32 xd] from fun j v hv => by
       rw [<- hxn, <- hxd] at hv
       exact hrc j v hv)
     have hll := lastOf_lt (l.take k) 4294967295 (by omega) (fun r hr => HK.out.drv r (List.mem_of_mem_take hr))
     have hxr : xd ^^^ lastOf 4294967295 (l.take k) < 4294967296 := Nat.xor_lt_two_pow (n := 32) (by omega) (by omega)
     have eo := u32_xor_nat xd (lastOf 4294967295 (l.take k)) (by omega) hll
     have LS := Ad (show lastOf 4294967295 (l.take (k + 1)) = xd from by rw [List.take_add_one, hx, Option.toList_some, lastOf_snoc, hxd]; rfl)
     have NS := Ad (show nums f m (l.take (k + 1)) = (nums f m (l.take k) ++ [xn]) ++ [xd ^^^ lastOf 4294967295 (l.take k)] from by
       rw [List.take_add_one, hx, Option.toList_some]
       simp only [nums, pairs_snoc, hxn, hxd, Int.toNat_natCast, List.cons_append, List.append_assoc, List.nil_append])
     have L1 := LEN.out k
     have L2 : (Vr.Pl.row (nums f m (l.take k) ++ [xn])).length <= 1000000 := by
       have := Vr.put_ten (n := xn) (by omega)
       rw [Vr.Pl.row_snoc, List.length_append]
       omega
     have PA := Ad (fun (W : World) (hc : Ch [] wr W) => putp_calls (PK.out.on hc) xn (by omega) (by omega) _ rfl)
     have PB := Ad (fun (W : World) (hp : PS w2 (nums f m (l.take k) ++ [xn]) W) => putp_calls hp (xd ^^^ lastOf 4294967295 (l.take k)) (by omega) L2 _ rfl)
     have k0 : (0 : Int) <= (k : Int) := by omega
     have k1 : (k : Int) < (m : Int) := by omega
     have DN := Ad (Cs.new wr [Value.int .i64 0, .int .i64 0, .int .u32 0] 93)
     have CN := Ad ((Ch.refl [] wr).alloc (.cells [Value.int .i64 0, .int .i64 0, .int .u32 0].toArray 93))
     have xw : IntKind.u64.wrap (xn : Int) = (xn : Int) := Vr.wrap64_nat xn (by omega)
     have xw2 : IntKind.u64.wrap ((xd ^^^ lastOf 4294967295 (l.take k) : Nat) : Int) = ((xd ^^^ lastOf 4294967295 (l.take k) : Nat) : Int) := Vr.wrap64_nat _ (by omega)
     clear hrc hx hxm hx1 hx2 hd1 hd2 hxn hxd L1 L2 z1 lb4
     generalize lastOf 4294967295 (l.take k) = la at *
     go_wp2_with (first | refine wpList_load_mid rfl 93 (.tmp 32) rfl g (o + k * 3) (by rfl) [.int .i64 xn, .int .i64 x.bus, .int .u32 xd] _ R.out Tryz.underlying93 rfl size93 ?_ | refine wpList_store_all rfl 93 (.tmp 9) (.tmp 33) rfl [.int .i64 xn, .int .i64 x.bus, .int .u32 xd] (by rfl) (by rfl) DN.out rfl size93 (by simp [Value.oneCell']) ?_)
     intro wa ha ca
     have CA := Ad (show Ch [] wr wa from CN.out.trans ca (by simp))
     have DA := Ad ha
     have a0 : wa.cell? ⟨wr.heap.size, 0, none⟩ = some (.int .i64 xn) := ha.cell rfl
     have hal := ha.lt
     clear ha ca DN CN R
     go_wp2_with fail
     refine (PA.out wa CA.out).mono ?_
     rintro e wb ⟨rfl, hb, hs1, hq1⟩
     have Pb := Ad hb
     have Db := Ad (hq1 _ _ _ DA.out (by decide))
     have b2 : wb.cell? ⟨wr.heap.size, 2, none⟩ = some (.int .u32 xd) := Db.out.cell rfl
     have hbl := Db.out.lt
     clear hb a0 hal PA hs1 hq1 xw
     go_wp2_with fail
     refine (PB.out wb Pb.out).mono ?_
     rintro e wc ⟨rfl, hc, hs2, hq2⟩
     have Pc := Ad (show PS w2 (nums f m (l.take (k + 1))) wc from by rw [NS.out]; exact hc)
     have Dc := Ad (hq2 _ _ _ Db.out (by decide))
     have c2 : wc.cell? ⟨wr.heap.size, 2, none⟩ = some (.int .u32 xd) := Dc.out.cell rfl
     have hcl := Dc.out.lt
     clear hc b2 hbl PB eo hs2 hq2 xw2
     go_wp2
     go_roundw
     case rel => exact ⟨k + 1, by omega, by go_num, by rw [LS.out], Pc⟩
     case measure => simp [intOf]; omega
   · have hkm : k = m := by omega
     subst hkm
     have e : l.take k = l := List.take_of_length_le (by rw [HM.out]; exact Nat.le_refl _)
     rw [e] at PK
     obtain ⟨A3, c3, q3, m3, g1, g2, g3, g4⟩ := PK.out
     have hm3 : m3 <= 20 * k + 20 := by have := LEN.out k; rw [e] at this; rw [<- g2]; exact this
     have w3 : IntKind.u64.wrap (m3 : Int) = (m3 : Int) := Vr.wrap64_nat _ (by omega)
     have cg := g1.cell
     have lg := g1.lt
     have GB := Ad g1
     have GL := Ad g2
     have GO := Ad g3
     have GC := Ad g4
     have RB := Ad (Vr.Pl.row_rng (nums f k l))
     have PC := Ad (fun w => Vr.put_calls m3 (by omega) w)
     have P10 := Ad (Vr.put_ten (n := m3) (by omega))
     have PR := Ad (Vr.put_rng m3)
     have BY := Ad (show Sm.Pl.sealed (Vr.Pl.put m3 ++ Vr.Pl.row (nums f k l)) = bytes f l from by rw [bytes, HM.out, GL.out])
     clear g1 g2 g3 g4 e z1 lb4 PK CK LEN LE1 P4 NL B2 hlen hlt hk
     go_wp2_with fail
     go_region_law ((first
       | (go_simp
          go_at_call 87
          have CP := Ad (show Ch [] wr _ from (Ch.refl [] wr).drew)
          refine (PC.out _).mono ?_
          rintro e w9 ⟨A5, c5, q5, m5, rfl, ⟨hm5, hO5⟩, hC5⟩
          have CQ := Ad (CP.out.then hC5)
          have O5 := Ad hO5
          have M5 := Ad hm5
          have hm5' : m5 <= 10 := by rw [<- hm5]; exact P10.out
          have x9 := CQ.out.cell cg (by simp)
          clear hO5 hm5 hC5)
       | (refine step_append_Ow (by rfl) (.tmp 52) (.tmp 53) 64 (by rfl) (by rfl) A3 m3 c3 (Vr.Pl.row (nums f k l)) (by rfl) (by rfl) M5.out O5.out (GO.out.on CQ.out).rd GL.out (by show (m5 + m3) * 1 <= _; omega) CQ.out.size ?_
          intro A6 c6 q6 W6 hO6 hC6 hq6
          have O6 := Ad hO6
          have C6 := Ad (show Ch [] wr W6 from CQ.out.trans hC6 (fun y hy => by rw [Option.mem_toList] at hy; exact .inr (O5.out.size y hy).1))
          clear hO6 hC6 hq6)
       | (go_simp
          go_at_call 88
          refine (Sm.seal_calls A6 c6 (m5 + m3) (Vr.Pl.put m3 ++ Vr.Pl.row (nums f k l)) (by rw [List.length_append, M5.out, GL.out]) (by omega) (fun y hy => (List.mem_append.1 hy).elim (PR.out y) (RB.out y)) _ O6.out.rd).mono ?_
          rintro e w7 ⟨A7, c7, q7, rfl, hO7, hC7⟩
          have O7 := Ad hO7
          have C7 := Ad (C6.out.then hC7)
          clear hO7 hC7)
       | fail))
     all_goals
       simp only [List.getElem_toArray, List.getElem_cons_succ, List.getElem_cons_zero, Act.put, List.setIfInBounds_toArray, List.set_cons_zero, List.set_cons_succ]
       go_wp2
       go_ret2
       have z1 := C2.out.size
       have z2 := GC.out.size
       have z3 := C6.out.size
       exact ⟨A7, c7, q7, _, rfl, ⟨by rw [<- BY.out, Sm.Pl.sealed_len, List.length_append, M5.out, GL.out], by rw [<- BY.out]; exact O7.out.less (by omega)⟩, (C2.out.then GC.out).then C7.out⟩
end Bl
namespace Bl
theorem size_calls (n : Nat) (hn : n <= 65536) (A : Option Addr) (c m : Nat) (r : List Int) (hm : (Vr.Pl.put n ++ r).length = m) (hr : ∀ x ∈ r, 0 <= x /\ x < 256) (w : World) (h : Rd By w A c (Vr.Pl.put n ++ r)) :
   Calls Tryz.prog 71 #[.slice A m c] w fun e w' => e = .returned (.tuple #[.int .i64 ((Vr.Pl.put n).length + n + 4 : Nat), .int .i64 0]) /\ w = w' := by
 have G := Ad (Vr.get_calls A c m _ hm (fun x hx => (List.mem_append.1 hx).elim (Vr.put_rng n x) (hr x)) w h)
 rw [Vr.Pl.get_put n (by omega)] at G
 have h10 := Vr.put_ten (n := n) (by omega)
 generalize (Vr.Pl.put n).length = k at *
 have n1 : ¬ (65536 : Int) < (n : Int) := by omega
 clear h hm hr
 go_enter Tryz.func71, Tryz.ntmps71
 go_wp2_with fail
 refine G.out.mono ?_
 rintro e w' ⟨rfl, rfl⟩
 clear G
 go_wp2
 go_ret2
 refine ⟨?_, rfl⟩
 simp
theorem size_nil (c : Nat) (A : Option Addr) (w : World) :
   Calls Tryz.prog 71 #[.slice A 0 c] w fun e w' => e = .returned (.tuple #[.int .i64 0, .int .i64 13]) /\ w = w' := by
 have G := Ad (Vr.get_calls A c 0 [] rfl (by simp) w (Rd.nil By w A c))
 have e0 : Vr.Pl.get [] = (0, 0, 13) := rfl
 rw [e0] at G
 go_enter Tryz.func71, Tryz.ntmps71
 go_wp2_with fail
 refine G.out.mono ?_
 rintro e w' ⟨rfl, rfl⟩
 clear G
 go_wp2
 go_ret2
 exact ⟨rfl, rfl⟩
def NS (g : Nat) (xs : List Nat) (W : World) : Prop := ∃ A m c, Bx W g 153 (.slice A m c) /\ xs.length = m /\ Rd Uv W A c (xs.map (fun n : Nat => (n : Int))) /\ ∀ g' o s, A = some ⟨g', o, s⟩ -> ∃ cur, W.heap[g']? = some (.cells cur 137 (0, 0))
theorem NS.keep {g : Nat} {xs : List Nat} {W W' : World} (h : NS g xs W) {F : List Nat} (hc : Ch F W W') (hF : ∀ k, k ∈ F -> W.heap.size <= k ∨ ∃ cur T, W.heap[k]? = some (.cells cur T (0, 0)) /\ T ≠ 137 /\ T ≠ 153) : NS g xs W' := by
 obtain ⟨A, m, c, h1, h2, h3, h4⟩ := h
 have far : ∀ {k : Nat} {cur : Array Value} {T : TypeId}, W.heap[k]? = some (.cells cur T (0, 0)) -> (T = 137 ∨ T = 153) -> k ∉ F := fun hk hT hm => by
   have hlt := blk_lt hk
   rcases hF _ hm with h | ⟨cur', T', h, h5, h6⟩
   · omega
   · rw [hk] at h
     cases h
     rcases hT with e | e
     · exact h5 e
     · exact h6 e
 refine ⟨A, m, c, h1.keep hc (far h1 (.inr rfl)), h2, h3.keep hc (fun g' o s e => ?_), fun g' o s e => ?_⟩
 · obtain ⟨cur, hk⟩ := h4 g' o s e
   exact far hk (.inl rfl)
 · obtain ⟨cur, hk⟩ := h4 g' o s e
   exact ⟨cur, hc.blk hk (far hk (.inl rfl))⟩
theorem NS.on {g : Nat} {xs : List Nat} {W W' : World} (h : NS g xs W) (hc : Ch [] W W') : NS g xs W' := h.keep hc (by simp)
theorem next_calls (g g4 most x : Nat) (xs : List Nat) (hx : x <= most) (w : World) (h : NS g (x :: xs) w) :
   Calls Tryz.prog 94 #[.int .u64 most, .pointer (some ⟨g, 0, none⟩), .pointer (some ⟨g4, 0, none⟩)] w fun e w' => e = .returned (.int .u64 x) /\ NS g xs w' /\ Ch [g] w w' := by
 obtain ⟨A, m, c, h1, h2, h3, h4⟩ := h
 rw [List.length_cons] at h2
 have hcap := h3.cap
 rw [List.length_map, List.length_cons, h2] at hcap
 obtain ⟨A2, cut, rd2, ad2⟩ := cut_drop Uv 153 rfl A c 1 m (by omega) hcap
 obtain ⟨g', o, rfl, hc⟩ := h3.cells (k := 0) (x := (x : Int)) rfl
 have c0 : w.cell? ⟨g', o, none⟩ = some (.int .u64 x) := by
   have := hc 0 (.int .u64 x) rfl
   rwa [show o + 0 * Uv.sz + 0 = o by simp] at this
 have hlen := h3.len63 (by rw [List.length_map, List.length_cons, h2])
 have cg := h1.cell
 have fg := h1.free
 have lg := h1.lt
 have m0 : ((m : Int) == 0) = false := by rw [beq_eq_false_iff_ne]; omega
 have m1 : (0 : Int) < (m : Int) := by omega
 have x1 : ¬ (most : Int) < (x : Int) := by omega
 obtain ⟨cur, hb⟩ := h4 g' o none rfl
 have hne : g' ≠ g := blk_ne hb h1 (by decide)
 have G := Ad h1
 have R3 := Ad (rd2 w _ (by rw [List.length_map, List.length_cons, h2]) h3)
 have AD := Ad ad2
 have HB := Ad hb
 have H2 := Ad h2
 replace cut : ∀ W : World, (Instr.slice 153 (.slice (some ⟨g', o, none⟩) m c) (some (.int .i64 1)) none none).run Tryz.prog W = .ok (.slice A2 (m - 1) (c - 1)) W := cut
 clear h1 h2 h3 h4 hc rd2 ad2 hb hcap
 go_enter Tryz.func94, Tryz.ntmps94
 go_wp2
 go_ret
 have hs := (Ch.refl [g] w).set ⟨g, 0, none⟩ (.slice A2 (m - 1) (c - 1)) (.inl (by simp))
 refine ⟨rfl, ⟨A2, m - 1, c - 1, G.out.set _, by have := H2.out; omega, R3.out.keep hs (fun g'' o' s e hm => ?_), fun g'' o' s e => ?_⟩, hs⟩
 · obtain ⟨o2, s2, e2⟩ := AD.out g'' o' s e
   cases e2
   simp at hm
   exact hne hm
 · obtain ⟨o2, s2, e2⟩ := AD.out g'' o' s e
   cases e2
   exact ⟨cur, hs.blk HB.out (by simp; exact hne)⟩
end Bl
namespace Bl
theorem xor_back (a b : Nat) : (a ^^^ b) ^^^ b = a := by rw [Nat.xor_assoc, Nat.xor_self, Nat.xor_zero]
theorem pairs_drop : ∀ (l : List Run) (last k : Nat) (x : Run), l[k]? = some x -> pairs (lastOf last (l.take k)) (l.drop k) = x.n.toNat :: (x.drv.toNat ^^^ lastOf last (l.take k)) :: pairs (lastOf last (l.take (k + 1))) (l.drop (k + 1)) := by
 intro l last k x h
 have hk := (List.getElem?_eq_some_iff.1 h).1
 have e : l.take (k + 1) = l.take k ++ [x] := by rw [List.take_add_one, h]; rfl
 have e2 : l.drop k = x :: l.drop (k + 1) := by rw [List.drop_eq_getElem_cons hk, (List.getElem?_eq_some_iff.1 h).2]
 rw [e, lastOf_snoc, e2, pairs]
structure IN (w : World) (f : Nat) (l : List Run) (g1 g2 g4 g6 : Nat) (xs : List Nat) (k : Nat) (W : World) : Prop where
 ns : NS g1 xs W
 r2 : Cs W g2 85 [.int .i64 0, .slice none 0 0]
 b4 : Bx W g4 4 (.bool true)
 x6 : ∃ A c q, Cs W g6 85 [.int .i64 f, .slice A k c] /\ (l.take k).length = k /\ Ow Rv W w.heap.size q A c (l.take k)
 ch : Ch [] w W
theorem IN.keep {w : World} {f : Nat} {l : List Run} {g1 g2 g4 g6 : Nat} {xs : List Nat} {k : Nat} {W W' : World} (h : IN w f l g1 g2 g4 g6 xs k W) {F : List Nat} (hc : Ch F W W') (hF : ∀ k, k ∈ F -> W.heap.size <= k) : IN w f l g1 g2 g4 g6 xs k W' := by
 obtain ⟨h1, h2, h3, ⟨A, c, q, h4, h5, h6⟩, h7⟩ := h
 have nf : ∀ {g : Nat}, g < W.heap.size -> g ∉ F := fun hg hm => by have := hF _ hm; omega
 exact ⟨h1.keep hc (fun k hk => .inl (hF k hk)), h2.keep hc (nf h2.lt), h3.keep hc (nf h3.lt), ⟨A, c, q, h4.keep hc (nf h4.lt), h5, h6.keep hc (fun k hk => nf (h6.size k hk).2)⟩, h7.trans hc (fun k hk => .inr (Nat.le_trans h7.size (hF k hk)))⟩
theorem IN.next {w : World} {f : Nat} {l : List Run} {g1 g2 g4 g6 x : Nat} {xs : List Nat} {k : Nat} {W : World} (h : IN w f l g1 g2 g4 g6 (x :: xs) k W) (hg1 : w.heap.size <= g1) (most : Nat) (hx : x <= most) :
   Calls Tryz.prog 94 #[.int .u64 most, .pointer (some ⟨g1, 0, none⟩), .pointer (some ⟨g4, 0, none⟩)] W fun e w' => e = .returned (.int .u64 x) /\ IN w f l g1 g2 g4 g6 xs k w' := by
 obtain ⟨h1, h2, h3, ⟨A, c, q, h4, h5, h6⟩, h7⟩ := h
 refine (next_calls g1 g4 most x xs hx W h1).mono ?_
 rintro e w' ⟨rfl, hN, hC⟩
 obtain ⟨A9, m9, c9, hb, -⟩ := h1
 have ne : ∀ {g : Nat} {cur : Array Value} {T : TypeId}, W.heap[g]? = some (.cells cur T (0, 0)) -> T ≠ 153 -> g ∉ [g1] := fun hg hT hm => by
   simp at hm
   subst hm
   rw [show W.heap[_]? = _ from hb] at hg
   cases hg
   exact hT rfl
 refine ⟨rfl, hN, h2.keep hC (ne h2 (by decide)), h3.keep hC (ne h3 (by decide)), ⟨A, c, q, h4.keep hC (ne h4 (by decide)), h5, h6.keep hC (fun k hk => ?_)⟩, h7.trans hC (fun k hk => .inr (by simp at hk; subst hk; exact hg1))⟩
 rw [hk] at h6
 obtain ⟨cur, hb6⟩ := h6.blk
 exact ne hb6 (by decide)
theorem IN.grow {w : World} {f : Nat} {l : List Run} {g1 g2 g4 g6 : Nat} {xs : List Nat} {k k' : Nat} {W W' W2 : World} (h : IN w f l g1 g2 g4 g6 xs k W) {A A' : Option Addr} {c c' : Nat} {q q' : Option Nat}
   (hX : Cs W g6 85 [.int .i64 f, .slice A k c]) (hO : Ow Rv W w.heap.size q A c (l.take k)) (hc : Ch q.toList W W') (hO' : Ow Rv W' w.heap.size q' A' c' (l.take k')) (hd : Cs W2 g6 85 [.int .i64 f, .slice A' k' c']) (hc2 : Ch [g6] W' W2) (hg : g2 ≠ g6) (hlen : (l.take k').length = k') (hb : w.heap.size <= g6) :
   IN w f l g1 g2 g4 g6 xs k' W2 := by
 obtain ⟨h1, h2, h3, -, h7⟩ := h
 have n1 : ∀ {g : Nat} {cur : Array Value} {T : TypeId}, W.heap[g]? = some (.cells cur T (0, 0)) -> T ≠ 93 -> g ∉ q.toList := fun hg hT hm => by
   rw [Option.mem_toList] at hm
   exact hO.ne hg (fun e => hT e.symm) hm
 have X' := hX.keep hc (n1 hX (by decide))
 have n2 : ∀ {g : Nat} {cur : Array Value} {T : TypeId}, W'.heap[g]? = some (.cells cur T (0, 0)) -> T ≠ 85 -> g ∉ [g6] := fun hg hT hm => by
   have hm' := List.mem_singleton.1 hm
   rw [hm', show W'.heap[g6]? = _ from X'] at hg
   cases hg
   exact hT rfl
 have h3' := h3.keep hc (n1 h3 (by decide))
 refine ⟨(h1.keep hc (fun k hk => ?_)).keep hc2 (fun k hk => ?_), (h2.keep hc (n1 h2 (by decide))).keep hc2 (by simp; exact hg), h3'.keep hc2 (n2 h3' (by decide)), ⟨A', c', q', hd, hlen, hO'.keep hc2 (fun k hk => ?_)⟩, (h7.trans hc (fun k hk => ?_)).trans hc2 (fun k hk => by simp at hk; subst hk; exact .inr hb)⟩
 · have hk' := hk
   rw [Option.mem_toList] at hk'
   rw [hk'] at hO
   obtain ⟨cur, hbk⟩ := hO.blk
   exact .inr ⟨cur, 93, hbk, by decide⟩
 · simp at hk
   subst hk
   exact .inr ⟨_, 85, X', by decide⟩
 · rw [hk] at hO'
   obtain ⟨cur, hbk⟩ := hO'.blk
   exact n2 hbk (by decide)
 · rw [Option.mem_toList] at hk
   exact .inr (hO.size k hk).1
set_option maxRecDepth 100000 in
theorem inside_calls (f : Nat) (A : Option Addr) (c m p : Nat) (l : List Run) (hm : l.length = m) (hk : Ok f l) (w : World) (h : Rd Uv w A c ((nums f m l).map (fun n : Nat => (n : Int)))) (hp : (nums f m l).length = p) (hA : ∀ g' o s, A = some ⟨g', o, s⟩ -> ∃ cur, w.heap[g']? = some (.cells cur 137 (0, 0))) :
   Calls Tryz.prog 75 #[.slice A p c] w fun e w' => ∃ A' c' q', e = .returned (.tuple #[.agg #[.int .i64 f, .slice A' m c'], .bool true]) /\ Ow Rv w' w.heap.size q' A' c' l /\ Ch [] w w' := by
 have hmf : ∀ (fn : Fn) (first cap : Array Value) (w : World), (Instr.makeFunc fn first cap).run Tryz.prog w = .ok (.func fn first cap) w := fun _ _ _ _ => rfl
 have hends := hk.ends
 have htot : 0 <= Pl.tot l := by have := Pl.ex_len l (fun x hx => by have := (hk.rgt x hx).1; omega); omega
 have hm2 : m <= 4096 := by rw [<- hm]; exact hk.len
 have hf : f <= 1000000 := by omega
 have HM := Ad hm
 have HK := Ad hk
 have H := Ad h
 have HP := Ad hp
 have HA := Ad hA
 clear h hm hk hends htot hp hA
 go_enter Tryz.func75, Tryz.ntmps75
 go_wp2_with fail
 have b1 := Bx.new w (.slice A p c) 153
 have b2 := Cs.new (w.alloc (.cells #[.slice A p c] 153)) [Value.int .i64 0, .slice none 0 0] 85
 have b4 := Bx.new ((w.alloc (.cells #[.slice A p c] 153)).alloc (.cells #[Value.int .i64 0, .slice none 0 0] 85)) (.bool true) 4
 have a1 := (Ch.refl [] w).alloc (.cells #[.slice A p c] 153)
 have a2 := (Ch.refl [] (w.alloc (.cells #[.slice A p c] 153))).alloc (.cells #[Value.int .i64 0, .slice none 0 0] 85)
 have a3 := (Ch.refl [] ((w.alloc (.cells #[.slice A p c] 153)).alloc (.cells #[Value.int .i64 0, .slice none 0 0] 85))).alloc (.cells #[.bool true] 4)
 simp only [World.size_alloc] at b2 b4
 obtain ⟨w3, hw3⟩ : ∃ w3, ((w.alloc (.cells #[.slice A p c] 153)).alloc (.cells #[Value.int .i64 0, .slice none 0 0] 85)).alloc (.cells #[.bool true] 4) = w3 := ⟨_, rfl⟩
 have HW := Ad hw3
 have C3 := Ad (show Ch [] w w3 from by rw [<- hw3]; exact (a1.then a2).then a3)
 have Y1 := (b1.keep a2 (by simp)).keep a3 (by simp)
 have Y2 := b2.keep a3 (by simp)
 rw [hw3] at Y1 Y2 b4
 have X2 := Ad Y2
 have X4 := Ad b4
 have N3 := Ad (show NS w.heap.size (nums f m l) w3 from ⟨A, p, c, Y1, HP.out, H.out.on C3.out, fun g' o s e => by
   obtain ⟨cur, hb⟩ := HA.out g' o s e
   exact ⟨cur, C3.out.blk hb (by simp)⟩⟩)
 clear b1 b2 b4 a1 a2 a3 hw3 Y1 Y2
 rw [HW.out]
 refine (next_calls w.heap.size (w.heap.size + 1 + 1) 1073741824 f (m :: pairs 4294967295 l) (by omega) w3 N3.out).mono ?_
 rintro e w4 ⟨rfl, hN4, hC4⟩
 have N4 := Ad hN4
 have X2b := Ad (X2.out.keep hC4 (by simp))
 have X4b := Ad (X4.out.keep hC4 (by simp <;> omega))
 have C4 := Ad (show Ch [] w w4 from C3.out.trans hC4 (fun y hy => by simp at hy; subst hy; exact .inr (Nat.le_refl _)))
 have hfw : IntKind.i64.wrap (f : Int) = (f : Int) := IntWalk.i64_in _ (by omega)
 clear hN4 hC4 HW N3 X2 X4 C3
 have DN := Ad (Cs.new w4 [Value.int .i64 0, .slice none 0 0] 85)
 have CN := Ad ((Ch.refl [] w4).alloc (.cells [Value.int .i64 0, .slice none 0 0].toArray 85))
 go_wp2_with (refine wpList_store_all rfl 85 (.tmp 6) (.tmp 14) rfl [Value.int .i64 f, .slice none 0 0] (by rfl) (by rfl) DN.out rfl size85 (by simp [Value.oneCell']) ?_)
 intro w5 h5 c5
 have I5 := Ad (show IN w f l w.heap.size (w.heap.size + 1) (w.heap.size + 1 + 1) w4.heap.size (m :: pairs 4294967295 l) 0 w5 from by
   have hc := CN.out.trans c5 (by simp)
   exact ⟨N4.out.on hc, X2b.out.on hc, X4b.out.keep hc (by simp), ⟨none, 0, none, h5, rfl, Ow.nil Rv _ _⟩, C4.out.then hc⟩)
 have hg6 : w.heap.size + 1 + 1 < w4.heap.size := X4b.out.lt
 clear h5 c5 DN CN N4 X2b X4b C4
 go_wp2_with fail
 refine (I5.out.next (Nat.le_refl _) 4096 hm2).mono ?_
 rintro e w6 ⟨rfl, h6⟩
 have I6 := Ad h6
 have hmw : IntKind.i64.wrap (m : Int) = (m : Int) := IntWalk.i64_in _ (by omega)
 obtain ⟨g6, hG6⟩ : ∃ g6, w4.heap.size = g6 := ⟨_, rfl⟩
 rw [hG6] at I6 hg6 ⊢
 clear h6 I5 hG6
 go_wp2
 go_loopw [8, 19] (fun la i wr => ∃ k : Nat, k <= m /\ i = .int .i64 k /\ la = .int .u32 (lastOf 4294967295 (l.take k) : Nat) /\ Aside0 (IN w f l w.heap.size (w.heap.size + 1) (w.heap.size + 1 + 1) g6 (pairs (lastOf 4294967295 (l.take k)) (l.drop k)) k wr)) (fun _ i _ => m - (intOf i).toNat)
 case atStart => exact ⟨0, by omega, rfl, rfl, I6⟩
 case round =>
   obtain ⟨k, hk, rfl, rfl, IK⟩ := hrel
   by_cases hlt : k < m
   · obtain ⟨x, hx⟩ : ∃ x, l[k]? = some x := ⟨_, List.getElem?_eq_getElem (by rw [HM.out]; exact hlt)⟩
     have hxm := List.mem_of_getElem? hx
     obtain ⟨hx1, hx2, hxb⟩ := HK.out.rgt x hxm
     obtain ⟨hd1, hd2⟩ := HK.out.drv x hxm
     obtain ⟨xn, hxn⟩ : ∃ xn : Nat, x.n = xn := ⟨x.n.toNat, by omega⟩
     obtain ⟨xd, hxd⟩ : ∃ xd : Nat, x.drv = xd := ⟨x.drv.toNat, by omega⟩
     have hll := lastOf_lt (l.take k) 4294967295 (by omega) (fun r hr => HK.out.drv r (List.mem_of_mem_take hr))
     have hxr : xd ^^^ lastOf 4294967295 (l.take k) < 4294967296 := Nat.xor_lt_two_pow (n := 32) (by omega) (by omega)
     have eo := u32_xor_nat (xd ^^^ lastOf 4294967295 (l.take k)) (lastOf 4294967295 (l.take k)) hxr hll
     rw [xor_back] at eo
     have LS := Ad (show lastOf 4294967295 (l.take (k + 1)) = xd from by rw [List.take_add_one, hx, Option.toList_some, lastOf_snoc, hxd]; rfl)
     have TK := Ad (show l.take (k + 1) = l.take k ++ [x] from by rw [List.take_add_one, hx, Option.toList_some])
     have PD := Ad (pairs_drop l 4294967295 k x hx)
     rw [hxn, hxd, Int.toNat_natCast, Int.toNat_natCast] at PD
     have IA := Ad (show IN w f l w.heap.size (w.heap.size + 1) (w.heap.size + 1 + 1) g6 (xn :: (xd ^^^ lastOf 4294967295 (l.take k)) :: pairs (lastOf 4294967295 (l.take (k + 1))) (l.drop (k + 1))) k wr from by rw [<- PD.out]; exact IK.out)
     have k0 : (0 : Int) <= (k : Int) := by omega
     have k1 : (k : Int) < (m : Int) := by omega
     have hnw : IntKind.i64.wrap (xn : Int) = (xn : Int) := IntWalk.i64_in _ (by omega)
     have hvw : IntKind.u32.wrap ((xd ^^^ lastOf 4294967295 (l.take k) : Nat) : Int) = ((xd ^^^ lastOf 4294967295 (l.take k) : Nat) : Int) := by
       rw [IntKind.wrap_u32]
       omega
     have ha1 : xn <= 1073741824 := by omega
     have ha2 : (xd ^^^ lastOf 4294967295 (l.take k)) <= 4294967295 := by omega
     have HX := Ad (show x = ⟨(xn : Int), (if xd = 4294967295 then 1 else 0 : Int), (xd : Int)⟩ from by
       rcases x with ⟨a, b, d⟩
       simp only at hxn hxd hxb
       subst hxn hxd
       rw [hxb]
       congr 1
       by_cases e : xd = 4294967295
       · rw [if_pos e, if_pos (by omega)]
       · rw [if_neg e, if_neg (by omega)])
     clear hx hxm hx1 hx2 hxb hd1 hd2 hxn hxd IK PD hll
     generalize hla : lastOf 4294967295 (l.take k) = la at *
     generalize hxv : xd ^^^ la = xv at *
     clear hla hxv
     go_wp2_with fail
     refine (IA.out.next (Nat.le_refl _) 1073741824 ha1).mono ?_
     rintro e w7 ⟨rfl, h7⟩
     have I7 := Ad h7
     clear h7 IA
     go_wp2_with fail
     refine (I7.out.next (Nat.le_refl _) 4294967295 ha2).mono ?_
     rintro e w8 ⟨rfl, h8⟩
     have I8 := Ad h8
     have DN := Ad (Cs.new w8 [Value.int .i64 0, .int .i64 0, .int .u32 0] 93)
     have CN := Ad ((Ch.refl [] w8).alloc (.cells [Value.int .i64 0, .int .i64 0, .int .u32 0].toArray 93))
     clear h8 I7
     go_wp2_with (refine wpList_store_all rfl 93 (.tmp 9) (.tmp 29) rfl [Value.int .i64 xn, .int .i64 0, .int .u32 xd] (by rfl) (by rfl) DN.out rfl size93 (by simp [Value.oneCell']) ?_)
     intro w9 h9 c9
     have C9 := Ad (show Ch [] w8 w9 from CN.out.trans c9 (by simp))
     have D9 := Ad h9
     have d2 : w9.cell? ⟨w8.heap.size, 2, none⟩ = some (.int .u32 xd) := h9.cell rfl
     have l9 := h9.lt
     clear h9 c9 DN CN
     obtain ⟨g9, hG9⟩ : ∃ g9, w8.heap.size = g9 := ⟨_, rfl⟩
     rw [hG9] at D9 d2 l9 ⊢
     have G9 := Ad (show w8.heap.size <= g9 from by omega)
     clear hG9
     rcases Decidable.em (xd = 4294967295) with hxa | hxa
     case' inl =>
       have t1 : ((xd : Int) == 4294967295) = true := by rw [beq_iff_eq]; omega
       have HX2 := Ad (show x = ⟨(xn : Int), 1, (xd : Int)⟩ from by rw [HX.out, if_pos hxa])
       clear hxa HX
       go_wp2_with (refine wpList_put_Cs rfl 3 (.tmp 34) _ rfl 1 (.int .i64 1) (by rfl) (by rfl) size3 rfl D9.out (show 1 < 3 by decide) ?_)
       intro w10 h10 c10
       have D10 := Ad (show Cs w10 g9 93 [.int .i64 xn, .int .i64 1, .int .u32 xd] from h10)
       have I10 := Ad (I8.out.keep (C9.out.any.then c10) (fun k hk => by rw [List.mem_singleton.1 hk]; exact G9.out))
       clear h10 c10 d2 D9 C9
       generalize (1 : Int) = xb at HX2 D10
     case' inr =>
       have t1 : ((xd : Int) == 4294967295) = false := by rw [beq_eq_false_iff_ne]; omega
       have HX2 := Ad (show x = ⟨(xn : Int), 0, (xd : Int)⟩ from by rw [HX.out, if_neg hxa])
       have I10 := Ad (I8.out.keep C9.out (by simp))
       have D10 := D9
       clear hxa HX D9 C9
       go_upto_region 12 with (fail)
       generalize (0 : Int) = xb at HX2 D10
       generalize w9 = w10 at *
     all_goals
       obtain ⟨A3, c3, q3, h3, hl3, hO3⟩ := I10.out.x6
       have y1 : w10.cell? ⟨g6, 1, none⟩ = some (.slice A3 k c3) := h3.cell rfl
       have ly := h3.lt
       have X6 := Ad h3
       have L3 := Ad hl3
       have O3 := Ad hO3
       have CA := Ad ((Ch.refl [] w10).alloc (.cells [Value.int .i64 xn, .int .i64 xb, .int .u32 xd].toArray 93))
       have YW := Ad (Ow.lit Rv w10 [(⟨xn, xb, xd⟩ : Run)] [Value.int .i64 xn, .int .i64 xb, .int .u32 xd].toArray (by rfl) (by decide : 1 <= maxLen)).rd
       have OW := Ad (hO3.on CA.out)
       have BW := Ad (Nat.le_trans I10.out.ch.size CA.out.size)
       clear h3 hl3 hO3
       go_wp2_with (first | refine wpList_load_Cs rfl 93 (.tmp 9) rfl 0 [Value.int .i64 xn, .int .i64 xb, .int .u32 xd] (by rfl) D10.out (fun j v hv => by rwa [Nat.zero_add]) Tryz.underlying93 rfl size93 ?_ | (at_builtin; refine wpList_append_Ow rfl (.tmp 36) (.tmp 38) 39 (by rfl) (by rfl) (some ⟨w10.heap.size, 0, none⟩) 1 1 [(⟨xn, xb, xd⟩ : Run)] (by rfl) (by rfl) L3.out OW.out YW.out rfl (by show (k + 1) * 24 <= _; omega) BW.out ?_))
       intro A5 c5 q5 w11 hO5 hC5 hq5
       have Z6 := Ad ((X6.out.on CA.out).keep hC5 (fun hm => by rw [Option.mem_toList] at hm; exact OW.out.ne (X6.out.on CA.out) (by decide) hm))
       have O5 := Ad hO5
       have C5 := Ad hC5
       have TL := Ad (show (l.take (k + 1)).length = k + 1 from by rw [List.length_take, HM.out]; omega)
       have hzl := Z6.out.lt
       clear hO5 hC5 hq5 y1 ly
       go_wp2_with (refine wpList_put_Cs rfl 39 (.tmp 40) (.tmp 39) rfl 1 (.slice A5 (k + 1) c5) (by rfl) (by rfl) size39 rfl Z6.out (show 1 < 2 by decide) ?_)
       intro w12 h12 c12
       have I12 := Ad ((I10.out.keep CA.out (by simp)).grow (k' := k + 1) (X6.out.on CA.out) OW.out C5.out (by rw [TK.out, HX2.out]; exact O5.out) h12 c12 (by omega) TL.out (by omega))
       clear h12 c12 CA YW OW BW X6 O3 Z6 O5 C5 hzl I10 D10
       go_wp2_with fail
       go_roundw
       case rel => exact ⟨k + 1, by omega, by go_num, by rw [LS.out], I12⟩
       case measure => simp [intOf]; omega
   · have hkm : k = m := by omega
     subst hkm
     have e : l.take k = l := List.take_of_length_le (by rw [HM.out]; exact Nat.le_refl _)
     have e2 : l.drop k = [] := List.drop_eq_nil_of_le (by rw [HM.out]; exact Nat.le_refl _)
     have IK2 := IK.out
     rw [e, e2] at IK2
     obtain ⟨⟨A1, m1, c1, hb1, hl1, -, -⟩, hr2, hb4, ⟨A3, c3, q3, h3, -, hO3⟩, hch⟩ := IK2
     rw [e] at hO3
     obtain rfl : m1 = 0 := by rw [<- hl1]; rfl
     have z1 := hb1.cell
     have z4 := hb4.cell
     have z60 : wr.cell? ⟨g6, 0, none⟩ = some (.int .i64 f) := h3.cell rfl
     have z61 : wr.cell? ⟨g6, 1, none⟩ = some (.slice A3 k c3) := h3.cell rfl
     have z20 : wr.cell? ⟨w.heap.size + 1, 0, none⟩ = some (.int .i64 0) := hr2.cell rfl
     have z21 : wr.cell? ⟨w.heap.size + 1, 1, none⟩ = some (.slice none 0 0) := hr2.cell rfl
     have l1 := hb1.lt
     have l2 := hr2.lt
     have l4 := hb4.lt
     have l6 := h3.lt
     have R2 := Ad hr2
     have O3 := Ad hO3
     have CW := Ad hch
     have CK := Ad (fun (W : World) (hc : Ch [w.heap.size + 1] wr W) => check_calls f A3 c3 k l HM.out HK.out W (hO3.keep hc (fun j hj hm => by
       rw [List.mem_singleton.1 hm] at hj
       exact hO3.ne hr2 (by decide) hj)).rd)
     have SK := Ad (fun (W' : World) (hc : Ch [w.heap.size + 1] wr W') => (⟨hc.cell z60 (by simp; omega), hc.cell z61 (by simp; omega), hc.cell z4 (by simp), hc.cell z1 (by simp), ⟨hc⟩⟩ : W'.cell? ⟨g6, 0, none⟩ = some (.int .i64 f) /\ W'.cell? ⟨g6, 1, none⟩ = some (.slice A3 k c3) /\ W'.cell? ⟨w.heap.size + 1 + 1, 0, none⟩ = some (.bool true) /\ W'.cell? ⟨w.heap.size, 0, none⟩ = some (.slice A1 0 c1) /\ Aside0 (Ch [w.heap.size + 1] wr W')))
     clear hb1 hl1 hr2 hb4 h3 hO3 hch e e2 IK I6 H HP HA
     go_wp2_with fail
     go_region_held3 (fun W' => W'.cell? ⟨g6, 0, none⟩ = some (.int .i64 f) /\ W'.cell? ⟨g6, 1, none⟩ = some (.slice A3 k c3) /\ W'.cell? ⟨w.heap.size + 1 + 1, 0, none⟩ = some (.bool true) /\ W'.cell? ⟨w.heap.size, 0, none⟩ = some (.slice A1 0 c1) /\ Aside0 (Ch [w.heap.size + 1] wr W'))
       (exact SK.out _ (by repeat (first | exact CQ.out | exact (Ch.refl _ _).drew | refine Ch.set ?_ _ _ (.inl (by simp)))))
       ((first
         | (go_at_call 85
            have CP := Ad (show Ch [w.heap.size + 1] wr _ from (by repeat (first | exact CQ.out | exact (Ch.refl _ _).drew)))
            refine (CK.out _ CP.out).mono ?_
            rintro e w9 ⟨rfl, hC9⟩
            have R9 := Ad (R2.out.on (((Ch.refl [] wr).drew).then hC9))
            have CQ := Ad (CP.out.then hC9.any)
            have y20 : w9.cell? ⟨w.heap.size + 1, 0, none⟩ = some (.int .i64 0) := R9.out.cell rfl
            have y21 : w9.cell? ⟨w.heap.size + 1, 1, none⟩ = some (.slice none 0 0) := R9.out.cell rfl
            have yf0 := R9.out.free 0
            have yf1 := R9.out.free 1
            have CN9 := Ad (((Ch.refl [] wr).drew).then hC9)
            clear hC9)
         | fail))
     go_wp2
     have hd := (R9.out.set 0 (.int .i64 f)).set 1 (.slice A3 k c3)
     have hs := ((Ch.refl [w.heap.size + 1] w9).set ⟨w.heap.size + 1, 0, none⟩ (.int .i64 f) (.inl (by simp))).set ⟨w.heap.size + 1, 1, none⟩ (.slice A3 k c3) (.inl (by simp))
     refine bodyPost_ret (v := .tuple #[.agg #[.int .i64 f, .slice A3 k c3], .bool true]) ?_ rfl ?_
     · exact results_list (rs := [.cell 2 85, .tmp 3]) rfl (by simp) (.cell (w.heap.size + 1) 85 _ (0, 0) _ rfl hd Tryz.underlying85 rfl size85 (.tmp .nil))
     · exact ⟨A3, c3, q3, rfl, (O3.out.on CN9.out).keep hs (fun j hj hm => by rw [List.mem_singleton.1 hm] at hj; exact (O3.out.on CN9.out).ne R9.out (by decide) hj), (CW.out.then CN9.out).trans hs (fun y hy => by rw [List.mem_singleton.1 hy]; exact .inr (by omega))⟩
end Bl
namespace Bl
set_option maxRecDepth 100000 in
theorem get_nil (A : Option Addr) (c : Nat) (w : World) :
   Calls Tryz.prog 50 #[.slice A 0 c] w fun e w' => e = .returned (.tuple #[.agg #[.int .i64 0, .slice none 0 0], .int .i64 0, .int .i64 13]) /\ Ch [] w w' := by
 have SZ := Ad (fun w => size_nil c A w)
 have B0 := Ad (Cs.new w [Value.int .i64 0, .slice none 0 0] 85)
 have C0 := Ad ((Ch.refl [] w).alloc (.cells [Value.int .i64 0, .slice none 0 0].toArray 85))
 go_enter Tryz.func50, Tryz.ntmps50
 go_wp2_with fail
 refine (SZ.out _).mono ?_
 rintro e w2 ⟨rfl, rfl⟩
 go_wp2_with (refine wpList_store_all rfl 85 (.tmp 2) (.tmp 23) rfl [Value.int .i64 0, .slice none 0 0] (by rfl) (by rfl) B0.out rfl size85 (by simp [Value.oneCell']) ?_; intro w2 hd hc)
 refine bodyPost_ret (v := .tuple #[.agg #[.int .i64 0, .slice none 0 0], .int .i64 0, .int .i64 13]) ?_ rfl ?_
 · exact results_list (rs := [.cell 2 85, .tmp 3, .tmp 4]) rfl (by simp) (.cell w.heap.size 85 _ (0, 0) _ rfl hd Tryz.underlying85 rfl size85 (.tmp (.tmp .nil)))
 · exact ⟨rfl, C0.out.trans hc (by simp)⟩
theorem bytes_len {f : Nat} {l : List Run} : (bytes f l).length = (Vr.Pl.put (Vr.Pl.row (nums f l.length l)).length).length + (Vr.Pl.row (nums f l.length l)).length + 4 := by
 rw [bytes, Sm.Pl.sealed_len, List.length_append]
set_option maxRecDepth 100000 in
theorem get_calls (f : Nat) (A : Option Addr) (c m n : Nat) (l : List Run) (rest : List Int) (hm : l.length = m) (hm9 : m <= 1000) (hk : Ok f l) (hr : ∀ x ∈ rest, 0 <= x /\ x < 256) (hn : (bytes f l ++ rest).length = n) (w : World) (h : Rd By w A c (bytes f l ++ rest)) :
   Calls Tryz.prog 50 #[.slice A n c] w fun e w' => ∃ A' c' q', e = .returned (.tuple #[.agg #[.int .i64 f, .slice A' m c'], .int .i64 ((bytes f l).length : Nat), .int .i64 0]) /\ Ow Rv w' w.heap.size q' A' c' l /\ Ch [] w w' := by
 have hends := hk.ends
 have htot : 0 <= Pl.tot l := by have := Pl.ex_len l (fun x hx => by have := (hk.rgt x hx).1; omega); omega
 have hf : f <= 1000000 := by omega
 have hcap := h.cap
 rw [hn] at hcap
 have hlen := h.len63 hn
 obtain ⟨R, hR⟩ : ∃ R, Vr.Pl.row (nums f m l) = R := ⟨_, rfl⟩
 obtain ⟨r, hrl⟩ : ∃ r, R.length = r := ⟨_, rfl⟩
 have hNL := nums_lt (f := f) (m := m) (by omega) (by omega) hk.rgt hk.drv
 have hr9 : r <= 20 * m + 20 := by
   have := row_le (f := f) (m := m) (l := l) (by omega) (by omega) hk.rgt hk.drv
   rw [hm, hR, hrl] at this
   exact this
 have hRB : ∀ x ∈ R, 0 <= x /\ x < 256 := by rw [<- hR]; exact Vr.Pl.row_rng _
 have hb : bytes f l = Sm.Pl.sealed (Vr.Pl.put r ++ R) := by rw [bytes, hm, hR, hrl]
 obtain ⟨k, hkp⟩ : ∃ k, (Vr.Pl.put r).length = k := ⟨_, rfl⟩
 have hN : (bytes f l).length = k + r + 4 := by rw [hb, Sm.Pl.sealed_len, List.length_append, hkp, hrl]
 have hkr : (Vr.Pl.put r ++ R).length = k + r := by rw [List.length_append, hkp, hrl]
 have hPB : ∀ x ∈ Vr.Pl.put r ++ R, 0 <= x /\ x < 256 := fun x hx => (List.mem_append.1 hx).elim (Vr.put_rng r x) (hRB x)
 have hnN : k + r + 4 <= n := by rw [<- hn, List.length_append, hN]; omega
 have hk10 := Vr.put_ten (n := r) (by omega)
 rw [hkp] at hk10
 have e1 : bytes f l ++ rest = Vr.Pl.put r ++ (R ++ Sm.Pl.tl (Sm.Pl.sum (Vr.Pl.put r ++ R)) ++ rest) := by rw [hb, Sm.Pl.sealed]; simp only [List.append_assoc]
 have SZ := Ad (fun (W : World) (hc : Ch [] w W) => size_calls r (by omega) A c n _ (by rw [<- e1]; exact hn) (fun x hx => by
   rcases List.mem_append.1 hx with hx | hx
   · rcases List.mem_append.1 hx with hx | hx
     · exact hRB x hx
     · exact Sm.Pl.tl_byte _ x hx
   · exact hr x hx) W (by rw [<- e1]; exact h.on hc))
 have cut1 := cut_take By 64 rfl A c (k + r + 4) n hnN hcap
 have e2 : (bytes f l ++ rest).take (k + r + 4) = Sm.Pl.sealed (Vr.Pl.put r ++ R) := by rw [<- hN, List.take_left, hb]
 have OP := Ad (fun (W : World) (hc : Ch [] w W) => Sm.open_calls A c (k + r) (k + r + 4) (Vr.Pl.put r ++ R) hkr rfl (by omega) hPB W (by
   have := (h.on hc).take (k + r + 4)
   rwa [e2] at this))
 have hgp := Vr.Pl.get_put r (by omega) R
 rw [hkp] at hgp
 have GT := Ad (fun (W : World) (A2 : Option Addr) (c2 : Nat) (h2 : Rd By W A2 c2 (Vr.Pl.put r ++ R)) => Vr.get_calls A2 c2 (k + r) _ hkr hPB W h2)
 rw [hgp] at GT
 dsimp only at GT
 rw [hkp] at SZ
 have AL := Ad (fun (W : World) (A2 : Option Addr) (c2 : Nat) (h2 : Rd By W A2 c2 R) => Vr.all_calls A2 c2 r (nums f m l) hNL (by simp only [nums, List.length_cons, pairs_len]; omega) (by rw [hR]; exact hrl) W (by rw [hR]; exact h2))
 have DR := Ad (show (Vr.Pl.put r ++ R).drop k = R from by rw [<- hkp, List.drop_left])
 have NL := Ad (show (nums f m l).length = 2 * m + 2 from by simp only [nums, List.length_cons, pairs_len, hm])
 have HN := Ad hN
 have HM := Ad hm
 have HK := Ad hk
 have HKR := Ad hkr
 have hkw : ((k + r + 4 : Nat) : Int) <= (n : Int) := by omega
 have B0 := Ad (Cs.new w [Value.int .i64 0, .slice none 0 0] 85)
 have C0 := Ad ((Ch.refl [] w).alloc (.cells [Value.int .i64 0, .slice none 0 0].toArray 85))
 clear hends htot h hm hk hr hn hcap hNL hRB hb hN hkr hPB e1 e2 hgp hR hrl hkp
 obtain ⟨N, hN4⟩ : ∃ N, k + r + 4 = N := ⟨_, rfl⟩
 have HN4 := Ad hN4
 have hnN2 : ¬ (n : Int) < (N : Int) := by omega
 have hN0 : (0 : Int) <= (N : Int) := by omega
 have hk0 : (0 : Int) <= (k : Int) := by omega
 rw [hN4] at SZ OP cut1 HN
 clear hN4 hkw
 go_enter Tryz.func50, Tryz.ntmps50
 go_wp2_with fail
 refine (SZ.out _ C0.out).mono ?_
 rintro e w2 ⟨rfl, rfl⟩
 clear SZ
 go_wp2_with fail
 refine (OP.out _ C0.out).mono ?_
 rintro e w3 ⟨A3, c3, q3, rfl, hO3, hC3⟩
 have O3 := Ad hO3
 have C3 := Ad (C0.out.then hC3)
 have B3 := Ad (B0.out.on hC3)
 clear hO3 hC3 OP B0 C0
 go_wp2_with fail
 refine (GT.out _ A3 c3 O3.out.rd).mono ?_
 rintro e w4 ⟨rfl, rfl⟩
 clear GT
 obtain ⟨A4, cut2, k2, -⟩ := cut_drop By 64 rfl A3 c3 k (k + r) (by omega) (by have := O3.out.cap; rw [HKR.out] at this; exact this)
 have R4 := Ad (k2 w3 _ HKR.out O3.out.rd)
 rw [DR.out] at R4
 rw [show k + r - k = r by omega] at cut2
 obtain ⟨kr, hkr⟩ : ∃ kr, k + r = kr := ⟨_, rfl⟩
 rw [hkr] at cut2 ⊢
 clear k2 hkr
 go_wp2_with fail
 refine (AL.out _ A4 (c3 - k) R4.out).mono ?_
 rintro e w5 ⟨A5, c5, q5, p5, rfl, hp5, hO5, hC5⟩
 have O5 := Ad hO5
 have P5 := Ad hp5
 have C5 := Ad (C3.out.then hC5)
 have B5 := Ad (B3.out.on hC5)
 clear hO5 hC5 hp5 AL C3 B3 cut1 cut2
 go_wp2_with fail
 refine (inside_calls f A5 c5 m p5 l HM.out HK.out w5 O5.out.rd P5.out (fun g' o s e => by
   rcases O5.out.addr with ⟨h1, _⟩ | ⟨g, h1, h2⟩
   · rw [h1] at e; cases e
   · rw [h1] at e
     cases e
     have h9 := O5.out
     rw [h2] at h9
     exact h9.blk)).mono ?_
 rintro e w6 ⟨A6, c6, q6, rfl, hO6, hC6⟩
 have O6 := Ad hO6
 have C6 := Ad (C5.out.then hC6)
 have B6 := Ad (B5.out.on hC6)
 have S5 := Ad C5.out.size
 clear hO6 hC6 C5 B5 O5 P5
 have D0 := Ad (Cs.new w6 [Value.int .i64 0, .slice none 0 0] 85)
 have E0 := Ad ((Ch.refl [] w6).alloc (.cells [Value.int .i64 0, .slice none 0 0].toArray 85))
 go_wp2_with (refine wpList_store_all rfl 85 (.tmp 13) (.tmp 59) rfl [Value.int .i64 f, .slice A6 m c6] (by rfl) (by rfl) D0.out rfl size85 (by simp [Value.oneCell']) ?_)
 intro w7 h7 c7
 have X7 := Ad h7
 have C67 := Ad (E0.out.trans c7 (by simp))
 have B7 := Ad (B6.out.on C67.out)
 clear h7 c7 D0 E0
 go_wp2_with (first | refine wpList_load_Cs rfl 85 (.tmp 13) rfl 0 [Value.int .i64 f, .slice A6 m c6] (by rfl) X7.out (fun j v hv => by rwa [Nat.zero_add]) Tryz.underlying85 rfl size85 ?_ | (refine wpList_store_all rfl 85 (.tmp 2) (.tmp 68) rfl [Value.int .i64 f, .slice A6 m c6] (by rfl) (by rfl) B7.out rfl size85 (by simp [Value.oneCell']) ?_; intro w8 hd hc))
 refine bodyPost_ret (v := .tuple #[.agg #[.int .i64 f, .slice A6 m c6], .int .i64 N, .int .i64 0]) ?_ rfl ?_
 · exact results_list (rs := [.cell 2 85, .tmp 3, .tmp 4]) rfl (by simp) (.cell w.heap.size 85 _ (0, 0) _ rfl hd Tryz.underlying85 rfl size85 (.tmp (.tmp .nil)))
 · rw [HN.out]
   have h8 := S5.out
   exact ⟨A6, c6, q6, rfl, ((O6.out.on C67.out).keep hc (fun j hj hm => by rw [List.mem_singleton.1 hm] at hj; exact (O6.out.on C67.out).ne B7.out (by decide) hj)).less h8, (C6.out.then C67.out).trans hc (fun y hy => by rw [List.mem_singleton.1 hy]; exact .inr (Nat.le_refl _))⟩
end Bl
end Go.Proofs.YtjoehjclaonneaaGreat
