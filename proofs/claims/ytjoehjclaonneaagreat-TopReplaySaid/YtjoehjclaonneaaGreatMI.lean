/- A part of the proof of TopReplay (no condition of its own). -/
import Derived.Deep.RegionLaw
import Derived.Deep.RegionHeld3
import Derived.Test.YtjoehjclaonneaaGreatME
import Derived.Test.YtjoehjclaonneaaGreatMC
import Derived.Test.YtjoehjclaonneaaGreatMG
namespace Go.Proofs.YtjoehjclaonneaaGreat
open Go.RowKit Go.Proofs.YtjoehjclaonneaaGreatW.PrintWords
set_option maxHeartbeats 8000000
set_option linter.unusedVariables false
set_option linter.unusedSimpArgs false
section
namespace Pl
structure Wt where
 raw : List Int
 last : Int
 run : Int
 acked : Bool
 tick : Int
 ones : Int
 on : Bool
 fro : Int
def Wt.count (t : Wt) (lv : Int) : Wt :=
 if 4 < (next t.raw).1 then { t with run := 0 } else if 0 < t.run /\ lv = t.last then { t with run := t.run + 1 } else { t with last := lv, run := 1 }
def Wt.rest (t : Wt) (lv : Int) : Wt × Int :=
 if (next t.raw).1 = 6 then ({ t with acked := decide (lv = 0), raw := t.raw ++ [lv] }, 0)
 else if (next t.raw).1 = 5 /\ rt t.raw = false then (t, 1)
 else if 4 < (next t.raw).1 /\ lv = 0 then (t, 1)
 else if (next t.raw).1 = 8 /\ (next t.raw).2.1 = 5 then (t, 2)
 else ({ t with raw := t.raw ++ [lv] }, 0)
def Wt.take (t : Wt) (lv : Int) : Wt × Int :=
 if t.run = 5 then (if lv = t.last then (t, 1) else ({ t with last := lv, run := 1 }, 0)) else (t.count lv).rest lv
end Pl
structure WtAt (w : World) (b g : Nat) (q : Option Nat) (A : Option Addr) (c : Nat) (x : Pl.Wt) : Prop where
 cs : Cs w g 176 [.slice A x.raw.length c, .int .i64 x.last, .int .i64 x.run, .bool x.acked, .int .i64 x.tick, .int .i64 x.ones, .bool x.on, .int .i64 x.fro]
 raw : Ow Iv w b q A c x.raw
 lv : ∀ y ∈ x.raw, y = 0 ∨ y = 1
 bb : b <= w.heap.size
section
variable {w w1 : World} {b g : Nat} {q : Option Nat} {A : Option Addr} {c : Nat} {x : Pl.Wt}
theorem WtAt.on (h : WtAt w b g q A c x) (hc : Ch [] w w1) : WtAt w1 b g q A c x := ⟨h.cs.on hc, h.raw.on hc, h.lv, Nat.le_trans h.bb hc.size⟩
theorem WtAt.ls (h : WtAt w b g q A c x) : Ls w A c x.raw := ⟨h.raw.rd, h.lv⟩
theorem WtAt.apart (h : WtAt w b g q A c x) : ∀ k, q = some k -> k ≠ g := by
 rintro k rfl rfl
 obtain ⟨cur, hc⟩ := h.raw.blk
 exact blk_ne h.cs hc (by decide) rfl
theorem WtAt.set (h : WtAt w b g q A c x) (j : Nat) (v : Value) (y : Pl.Wt) (hr : y.raw = x.raw) (hj : j ≠ 0)
   (hy : [Value.slice A x.raw.length c, .int .i64 x.last, .int .i64 x.run, .bool x.acked, .int .i64 x.tick, .int .i64 x.ones, .bool x.on, .int .i64 x.fro].set j v = [.slice A y.raw.length c, .int .i64 y.last, .int .i64 y.run, .bool y.acked, .int .i64 y.tick, .int .i64 y.ones, .bool y.on, .int .i64 y.fro]) :
   WtAt (w.setCell ⟨g, j, none⟩ v) b g q A c y /\ Ch [g] w (w.setCell ⟨g, j, none⟩ v) := by
 have hc : Ch [g] w (w.setCell ⟨g, j, none⟩ v) := (Ch.refl _ w).set _ _ (.inl (by simp))
 have h1 := h.cs.set j v
 rw [hy] at h1
 refine ⟨⟨h1, ?_, by rw [hr]; exact h.lv, Nat.le_trans h.bb hc.size⟩, hc⟩
 rw [hr]
 exact h.raw.keep hc (fun k hk hm => h.apart k hk (by simpa using hm))
theorem WtAt.push (h : WtAt w b g q A c x) (lv : Int) (hlv : lv = 0 ∨ lv = 1) {A' : Option Addr} {c' : Nat} {q' : Option Nat} {n : Nat} (hn : x.raw.length = n) (hO : Ow Iv w1 b q' A' c' (x.raw ++ [lv])) (hC : Ch q.toList w w1) :
   WtAt (w1.setCell ⟨g, 0, none⟩ (.slice A' (n + 1) c')) b g q' A' c' { x with raw := x.raw ++ [lv] } /\ Ch (g :: q.toList) w (w1.setCell ⟨g, 0, none⟩ (.slice A' (n + 1) c')) := by
 have hcs := h.cs.keep hC (fun hm => by rw [Option.mem_toList] at hm; exact h.apart g hm rfl)
 have hs : Ch [g] w1 (w1.setCell ⟨g, 0, none⟩ (.slice A' (n + 1) c')) := (Ch.refl [g] w1).set _ _ (.inl (by simp))
 have hqg : ∀ k, q' = some k -> k ≠ g := by
   rintro k rfl rfl
   obtain ⟨cur, hc⟩ := hO.blk
   exact blk_ne hcs hc (by decide) rfl
 refine ⟨⟨?_, hO.keep hs (fun k hk => by simpa using hqg k hk), ?_, Nat.le_trans h.bb (Nat.le_trans hC.size hs.size)⟩, (hC.sub (by simp_all)).trans hs (by simp)⟩
 · have := hcs.set 0 (.slice A' (n + 1) c')
   simpa [hn] using this
 · intro y hy
   rcases List.mem_append.1 hy with hy | hy
   · exact h.lv y hy
   · simp at hy; subst hy; exact hlv
end
def WRes (w : World) (b g : Nat) (q : Option Nat) (x : Pl.Wt) (v : Value) (e : Ending) (w' : World) : Prop :=
 e = .returned v /\ ∃ A' c' q', WtAt w' b g q' A' c' x /\ Ch (g :: q.toList) w w'
theorem wrt_calls (A : Option Addr) (c n : Nat) (l : List Int) (hn : l.length = n) (w : World) (h : Ls w A c l) :
   Calls Tryz.prog 111 #[.slice A n c] w fun e w' => (∃ z : Int, e = .returned (.tuple #[.bool (Pl.rt l), .int .i64 z])) /\ Ch [] w w' := by
 unfold Pl.rt
 by_cases hw : (Pl.read l).2 = true
 · by_cases hs : (Pl.read l).1.sum + 15 <= n
   · refine (fright_yes A c n _ l hn hw rfl hs w h).mono ?_
     rintro e w' ⟨rfl, hC⟩
     exact ⟨⟨0, by rw [hw, hn, decide_eq_true hs]; rfl⟩, hC⟩
   · refine (fright_short A c n _ l hn hw rfl (by omega) w h).mono ?_
     rintro e w' ⟨rfl, hC⟩
     exact ⟨⟨_, by rw [hw, hn, decide_eq_false hs]; rfl⟩, hC⟩
 · have hw : (Pl.read l).2 = false := by simpa using hw
   refine (fright_no A c n l hn hw w h).mono ?_
   rintro e w' ⟨rfl, hC⟩
   exact ⟨⟨_, by rw [hw]; rfl⟩, hC⟩
end
section
section
variable {w : World} {b g : Nat} {q : Option Nat} {A : Option Addr} {c : Nat} {x : Pl.Wt}
set_option maxRecDepth 100000 in
theorem wtake_calls (h : WtAt w b g q A c x) (lv : Int) (hlv : lv = 0 ∨ lv = 1) (hlen : x.raw.length <= 1000000) (hrun : 0 <= x.run /\ x.run <= 1000) :
   Calls Tryz.prog 81 #[.pointer (some ⟨g, 0, none⟩), .int .i64 lv] w (WRes w b g q (x.take lv).1 (.int .i64 (x.take lv).2)) := by
 obtain ⟨n, hn⟩ : ∃ n, x.raw.length = n := ⟨_, rfl⟩
 have c0 : w.cell? ⟨g, 0, none⟩ = some (.slice A n c) := by rw [<- hn]; exact h.cs.cell (by rfl)
 have c1 : w.cell? ⟨g, 1, none⟩ = some (.int .i64 x.last) := h.cs.cell (by rfl)
 have c2 : w.cell? ⟨g, 2, none⟩ = some (.int .i64 x.run) := h.cs.cell (by rfl)
 have f1 := h.cs.free 1
 have f2 := h.cs.free 2
 have hg := h.cs.lt
 have H := Ad h
 have HN := Ad hn
 have LV := Ad hlv
 rw [hn] at hlen
 by_cases ha : x.run = 5
 · by_cases hl : lv = x.last
   · have RES := Ad (show x.take lv = (x, 1) by rw [Pl.Wt.take, if_pos ha, if_pos hl])
     clear h hn
     go_enter Tryz.func81, Tryz.ntmps81
     go_wp2_with fail
     go_ret
     rw [RES.out]
     exact ⟨rfl, A, c, q, H.out, Ch.refl _ _⟩
   · have RES := Ad (show x.take lv = ({ x with last := lv, run := 1 }, 0) by rw [Pl.Wt.take, if_pos ha, if_neg hl])
     clear h hn
     go_enter Tryz.func81, Tryz.ntmps81
     go_wp2_with fail
     go_ret
     rw [RES.out]
     have h1 := H.out.set 1 (.int .i64 lv) { x with last := lv } rfl (by decide) rfl
     have h2 := h1.1.set 2 (.int .i64 1) { x with last := lv, run := 1 } rfl (by decide) rfl
     exact ⟨rfl, A, c, q, h2.1, (h1.2.then h2.2).sub (by simp)⟩
 · have TK := Ad (show x.take lv = (x.count lv).rest lv by rw [Pl.Wt.take, if_neg ha])
   have NX := Ad (next_calls A c n x.raw hn w h.ls)
   have RT := Ad (fun (w1 : World) (h1 : Ls w1 A c x.raw) => wrt_calls A c n x.raw hn w1 h1)
   obtain ⟨k1, hk1⟩ : ∃ k1, (Pl.next x.raw).1 = k1 := ⟨_, rfl⟩
   obtain ⟨k2, hk2⟩ : ∃ k2, (Pl.next x.raw).2.1 = k2 := ⟨_, rfl⟩
   have CNT := Ad (show x.count lv = if 4 < k1 then { x with run := 0 } else if 0 < x.run /\ lv = x.last then { x with run := x.run + 1 } else { x with last := lv, run := 1 } by rw [Pl.Wt.count, hk1])
   have HK1 := Ad hk1
   have HK2 := Ad hk2
   have wr1 : IntKind.i64.wrap (x.run + 1) = x.run + 1 := by rw [IntKind.wrap_i64]; omega
   clear h hn hk1 hk2
   go_enter Tryz.func81, Tryz.ntmps81
   go_wp2_with fail
   refine NX.out.mono ?_
   rintro e w1 ⟨rfl, hC⟩
   unfold fv
   rw [HK1.out, HK2.out]
   generalize (Pl.next x.raw).2.2 = k3
   have h1 := H.out.on hC
   have C1 := Ad hC
   replace c0 := hC.cell c0 (by simp)
   replace c1 := hC.cell c1 (by simp)
   replace c2 := hC.cell c2 (by simp)
   replace f1 := h1.cs.free 1
   replace f2 := h1.cs.free 2
   replace hg := h1.cs.lt
   have H1 := Ad h1
   clear h1 hC NX H
   have b1 : ¬ k1 < 0 := by omega
   obtain ⟨u, hu⟩ : ∃ u, x.count lv = u := ⟨_, rfl⟩
   rw [hu] at CNT TK
   have W3 : ∃ w2, WtAt w2 b g q A c u /\ Ch [g] w1 w2 /\ u.raw = x.raw /\ ((4 < k1 /\ w1.setCell ⟨g, 2, none⟩ (.int .i64 0) = w2) ∨ (¬ 4 < k1 /\ 0 < x.run /\ (lv == x.last) = true /\ w1.setCell ⟨g, 2, none⟩ (.int .i64 (x.run + 1)) = w2) ∨ (¬ 4 < k1 /\ 0 < x.run /\ (lv == x.last) = false /\ (w1.setCell ⟨g, 1, none⟩ (.int .i64 lv)).setCell ⟨g, 2, none⟩ (.int .i64 1) = w2) ∨ (¬ 4 < k1 /\ ¬ 0 < x.run /\ (w1.setCell ⟨g, 1, none⟩ (.int .i64 lv)).setCell ⟨g, 2, none⟩ (.int .i64 1) = w2)) := by
     have e := CNT.out
     have h2 := (H1.out.set 1 (.int .i64 lv) { x with last := lv } rfl (by decide) rfl)
     have h3 := h2.1.set 2 (.int .i64 1) { x with last := lv, run := 1 } rfl (by decide) rfl
     by_cases h4 : 4 < k1
     · rw [if_pos h4] at e
       have h5 := H1.out.set 2 (.int .i64 0) { x with run := 0 } rfl (by decide) rfl
       exact ⟨_, by rw [e]; exact h5.1, h5.2, by rw [e], .inl ⟨h4, rfl⟩⟩
     · rw [if_neg h4] at e
       by_cases h5 : 0 < x.run
       · by_cases h6 : lv = x.last
         · rw [if_pos ⟨h5, h6⟩] at e
           have h7 := H1.out.set 2 (.int .i64 (x.run + 1)) { x with run := x.run + 1 } rfl (by decide) rfl
           exact ⟨_, by rw [e]; exact h7.1, h7.2, by rw [e], .inr (.inl ⟨h4, h5, by simpa using h6, rfl⟩)⟩
         · rw [if_neg (fun h => h6 h.2)] at e
           exact ⟨_, by rw [e]; exact h3.1, h2.2.then h3.2, by rw [e], .inr (.inr (.inl ⟨h4, h5, by simpa using h6, rfl⟩))⟩
       · rw [if_neg (fun h => h5 h.1)] at e
         exact ⟨_, by rw [e]; exact h3.1, h2.2.then h3.2, by rw [e], .inr (.inr (.inr ⟨h4, h5, rfl⟩))⟩
   obtain ⟨w2, hW, hC2, hur, hcase⟩ := W3
   have W2 := Ad hW
   have C2 := Ad ((C1.out.sub (by simp)).then hC2)
   have HR := Ad hur
   have d0 : w2.cell? ⟨g, 0, none⟩ = some (.slice A n c) := by rw [<- HN.out, <- hur]; exact hW.cs.cell (by rfl)
   have d3 : w2.cell? ⟨g, 3, none⟩ = some (.bool u.acked) := hW.cs.cell (by rfl)
   have e3 := hW.cs.free 3
   have e0 := hW.cs.free 0
   have hg2 := hW.cs.lt
   have HNU := Ad (show u.raw.length = n by rw [hur]; exact HN.out)
   clear hW hC2 hur hu
   rcases hcase with hcase | hcase
   case' inl =>
     obtain ⟨h4, hw2⟩ := hcase
     have HW := Ad hw2
     clear hw2
     go_upto_region 12 with (fail)
     rw [HW.out]
     clear HW f1 f2 c0 c1 c2 hg wr1 CNT H1 C1 b1
     have z0 : (0 : Int) = 0 := rfl
     by_cases hA : k1 = 6
     · have t5 : ((k1 : Int) == 5) = false := by rw [beq_eq_false_iff_ne]; omega
       have t6 : ((k1 : Int) == 6) = true := by rw [beq_iff_eq]; omega
       obtain ⟨ak, hak⟩ : ∃ ak : Bool, decide (lv = 0) = ak := ⟨_, rfl⟩
       have t7 : (lv == 0) = ak := by rw [<- hak]; rfl
       have S3 := Ad (W2.out.set 3 (.bool ak) { u with acked := ak } rfl (by decide) rfl)
       obtain ⟨w3, hw3⟩ : ∃ w3, w2.setCell ⟨g, 3, none⟩ (.bool ak) = w3 := ⟨_, rfl⟩
       have HW3 := Ad hw3
       rw [hw3] at S3
       have d5 : w3.cell? ⟨g, 0, none⟩ = some (.slice A n c) := by rw [<- HNU.out]; exact S3.out.1.cs.cell (by rfl)
       have hsz : w2.heap.size = w3.heap.size := by rw [<- hw3]; simp
       have HSZ := Ad hsz
       have hg3 := S3.out.1.cs.lt
       have HN3 := Ad (show ({ u with acked := ak } : Pl.Wt).raw.length = n from HNU.out)
       clear hw3 hsz
       have RES := Ad (show u.rest lv = ({ ({ u with acked := ak } : Pl.Wt) with raw := u.raw ++ [lv] }, 0) by rw [Pl.Wt.rest, HR.out, HK1.out, if_pos hA, hak])
       have CH3 := Ad ((Ch.refl [] w3).alloc (.cells #[.int .i64 lv] 3))
       have Y := Ad (Ow.lit Iv w3 [lv] #[.int .i64 lv] (by rfl) (by decide : 1 <= maxLen)).rd
       have O := Ad (S3.out.1.raw.on CH3.out)
       have HB := Ad (S3.out.1.on CH3.out).bb
       go_wp2_with (at_builtin; rw [HW3.out, HSZ.out]; refine wpList_append_Ow rfl (.tmp 110) (.tmp 112) 57 (by rfl) (by rfl) (some ⟨w3.heap.size, 0, none⟩) 1 1 [lv] (by rfl) (by rfl) HN3.out O.out Y.out rfl (by show (n + 1) * 8 <= _; omega) HB.out ?_)
       intro A' c' q' w4 hO hC hq
       have P := Ad ((S3.out.1.on CH3.out).push lv LV.out HN3.out hO hC)
       have hcs4 := (S3.out.1.on CH3.out).cs.keep hC (fun hm => by rw [Option.mem_toList] at hm; exact S3.out.1.apart g hm rfl)
       have g0 : w4.cell? ⟨g, 0, none⟩ = some (.slice A u.raw.length c) := hcs4.cell (by rfl)
       have g1 := hcs4.free 0
       clear hO hC hq hcs4 O Y
       go_wp2_with fail
       go_ret
       rw [TK.out, RES.out]
       exact ⟨rfl, A', c', q', P.out.1, ((C2.out.sub (by simp)).then (S3.out.2.sub (by simp))).trans ((CH3.out.sub (by simp)).then P.out.2) (fun _ hx => .inl hx)⟩
     · have t6 : ((k1 : Int) == 6) = false := by rw [beq_eq_false_iff_ne]; omega
       by_cases hB : k1 = 5
       · have t5 : ((k1 : Int) == 5) = true := by rw [beq_iff_eq]; omega
         have t8 : ((k1 : Int) == 8) = false := by rw [beq_eq_false_iff_ne]; omega
         have RT2 := Ad (RT.out w2 (by have := W2.out.ls; rw [HR.out] at this; exact this))
         obtain ⟨is, his⟩ : ∃ is, Pl.rt x.raw = is := ⟨_, rfl⟩
         rw [his] at RT2
         clear RT
         go_wp2_with fail
         refine RT2.out.mono ?_
         rintro e w5 ⟨⟨z, rfl⟩, hC5⟩
         have W5 := Ad (W2.out.on hC5)
         have C5 := Ad (show Ch [g] w w5 from C2.out.then (hC5.sub (by simp)))
         have d5 : w5.cell? ⟨g, 0, none⟩ = some (.slice A n c) := by rw [<- HNU.out]; exact W5.out.cs.cell (by rfl)
         have hg5 := W5.out.cs.lt
         clear hC5 RT2 d0 d3 e0 e3 hg2
         cases is
         · have RES := Ad (show u.rest lv = (u, 1) by rw [Pl.Wt.rest, HR.out, HK1.out, if_neg hA, if_pos ⟨hB, his⟩])
           go_wp2_with fail
           go_ret
           rw [TK.out, RES.out]
           exact ⟨rfl, A, c, q, W5.out, C5.out.sub (by simp)⟩
         · by_cases h0 : lv = 0
           · have RES := Ad (show u.rest lv = (u, 1) by rw [Pl.Wt.rest, HR.out, HK1.out, if_neg hA, if_neg (fun h => by rw [his] at h; exact absurd h.2 (by decide)), if_pos ⟨h4, h0⟩])
             have t0 : (lv == 0) = true := by rw [beq_iff_eq]; exact h0
             clear h0
             go_wp2_with fail
             go_ret
             rw [TK.out, RES.out]
             exact ⟨rfl, A, c, q, W5.out, C5.out.sub (by simp)⟩
           · have t0 : (lv == 0) = false := by rw [beq_eq_false_iff_ne]; exact h0
             have RES := Ad (show u.rest lv = ({ u with raw := u.raw ++ [lv] }, 0) by rw [Pl.Wt.rest, HR.out, HK1.out, if_neg hA, if_neg (fun h => by rw [his] at h; exact absurd h.2 (by decide)), if_neg (fun h => h0 h.2), if_neg (fun h => by omega)])
             have CH3 := Ad ((Ch.refl [] w5).alloc (.cells #[.int .i64 lv] 3))
             have Y := Ad (Ow.lit Iv w5 [lv] #[.int .i64 lv] (by rfl) (by decide : 1 <= maxLen)).rd
             have O := Ad (W5.out.raw.on CH3.out)
             have HB := Ad (W5.out.on CH3.out).bb
             clear h0
             go_wp2_with (at_builtin; refine wpList_append_Ow rfl (.tmp 110) (.tmp 112) 57 (by rfl) (by rfl) (some ⟨w5.heap.size, 0, none⟩) 1 1 [lv] (by rfl) (by rfl) HNU.out O.out Y.out rfl (by show (n + 1) * 8 <= _; omega) HB.out ?_)
             intro A' c' q' w4 hO hC hq
             have P := Ad ((W5.out.on CH3.out).push lv LV.out HNU.out hO hC)
             have hcs4 := (W5.out.on CH3.out).cs.keep hC (fun hm => by rw [Option.mem_toList] at hm; exact W5.out.apart g hm rfl)
             have g0 : w4.cell? ⟨g, 0, none⟩ = some (.slice A u.raw.length c) := hcs4.cell (by rfl)
             have g1 := hcs4.free 0
             clear hO hC hq hcs4 O Y
             go_wp2_with fail
             go_ret
             rw [TK.out, RES.out]
             exact ⟨rfl, A', c', q', P.out.1, (C5.out.sub (by simp)).trans ((CH3.out.sub (by simp)).then P.out.2) (fun _ hx => .inl hx)⟩
       · have t5 : ((k1 : Int) == 5) = false := by rw [beq_eq_false_iff_ne]; omega
         by_cases h0 : lv = 0
         · have RES := Ad (show u.rest lv = (u, 1) by rw [Pl.Wt.rest, HR.out, HK1.out, if_neg hA, if_neg (fun h => hB h.1), if_pos ⟨h4, h0⟩])
           have t0 : (lv == 0) = true := by rw [beq_iff_eq]; exact h0
           clear h0
           go_wp2_with fail
           go_ret
           rw [TK.out, RES.out]
           exact ⟨rfl, A, c, q, W2.out, C2.out.sub (by simp)⟩
         · have t0 : (lv == 0) = false := by rw [beq_eq_false_iff_ne]; exact h0
           by_cases h8 : k1 = 8 /\ k2 = 5
           · have RES := Ad (show u.rest lv = (u, 2) by rw [Pl.Wt.rest, HR.out, HK1.out, HK2.out, if_neg hA, if_neg (fun h => hB h.1), if_neg (fun h => h0 h.2), if_pos h8])
             have t8 : ((k1 : Int) == 8) = true := by rw [beq_iff_eq]; omega
             have t9 : ((k2 : Int) == 5) = true := by rw [beq_iff_eq]; omega
             clear h0 h8
             go_wp2_with fail
             go_ret
             rw [TK.out, RES.out]
             exact ⟨rfl, A, c, q, W2.out, C2.out.sub (by simp)⟩
           · have R1 := Ad (show u.rest lv = ({ u with raw := u.raw ++ [lv] }, 0) by rw [Pl.Wt.rest, HR.out, HK1.out, HK2.out, if_neg hA, if_neg (fun h => hB h.1), if_neg (fun h => h0 h.2), if_neg h8])
             have t89 : (((k1 : Int) == 8) && ((k2 : Int) == 5)) = false := by
               rw [Bool.and_eq_false_iff, beq_eq_false_iff_ne, beq_eq_false_iff_ne]
               omega
             clear h0 h8
             cases t8 : ((k1 : Int) == 8)
             case' true =>
               have t9 : ((k2 : Int) == 5) = false := by rw [t8] at t89; simpa using t89
             all_goals
               clear t89
               have RES := Ad (show u.rest lv = ({ u with raw := u.raw ++ [lv] }, 0) by exact R1.out)
               have CH3 := Ad ((Ch.refl [] w2).alloc (.cells #[.int .i64 lv] 3))
               have Y := Ad (Ow.lit Iv w2 [lv] #[.int .i64 lv] (by rfl) (by decide : 1 <= maxLen)).rd
               have O := Ad (W2.out.raw.on CH3.out)
               have HB := Ad (W2.out.on CH3.out).bb
               go_wp2_with (at_builtin; refine wpList_append_Ow rfl (.tmp 110) (.tmp 112) 57 (by rfl) (by rfl) (some ⟨w2.heap.size, 0, none⟩) 1 1 [lv] (by rfl) (by rfl) HNU.out O.out Y.out rfl (by show (n + 1) * 8 <= _; omega) HB.out ?_)
               intro A' c' q' w4 hO hC hq
               have P := Ad ((W2.out.on CH3.out).push lv LV.out HNU.out hO hC)
               have hcs4 := (W2.out.on CH3.out).cs.keep hC (fun hm => by rw [Option.mem_toList] at hm; exact W2.out.apart g hm rfl)
               have g0 : w4.cell? ⟨g, 0, none⟩ = some (.slice A u.raw.length c) := hcs4.cell (by rfl)
               have g1 := hcs4.free 0
               clear hO hC hq hcs4 O Y
               go_wp2_with fail
               go_ret
               rw [TK.out, RES.out]
               exact ⟨rfl, A', c', q', P.out.1, (C2.out.sub (by simp)).trans ((CH3.out.sub (by simp)).then P.out.2) (fun _ hx => .inl hx)⟩
   rcases hcase with ⟨h4, h5, h6, hw2⟩ | ⟨h4, h5, h6, hw2⟩ | ⟨h4, h5, hw2⟩
   all_goals
     have HW := Ad hw2
     clear hw2
     have t5 : ((k1 : Int) == 5) = false := by rw [beq_eq_false_iff_ne]; omega
     have t6 : ((k1 : Int) == 6) = false := by rw [beq_eq_false_iff_ne]; omega
     have t8 : ((k1 : Int) == 8) = false := by rw [beq_eq_false_iff_ne]; omega
     have R1 := Ad (show u.rest lv = ({ u with raw := u.raw ++ [lv] }, 0) by rw [Pl.Wt.rest, HR.out, HK1.out, if_neg (by omega), if_neg (fun h => by omega), if_neg (fun h => h4 h.1), if_neg (fun h => by omega)])
     go_upto_region 12 with (fail)
     rw [HW.out]
     clear HW f1 f2 c0 c1 c2 hg wr1 CNT H1 C1 b1
     have RES := Ad (show u.rest lv = ({ u with raw := u.raw ++ [lv] }, 0) by exact R1.out)
     have CH3 := Ad ((Ch.refl [] w2).alloc (.cells #[.int .i64 lv] 3))
     have Y := Ad (Ow.lit Iv w2 [lv] #[.int .i64 lv] (by rfl) (by decide : 1 <= maxLen)).rd
     have O := Ad (W2.out.raw.on CH3.out)
     have HB := Ad (W2.out.on CH3.out).bb
     go_wp2_with (at_builtin; refine wpList_append_Ow rfl (.tmp 110) (.tmp 112) 57 (by rfl) (by rfl) (some ⟨w2.heap.size, 0, none⟩) 1 1 [lv] (by rfl) (by rfl) HNU.out O.out Y.out rfl (by show (n + 1) * 8 <= _; omega) HB.out ?_)
     intro A' c' q' w4 hO hC hq
     have P := Ad ((W2.out.on CH3.out).push lv LV.out HNU.out hO hC)
     have hcs4 := (W2.out.on CH3.out).cs.keep hC (fun hm => by rw [Option.mem_toList] at hm; exact W2.out.apart g hm rfl)
     have g0 : w4.cell? ⟨g, 0, none⟩ = some (.slice A u.raw.length c) := hcs4.cell (by rfl)
     have g1 := hcs4.free 0
     clear hO hC hq hcs4 O Y
     go_wp2_with fail
     go_ret
     rw [TK.out, RES.out]
     exact ⟨rfl, A', c', q', P.out.1, (C2.out.sub (by simp)).trans ((CH3.out.sub (by simp)).then P.out.2) (fun _ hx => .inl hx)⟩
end
end
section
structure Si where
 kind : Int
 fro : Int
 too : Int
 f : Pl.Fr
 acked : Bool
def Siv : El Si where
 enc x := [.int .i64 x.kind, .int .i64 x.fro, .int .i64 x.too] ++ frc x.f ++ [.bool x.acked]
 t := 117
 s := 113
 sz := 16
 bytes := 64
 zero := .agg #[.int .i64 0, .int .i64 0, .int .i64 0, .int .i64 0, .bool false, .bool false, .int .i64 0, .int .u8 0, .int .u8 0, .int .u8 0, .int .u8 0, .int .u8 0, .int .u8 0, .int .u8 0, .int .u8 0, .bool false]
 sz0 := by decide
 by0 := by decide
 hlen _ := rfl
 hone x u h := by
   simp only [List.cons_append, List.nil_append, List.mem_cons, List.mem_append, List.not_mem_nil, or_false] at h
   rcases h with rfl | rfl | rfl | h | rfl
   · rfl
   · rfl
   · rfl
   · exact frc_one x.f u h
   · rfl
 und := Tryz.underlying113
 info := by kernel_rfl
 hz := rfl
namespace Pl
def Wt.begin (x : Wt) (lv : Int) : Wt := if x.on = false /\ lv = 0 /\ 10 <= x.ones then { x with on := true, fro := x.tick, raw := [], last := 0, run := 0, acked := false } else x
def Wt.tock (x : Wt) (lv : Int) : Wt := { x with ones := if lv = 0 then 0 else x.ones + 1, tick := x.tick + 1 }
def Wt.sight (x : Wt) (lv : Int) : Wt × List Si :=
 if x.on = false then (x, [])
 else if (x.take lv).2 = 0 then ((x.take lv).1, [])
 else if (x.take lv).2 = 2 then ({ (x.take lv).1 with on := false }, [⟨1, x.fro, x.tick, frameOf (x.take lv).1.raw, (x.take lv).1.acked⟩])
 else ({ (x.take lv).1 with on := false }, [⟨2, x.fro, x.tick, Fr.zero, false⟩])
def Wt.see (x : Wt) (lv : Int) : Wt × List Si := ((x.begin lv).tock lv).sight lv
theorem Wt.take_whole (t : Wt) (lv : Int) (h : (t.take lv).2 = 2) : (read (t.take lv).1.raw).2 = true /\ (read (t.take lv).1.raw).1.sum <= (t.take lv).1.raw.length := by
 unfold Wt.take at *
 split at h
 · split at h <;> simp at h
 · rename_i h0
   rw [if_neg h0]
   unfold Wt.rest at *
   split at h
   · simp at h
   rename_i h1
   rw [if_neg h1]
   split at h
   · simp at h
   rename_i h2
   rw [if_neg h2]
   split at h
   · simp at h
   rename_i h3
   rw [if_neg h3]
   split at h
   · rename_i h4
     rw [if_pos h4]
     exact next_end _ h4.1
   · simp at h
end Pl
def SRes (w : World) (b g : Nat) (q : Option Nat) (S : Pl.Wt × List Si) (e : Ending) (w' : World) : Prop :=
 ∃ SA Sc Sn, e = .returned (.tuple #[.slice SA Sn Sc, .int .i64 0]) /\ S.2.length = Sn /\ Rd Siv w' SA Sc S.2 /\ ∃ A' c' q', WtAt w' b g q' A' c' S.1 /\ Ch (g :: q.toList) w w'
section
variable {w : World} {b g : Nat} {q : Option Nat} {A : Option Addr} {c : Nat} {x : Pl.Wt}
set_option maxRecDepth 100000 in
theorem wsee_calls (h : WtAt w b g q A c x) (lv : Int) (hlv : lv = 0 ∨ lv = 1) (hlen : x.raw.length <= 1000000) (hrun : 0 <= x.run /\ x.run <= 1000) (hones : 0 <= x.ones /\ x.ones <= 1000000) (htick : 0 <= x.tick /\ x.tick <= 1000000) :
   Calls Tryz.prog 65 #[.pointer (some ⟨g, 0, none⟩), .int .i64 lv] w (SRes w b g q (x.see lv)) := by
 have c1 : w.cell? ⟨g, 4, none⟩ = some (.int .i64 x.tick) := h.cs.cell (by rfl)
 have c2 : w.cell? ⟨g, 5, none⟩ = some (.int .i64 x.ones) := h.cs.cell (by rfl)
 have c3 : w.cell? ⟨g, 6, none⟩ = some (.bool x.on) := h.cs.cell (by rfl)
 have f6 := h.cs.free 6
 have f7 := h.cs.free 7
 have hg := h.cs.lt
 have d0 : w.cell? ⟨g, 0, none⟩ = some (.slice A x.raw.length c) := h.cs.cell (by rfl)
 have d1 : w.cell? ⟨g, 1, none⟩ = some (.int .i64 x.last) := h.cs.cell (by rfl)
 have d2 : w.cell? ⟨g, 2, none⟩ = some (.int .i64 x.run) := h.cs.cell (by rfl)
 have d3 : w.cell? ⟨g, 3, none⟩ = some (.bool x.acked) := h.cs.cell (by rfl)
 have d7 : w.cell? ⟨g, 7, none⟩ = some (.int .i64 x.fro) := h.cs.cell (by rfl)
 have f0 := h.cs.free 0
 have f1 := h.cs.free 1
 have f2 := h.cs.free 2
 have f3 := h.cs.free 3
 have SEE := Ad (show x.see lv = ((x.begin lv).tock lv).sight lv from rfl)
 have H := Ad h
 obtain ⟨xb, hxb⟩ : ∃ xb, x.begin lv = xb := ⟨_, rfl⟩
 rw [hxb] at SEE
 have HXB := Ad hxb
 have HXB2 := Ad hxb
 have l1 : ¬ (lv ≠ 0 /\ lv ≠ 1) := by omega
 have l2 : ¬ ((lv != 0) = true /\ (lv != 1) = true) := by rcases hlv with rfl | rfl <;> simp
 clear h hxb
 have l01 : ((!lv == 0) && !(lv == 1)) = false := by rcases hlv with rfl | rfl <;> rfl
 obtain ⟨S, hS⟩ : ∃ S, x.see lv = S := ⟨_, rfl⟩
 rw [hS] at SEE ⊢
 clear hS
 have W1 : ∃ w1 A1 c1 q1, WtAt w1 b g q1 A1 c1 xb /\ Ch [g] w w1 /\ ((∃ q2, q1 = some q2 /\ q = some q2) ∨ q1 = none) /\ ((x.on = false /\ lv = 0 /\ 10 <= x.ones /\ (((((w.setCell ⟨g, 6, none⟩ (.bool true)).setCell ⟨g, 7, none⟩ (.int .i64 x.tick)).setCell ⟨g, 0, none⟩ (.slice none 0 0)).setCell ⟨g, 1, none⟩ (.int .i64 0)).setCell ⟨g, 2, none⟩ (.int .i64 0)).setCell ⟨g, 3, none⟩ (.bool false) = w1) ∨ (xb = x /\ ¬ (x.on = false /\ lv = 0 /\ 10 <= x.ones) /\ w = w1)) := by
   have hb := HXB.out
   by_cases hon : x.on = false /\ lv = 0 /\ 10 <= x.ones
   · have h1 := (((((H.out.cs.set 6 (.bool true)).set 7 (.int .i64 x.tick)).set 0 (.slice none 0 0)).set 1 (.int .i64 0)).set 2 (.int .i64 0)).set 3 (.bool false)
     have hc := ((((((Ch.refl [g] w).set ⟨g, 6, none⟩ (.bool true) (.inl (by simp))).set ⟨g, 7, none⟩ (.int .i64 x.tick) (.inl (by simp))).set ⟨g, 0, none⟩ (.slice none 0 0) (.inl (by simp))).set ⟨g, 1, none⟩ (.int .i64 0) (.inl (by simp))).set ⟨g, 2, none⟩ (.int .i64 0) (.inl (by simp))).set ⟨g, 3, none⟩ (.bool false) (.inl (by simp))
     rw [Pl.Wt.begin, if_pos hon] at hb
     rw [<- hb]
     exact ⟨_, none, 0, none, ⟨h1, (Ow.nil Iv _ b), by simp, Nat.le_trans H.out.bb hc.size⟩, hc, .inr rfl, .inl ⟨hon.1, hon.2.1, hon.2.2, rfl⟩⟩
   · rw [Pl.Wt.begin, if_neg hon] at hb
     rw [<- hb]
     refine ⟨w, A, c, q, H.out, Ch.refl _ _, ?_, .inr ⟨rfl, hon, rfl⟩⟩
     cases q with
     | none => exact .inr rfl
     | some k => exact .inl ⟨k, rfl, rfl⟩
 have HB1 : xb.ones = x.ones /\ xb.tick = x.tick := by
   have hb := HXB.out
   rw [<- hb]
   unfold Pl.Wt.begin
   split <;> exact ⟨rfl, rfl⟩
 obtain ⟨hb1, hb2⟩ := HB1
 have wr5 : IntKind.i64.wrap (xb.ones + 1) = xb.ones + 1 := by rw [IntKind.wrap_i64]; omega
 have wr4 : IntKind.i64.wrap (xb.tick + 1) = xb.tick + 1 := by rw [IntKind.wrap_i64]; omega
 clear hb1 hb2
 obtain ⟨w1, A1, c1', q1, hW1, hC1, hq1, hcase⟩ := W1
 have U1 := Ad hW1
 have C1 := Ad hC1
 have Q1 := Ad hq1
 have e4 : w1.cell? ⟨g, 4, none⟩ = some (.int .i64 xb.tick) := hW1.cs.cell (by rfl)
 have e5 : w1.cell? ⟨g, 5, none⟩ = some (.int .i64 xb.ones) := hW1.cs.cell (by rfl)
 have k4 := hW1.cs.free 4
 have k5 := hW1.cs.free 5
 have hg1 := hW1.cs.lt
 clear hW1 hC1 hq1
 have W2 : ∃ w2, WtAt w2 b g q1 A1 c1' (xb.tock lv) /\ Ch [g] w1 w2 /\ ((lv = 0 /\ ((w1.setCell ⟨g, 5, none⟩ (.int .i64 (xb.ones + 1))).setCell ⟨g, 5, none⟩ (.int .i64 0)).setCell ⟨g, 4, none⟩ (.int .i64 (xb.tick + 1)) = w2) ∨ (lv = 1 /\ (w1.setCell ⟨g, 5, none⟩ (.int .i64 (xb.ones + 1))).setCell ⟨g, 4, none⟩ (.int .i64 (xb.tick + 1)) = w2)) := by
   have h1 := U1.out.set 5 (.int .i64 (xb.ones + 1)) { xb with ones := xb.ones + 1 } rfl (by decide) rfl
   rcases hlv with hl | hl
   · have h2 := h1.1.set 5 (.int .i64 0) { xb with ones := 0 } rfl (by decide) rfl
     have h3 := h2.1.set 4 (.int .i64 (xb.tick + 1)) { xb with ones := 0, tick := xb.tick + 1 } rfl (by decide) rfl
     exact ⟨_, by rw [Pl.Wt.tock, if_pos hl]; exact h3.1, (h1.2.then h2.2).then h3.2, .inl ⟨hl, rfl⟩⟩
   · have h3 := h1.1.set 4 (.int .i64 (xb.tick + 1)) { xb with ones := xb.ones + 1, tick := xb.tick + 1 } rfl (by decide) rfl
     exact ⟨_, by rw [Pl.Wt.tock, if_neg (by omega)]; exact h3.1, h1.2.then h3.2, .inr ⟨hl, rfl⟩⟩
 obtain ⟨w2, hW2, hC2, hcase2⟩ := W2
 obtain ⟨xc, hxc⟩ : ∃ xc, xb.tock lv = xc := ⟨_, rfl⟩
 have hxon : xc.on = xb.on := by rw [<- hxc]; rfl
 rw [hxc] at hW2 SEE
 have U2 := Ad hW2
 have C2 := Ad (C1.out.then hC2)
 have e24 : w2.cell? ⟨g, 4, none⟩ = some (.int .i64 xc.tick) := hW2.cs.cell (by rfl)
 have e27 : w2.cell? ⟨g, 7, none⟩ = some (.int .i64 xc.fro) := hW2.cs.cell (by rfl)
 have e26 : w2.cell? ⟨g, 6, none⟩ = some (.bool xc.on) := hW2.cs.cell (by rfl)
 have hg2 := hW2.cs.lt
 have XC := Ad hxc
 clear hW2 hC2 hxc
 have hcase3 : (xc.on = true /\ ((x.on = true /\ lv = 0 /\ w = w1) ∨ (x.on = true /\ lv = 1 /\ w = w1) ∨ (x.on = false /\ lv = 0 /\ 10 <= x.ones /\ (((((w.setCell ⟨g, 6, none⟩ (.bool true)).setCell ⟨g, 7, none⟩ (.int .i64 x.tick)).setCell ⟨g, 0, none⟩ (.slice none 0 0)).setCell ⟨g, 1, none⟩ (.int .i64 0)).setCell ⟨g, 2, none⟩ (.int .i64 0)).setCell ⟨g, 3, none⟩ (.bool false) = w1))) ∨ (xc.on = false /\ xb = x /\ ((x.on = false /\ lv = 1 /\ w = w1) ∨ (x.on = false /\ lv = 0 /\ ¬ 10 <= x.ones /\ w = w1))) := by
   have hb := HXB.out
   rcases hcase with ⟨a1, a2, a3, a4⟩ | ⟨a1, a2, a3⟩
   · rw [Pl.Wt.begin, if_pos ⟨a1, a2, a3⟩] at hb
     exact .inl ⟨by rw [hxon, <- hb], .inr (.inr ⟨a1, a2, a3, a4⟩)⟩
   · cases ho : x.on
     · refine .inr ⟨by rw [hxon, a1, ho], a1, ?_⟩
       rcases hlv with hl | hl
       · exact .inr ⟨rfl, hl, fun h => a2 ⟨ho, hl, h⟩, a3⟩
       · exact .inl ⟨rfl, hl, a3⟩
     · refine .inl ⟨by rw [hxon, a1, ho], ?_⟩
       rcases hlv with hl | hl
       · exact .inl ⟨rfl, hl, a3⟩
       · exact .inr (.inl ⟨rfl, hl, a3⟩)
 clear hcase hxon HXB
 have hraw : xc.raw.length <= 1000000 /\ (0 <= xc.run /\ xc.run <= 1000) := by
   rw [<- XC.out, <- HXB2.out]
   unfold Pl.Wt.tock Pl.Wt.begin
   split
   · exact ⟨Nat.zero_le _, show (0 : Int) <= 0 /\ (0 : Int) <= 1000 by decide⟩
   · exact ⟨hlen, hrun⟩
 have TK := Ad (fun (W : World) (hW : WtAt W b g q1 A1 c1' xc) => wtake_calls hW lv hlv hraw.1 hraw.2)
 obtain ⟨xt, hxt⟩ : ∃ xt, xc.take lv = xt := ⟨_, rfl⟩
 have SE2 := Ad (show S = if xc.on = false then (xc, []) else if xt.2 = 0 then (xt.1, []) else if xt.2 = 2 then ({ xt.1 with on := false }, [⟨1, xc.fro, xc.tick, Pl.frameOf xt.1.raw, xt.1.acked⟩]) else ({ xt.1 with on := false }, [⟨2, xc.fro, xc.tick, Pl.Fr.zero, false⟩]) by rw [SEE.out, Pl.Wt.sight, hxt])
 have WHO := Pl.Wt.take_whole xc lv
 rw [hxt] at TK WHO
 obtain ⟨y, v⟩ := xt
 have WH := Ad WHO
 clear hxt SEE XC WHO HXB2 hlv hlen hrun hones htick hraw
 go_enter Tryz.func65, Tryz.ntmps65
 rcases hcase3 with ⟨hon, hcase⟩ | ⟨hon, hxx, hcase⟩
 · rw [hon] at e26
   have DN := Ad (Cs.new w2 ([Value.int .i64 0, .int .i64 0, .int .i64 0] ++ zf ++ [Value.bool false]) 117)
   have CN := Ad ((Ch.refl [] w2).alloc (.cells ([Value.int .i64 0, .int .i64 0, .int .i64 0] ++ zf ++ [Value.bool false]).toArray 117))
   rcases hcase with ⟨o1, o2, o3⟩ | ⟨o1, o2, o3⟩ | ⟨o1, o2, o3, o4⟩
   case' inl =>
     have HW := Ad (show w = w1 from o3)
     have HW2 := Ad (hcase2.resolve_right (fun h => by omega)).2
     clear o3
   case' inr.inl =>
     have HW := Ad (show w = w1 from o3)
     have HW2 := Ad (hcase2.resolve_left (fun h => by omega)).2
     clear o3
   case' inr.inr =>
     have HW := Ad o4
     have HW2 := Ad (hcase2.resolve_right (fun h => by omega)).2
     clear o4
   all_goals
     rw [o1] at c3
     clear hcase2
     subst o2
     go_upto_region 7 with (fail)
     rw [HW.out]
     clear HW c1 c2 c3 d0 d1 d2 d3 d7 f0 f1 f2 f3 f6 f7 hg
     go_upto_region 11 with (fail)
     rw [HW2.out]
     clear HW2 U1 C1 wr4 wr5 e4 e5 k4 k5 hg1
     go_upto_region 13 with (fail)
     clear DN CN
     go_region
     have DN := Cs.new w2 [Value.int .i64 2, .int .i64 xc.fro, .int .i64 xc.tick, .int .i64 0, .bool false, .bool false, .int .i64 0, .int .u8 0, .int .u8 0, .int .u8 0, .int .u8 0, .int .u8 0, .int .u8 0, .int .u8 0, .int .u8 0, .bool false] 117
     obtain ⟨w3, hw3⟩ : ∃ w3, (w2.alloc (.cells #[Value.int .i64 2, .int .i64 xc.fro, .int .i64 xc.tick, .int .i64 0, .bool false, .bool false, .int .i64 0, .int .u8 0, .int .u8 0, .int .u8 0, .int .u8 0, .int .u8 0, .int .u8 0, .int .u8 0, .int .u8 0, .bool false] 117)).drew = w3 := ⟨_, rfl⟩
     have C3 := Ad (show Ch [] w2 w3 from hw3 ▸ ((Ch.refl [] w2).alloc _).drew)
     have D3 := Ad (show Cs w3 w2.heap.size 117 [Value.int .i64 2, .int .i64 xc.fro, .int .i64 xc.tick, .int .i64 0, .bool false, .bool false, .int .i64 0, .int .u8 0, .int .u8 0, .int .u8 0, .int .u8 0, .int .u8 0, .int .u8 0, .int .u8 0, .int .u8 0, .bool false] from hw3 ▸ DN.on (Ch.refl [] _).drew)
     rw [hw3]
     clear DN hw3
     go_wp2_with fail
     refine (TK.out w3 (U2.out.on C3.out)).mono ?_
     rintro e w4 ⟨rfl, A4, c4, q4, hW4, hC4⟩
     have U4 := Ad hW4
     have C4 := Ad (show Ch (g :: q.toList) w w4 from (C2.out.then (C3.out.sub (by simp))).sub (by simp) |>.trans hC4 (fun k hk => by
       simp only [List.mem_cons, Option.mem_toList] at hk ⊢
       rcases hk with rfl | hk
       · exact .inl (.inl rfl)
       · rcases Q1.out with ⟨q2, h1, h2⟩ | h1
         · rw [h1] at hk
           exact .inl (.inr (by rw [h2]; exact hk))
         · rw [h1] at hk; cases hk))
     have D4 := Ad (D3.out.keep hC4 (fun hm => by
       simp only [List.mem_cons, Option.mem_toList] at hm
       rcases hm with hm | hm
       · omega
       · have := (U2.out.raw.size _ hm).2; omega))
     have y3 : w4.cell? ⟨g, 3, none⟩ = some (.bool y.acked) := hW4.cs.cell (by rfl)
     have y6 : w4.cell? ⟨g, 6, none⟩ = some (.bool y.on) := hW4.cs.cell (by rfl)
     have z6 := hW4.cs.free 6
     have hg4 := hW4.cs.lt
     have s0 : w4.cell? ⟨w2.heap.size, 0, none⟩ = some (.int .i64 2) := D4.out.cell (by rfl)
     have s15 : w4.cell? ⟨w2.heap.size, 15, none⟩ = some (.bool false) := D4.out.cell (by rfl)
     have t0 := D4.out.free 0
     have t15 := D4.out.free 15
     have hs4 := D4.out.lt
     have gne : g ≠ w2.heap.size := by omega
     have gne2 : ¬ w2.heap.size = g := by omega
     have SZ2 := Ad C2.out.size
     clear hW4 hC4 e24 e26 e27 D3 C3 U2 C2 TK
     by_cases v0 : v = 0
     · have RES := Ad (show S = (y, []) by rw [SE2.out, hon, if_neg (by decide), if_pos v0])
       subst v0
       go_wp2_with fail
       go_ret2
       rw [RES.out]
       exact ⟨none, 0, 0, rfl, rfl, (Ow.nil Siv w4 0).rd, A4, c4, q4, U4.out, C4.out⟩
     · by_cases v2 : v = 2
       · have RES := Ad (show S = ({ y with on := false }, [⟨1, xc.fro, xc.tick, Pl.frameOf y.raw, y.acked⟩]) by rw [SE2.out, hon, if_neg (by decide), if_neg v0, if_pos v2])
         obtain ⟨wh1, wh2⟩ := WH.out v2
         obtain ⟨n, hn⟩ : ∃ n, y.raw.length = n := ⟨_, rfl⟩
         have HN := Ad hn
         subst v2
         have D5 := Ad ((D4.out.set 0 (.int .i64 1)).set 15 (.bool y.acked))
         have C5 := Ad (((Ch.refl [w2.heap.size] w4).set ⟨w2.heap.size, 0, none⟩ (.int .i64 1) (.inl (by simp))).set ⟨w2.heap.size, 15, none⟩ (.bool y.acked) (.inl (by simp)))
         clear hn
         go_upto_region 18 with (fail)
         go_region
         obtain ⟨w5, hw5⟩ : ∃ w5, ((w4.setCell ⟨w2.heap.size, 0, none⟩ (.int .i64 1)).setCell ⟨w2.heap.size, 15, none⟩ (.bool y.acked)).drew = w5 := ⟨_, rfl⟩
         rw [hw5]
         have E5 := Ad (show Cs w5 w2.heap.size 117 [Value.int .i64 1, .int .i64 xc.fro, .int .i64 xc.tick, .int .i64 0, .bool false, .bool false, .int .i64 0, .int .u8 0, .int .u8 0, .int .u8 0, .int .u8 0, .int .u8 0, .int .u8 0, .int .u8 0, .int .u8 0, .bool y.acked] from hw5 ▸ D5.out.on (Ch.refl [] _).drew)
         have G5 := Ad (show Ch [w2.heap.size] w4 w5 from hw5 ▸ C5.out.drew)
         have nq : ∀ k, q4 = some k -> k ∉ [w2.heap.size] := fun k hk hm => by
           obtain ⟨cur, hc⟩ := (hk ▸ U4.out.raw : Ow Iv w4 b (some k) A4 c4 y.raw).blk
           have hm : k = w2.heap.size := by simpa using hm
           subst hm
           exact blk_ne D4.out hc (by decide) rfl
         have U5 := Ad (show WtAt w5 b g q4 A4 c4 y from ⟨U4.out.cs.keep G5.out (by simp; exact gne), U4.out.raw.keep G5.out nq, U4.out.lv, Nat.le_trans U4.out.bb G5.out.size⟩)
         have FC := Ad (frame_calls A4 c4 n _ y.raw HN.out wh1 rfl (by rw [<- HN.out]; exact wh2) w5 U5.out.ls)
         obtain ⟨F, hF⟩ : ∃ F, Pl.frameOf y.raw = F := ⟨_, rfl⟩
         rw [hF] at FC RES
         have x0 : w5.cell? ⟨g, 0, none⟩ = some (.slice A4 n c4) := by rw [<- HN.out]; exact U5.out.cs.cell (by rfl)
         have hg5 := U5.out.cs.lt
         have NQ := Ad nq
         clear hw5 hF D5 C5 y3 y6 z6 s0 s15 t0 t15 hs4 nq
         go_wp2_with fail
         refine FC.out.mono ?_
         rintro e w6 ⟨⟨z, rfl⟩, hC6⟩
         have E6 := Ad (E5.out.on hC6)
         have P6 := Ad (frc_one F)
         have U6 := Ad (U5.out.on hC6)
         have hs6 := E6.out.lt
         have G6 := Ad (show Ch [w2.heap.size] w4 w6 from G5.out.then (hC6.sub (by simp)))
         clear hC6 FC E5 G5 x0 hg5 U5 U4
         unfold frv
         go_wp2_with (refine wpList_store_Cs rfl 49 (.tmp 105) (.tmp 103) rfl 3 (frc F) (by rfl) (by rfl) E6.out (by decide : 3 + 12 <= 16) size49 P6.out ?_)
         intro w7 hD7 hC7
         have D7 := Ad (show Cs w7 w2.heap.size 117 [Value.int .i64 1, .int .i64 xc.fro, .int .i64 xc.tick, .int .i64 F.id, .bool F.ext, .bool F.rtr, .int .i64 F.len, .int .u8 F.d0, .int .u8 F.d1, .int .u8 F.d2, .int .u8 F.d3, .int .u8 F.d4, .int .u8 F.d5, .int .u8 F.d6, .int .u8 F.d7, .bool y.acked] from hD7)
         have U7 := Ad (show WtAt w7 b g q4 A4 c4 y from ⟨U6.out.cs.keep hC7 (by simp; exact gne), U6.out.raw.keep hC7 NQ.out, U6.out.lv, Nat.le_trans U6.out.bb hC7.size⟩)
         have G7 := Ad (G6.out.then hC7)
         have y6 : w7.cell? ⟨g, 6, none⟩ = some (.bool y.on) := U7.out.cs.cell (by rfl)
         have z6 := U7.out.cs.free 6
         have hg7 := U7.out.cs.lt
         have U8 := Ad (U7.out.set 6 (.bool false) { y with on := false } rfl (by decide) rfl)
         have D8 := Ad (D7.out.keep U8.out.2 (by simp; exact gne2))
         obtain ⟨w8, hw8⟩ : ∃ w8, w7.setCell ⟨g, 6, none⟩ (.bool false) = w8 := ⟨_, rfl⟩
         have HW8 := Ad hw8
         rw [hw8] at U8 D8
         clear hw8 hD7 hC7 E6 U6 G6 hs6
         have L8 := Ad (Ow.lit Siv w8 [(⟨1, xc.fro, xc.tick, F, y.acked⟩ : Si)] #[Value.int .i64 1, .int .i64 xc.fro, .int .i64 xc.tick, .int .i64 F.id, .bool F.ext, .bool F.rtr, .int .i64 F.len, .int .u8 F.d0, .int .u8 F.d1, .int .u8 F.d2, .int .u8 F.d3, .int .u8 F.d4, .int .u8 F.d5, .int .u8 F.d6, .int .u8 F.d7, .bool y.acked] (by rfl) (by decide : 1 <= maxLen)).rd
         have C8 := Ad ((Ch.refl [] w8).alloc (.cells #[Value.int .i64 1, .int .i64 xc.fro, .int .i64 xc.tick, .int .i64 F.id, .bool F.ext, .bool F.rtr, .int .i64 F.len, .int .u8 F.d0, .int .u8 F.d1, .int .u8 F.d2, .int .u8 F.d3, .int .u8 F.d4, .int .u8 F.d5, .int .u8 F.d6, .int .u8 F.d7, .bool y.acked] 117))
         go_upto_region 21 with (fail)
         rw [HW8.out]
         go_wp2_with (refine wpList_load_Cs rfl 117 (.tmp 6) rfl 0 [Value.int .i64 1, .int .i64 xc.fro, .int .i64 xc.tick, .int .i64 F.id, .bool F.ext, .bool F.rtr, .int .i64 F.len, .int .u8 F.d0, .int .u8 F.d1, .int .u8 F.d2, .int .u8 F.d3, .int .u8 F.d4, .int .u8 F.d5, .int .u8 F.d6, .int .u8 F.d7, .bool y.acked] (by rfl) D8.out (fun j v hv => by rw [Nat.zero_add]; exact hv) Tryz.underlying117 rfl size117 ?_)
         go_ret2
         rw [RES.out]
         refine ⟨_, _, _, rfl, rfl, L8.out, A4, c4, q4, U8.out.1.on C8.out, ?_⟩
         have K := ((G7.out.sub (by simp) : Ch [w2.heap.size, g] w4 _).then (U8.out.2.sub (by simp))).then (C8.out.sub (by simp))
         exact C4.out.trans K (fun k hk => by
           simp only [List.mem_cons, List.not_mem_nil, or_false] at hk
           rcases hk with rfl | rfl
           · exact .inr SZ2.out
           · exact .inl (by simp))
       · have RES := Ad (show S = ({ y with on := false }, [⟨2, xc.fro, xc.tick, Pl.Fr.zero, false⟩]) by rw [SE2.out, hon, if_neg (by decide), if_neg v0, if_neg v2])
         have U8 := Ad (U4.out.set 6 (.bool false) { y with on := false } rfl (by decide) rfl)
         have D8 := Ad (D4.out.keep U8.out.2 (by simp; exact gne2))
         obtain ⟨w8, hw8⟩ : ∃ w8, w4.setCell ⟨g, 6, none⟩ (.bool false) = w8 := ⟨_, rfl⟩
         have HW8 := Ad hw8
         rw [hw8] at U8 D8
         clear hw8
         have L8 := Ad (Ow.lit Siv w8 [(⟨2, xc.fro, xc.tick, Pl.Fr.zero, false⟩ : Si)] #[Value.int .i64 2, .int .i64 xc.fro, .int .i64 xc.tick, .int .i64 0, .bool false, .bool false, .int .i64 0, .int .u8 0, .int .u8 0, .int .u8 0, .int .u8 0, .int .u8 0, .int .u8 0, .int .u8 0, .int .u8 0, .bool false] (by rfl) (by decide : 1 <= maxLen)).rd
         have C8 := Ad ((Ch.refl [] w8).alloc (.cells #[Value.int .i64 2, .int .i64 xc.fro, .int .i64 xc.tick, .int .i64 0, .bool false, .bool false, .int .i64 0, .int .u8 0, .int .u8 0, .int .u8 0, .int .u8 0, .int .u8 0, .int .u8 0, .int .u8 0, .int .u8 0, .bool false] 117))
         go_upto_region 21 with (fail)
         rw [HW8.out]
         go_wp2_with (refine wpList_load_Cs rfl 117 (.tmp 6) rfl 0 [Value.int .i64 2, .int .i64 xc.fro, .int .i64 xc.tick, .int .i64 0, .bool false, .bool false, .int .i64 0, .int .u8 0, .int .u8 0, .int .u8 0, .int .u8 0, .int .u8 0, .int .u8 0, .int .u8 0, .int .u8 0, .bool false] (by rfl) D8.out (fun j v hv => by rw [Nat.zero_add]; exact hv) Tryz.underlying117 rfl size117 ?_)
         go_ret2
         rw [RES.out]
         refine ⟨_, _, _, rfl, rfl, L8.out, A4, c4, q4, U8.out.1.on C8.out, ?_⟩
         have K := (((Ch.refl [] w4).sub (by simp) : Ch [w2.heap.size, g] w4 _).then (U8.out.2.sub (by simp))).then (C8.out.sub (by simp))
         exact C4.out.trans K (fun k hk => by
           simp only [List.mem_cons, List.not_mem_nil, or_false] at hk
           rcases hk with rfl | rfl
           · exact .inr SZ2.out
           · exact .inl (by simp))
 · have RES := Ad (show S = (xc, []) by rw [SE2.out, if_pos hon])
   rw [hon] at e26
   rcases hcase with ⟨o1, o2, o3⟩ | ⟨o1, o2, o4, o3⟩
   case' inl =>
     have HW2 := Ad (hcase2.resolve_left (fun h => by omega)).2
   case' inr =>
     have HW2 := Ad (hcase2.resolve_right (fun h => by omega)).2
   all_goals
     rw [o1] at c3
     subst o3
     subst hxx
     clear hcase2
     subst o2
     go_upto_region 11 with (fail)
     rw [HW2.out]
     go_wp2_with fail
     go_ret2
     rw [RES.out]
     exact ⟨none, 0, 0, rfl, rfl, (Ow.nil Siv w2 0).rd, A1, c1', q1, U2.out, C2.out.sub (by simp)⟩
end
end
namespace Pl
def Wt.new : Wt := ⟨[], 0, 0, false, 0, 0, false, 0⟩
def Wt.all (l : List Int) : Wt × List Si := l.foldl (fun s lv => ((s.1.see lv).1, s.2 ++ (s.1.see lv).2)) (Wt.new, [])
theorem Wt.all_snoc (l : List Int) (lv : Int) : Wt.all (l ++ [lv]) = (((Wt.all l).1.see lv).1, (Wt.all l).2 ++ ((Wt.all l).1.see lv).2) := by
 unfold Wt.all
 rw [List.foldl_append]
 rfl
structure Wt.good (n : Nat) (t : Wt) : Prop where
 raw : t.raw.length <= n
 run : 0 <= t.run /\ t.run <= n
 ones : 0 <= t.ones /\ t.ones <= n
 tick : 0 <= t.tick /\ t.tick <= n
theorem Wt.take_good {n : Nat} {t : Wt} (hr : t.raw.length <= n) (hu : 0 <= t.run /\ t.run <= n) (lv : Int) :
   (t.take lv).1.raw.length <= n + 1 /\ (0 <= (t.take lv).1.run /\ (t.take lv).1.run <= n + 1) /\ (t.take lv).1.ones = t.ones /\ (t.take lv).1.tick = t.tick := by
 unfold Wt.take
 split
 · split
   · exact ⟨by show t.raw.length <= n + 1; omega, by show 0 <= t.run /\ t.run <= n + 1; omega, rfl, rfl⟩
   · exact ⟨by show t.raw.length <= n + 1; omega, by show (0 : Int) <= 1 /\ (1 : Int) <= n + 1; omega, rfl, rfl⟩
 · have hc : (t.count lv).raw.length <= n /\ (0 <= (t.count lv).run /\ (t.count lv).run <= n + 1) /\ (t.count lv).ones = t.ones /\ (t.count lv).tick = t.tick := by
     unfold Wt.count
     split
     · exact ⟨hr, by show (0 : Int) <= 0 /\ (0 : Int) <= n + 1; omega, rfl, rfl⟩
     split
     · exact ⟨hr, by show (0 : Int) <= t.run + 1 /\ t.run + 1 <= n + 1; omega, rfl, rfl⟩
     · exact ⟨hr, by show (0 : Int) <= 1 /\ (1 : Int) <= n + 1; omega, rfl, rfl⟩
   generalize t.count lv = u at hc ⊢
   obtain ⟨h1, h2, h3, h4⟩ := hc
   have hl : (u.raw ++ [lv]).length <= n + 1 := by rw [List.length_append, List.length_singleton]; omega
   unfold Wt.rest
   split
   · exact ⟨hl, h2, h3, h4⟩
   split
   · exact ⟨by show u.raw.length <= n + 1; omega, h2, h3, h4⟩
   split
   · exact ⟨by show u.raw.length <= n + 1; omega, h2, h3, h4⟩
   split
   · exact ⟨by show u.raw.length <= n + 1; omega, h2, h3, h4⟩
   · exact ⟨hl, h2, h3, h4⟩
theorem Wt.see_good {n : Nat} {t : Wt} (h : t.good n) (lv : Int) : (t.see lv).1.good (n + 1) /\ (t.see lv).2.length <= 1 := by
 obtain ⟨h1, h2, h3, h4⟩ := h
 unfold Wt.see
 have hc : ((t.begin lv).tock lv).raw.length <= n /\ (0 <= ((t.begin lv).tock lv).run /\ ((t.begin lv).tock lv).run <= n) /\ (0 <= ((t.begin lv).tock lv).ones /\ ((t.begin lv).tock lv).ones <= n + 1) /\ (0 <= ((t.begin lv).tock lv).tick /\ ((t.begin lv).tock lv).tick <= n + 1) := by
   have hb : (t.begin lv).raw.length <= n /\ (0 <= (t.begin lv).run /\ (t.begin lv).run <= n) /\ (t.begin lv).ones = t.ones /\ (t.begin lv).tick = t.tick := by
     unfold Wt.begin
     split
     · exact ⟨Nat.zero_le _, by show (0 : Int) <= 0 /\ (0 : Int) <= n; omega, rfl, rfl⟩
     · exact ⟨h1, h2, rfl, rfl⟩
   generalize t.begin lv = u at hb ⊢
   obtain ⟨a1, a2, a3, a4⟩ := hb
   unfold Wt.tock
   refine ⟨a1, a2, ?_, by show 0 <= u.tick + 1 /\ u.tick + 1 <= n + 1; omega⟩
   show 0 <= (if lv = 0 then (0 : Int) else u.ones + 1) /\ (if lv = 0 then (0 : Int) else u.ones + 1) <= n + 1
   split <;> omega
 generalize (t.begin lv).tock lv = u at hc ⊢
 obtain ⟨a1, a2, a3, a4⟩ := hc
 obtain ⟨b1, b2, b3, b4⟩ := Wt.take_good a1 a2 lv
 unfold Wt.sight
 have e : ((n + 1 : Nat) : Int) = (n : Int) + 1 := by omega
 split
 · exact ⟨⟨by show u.raw.length <= n + 1; omega, by rw [e]; show 0 <= u.run /\ u.run <= n + 1; omega, by rw [e]; exact a3, by rw [e]; exact a4⟩, by simp⟩
 split
 · exact ⟨⟨b1, by rw [e]; exact b2, by rw [e, b3]; exact a3, by rw [e, b4]; exact a4⟩, by simp⟩
 split
 · exact ⟨⟨b1, by rw [e]; exact b2, by rw [e]; show 0 <= (u.take lv).1.ones /\ (u.take lv).1.ones <= _; rw [b3]; exact a3, by rw [e]; show 0 <= (u.take lv).1.tick /\ (u.take lv).1.tick <= _; rw [b4]; exact a4⟩, by simp⟩
 · exact ⟨⟨b1, by rw [e]; exact b2, by rw [e]; show 0 <= (u.take lv).1.ones /\ (u.take lv).1.ones <= _; rw [b3]; exact a3, by rw [e]; show 0 <= (u.take lv).1.tick /\ (u.take lv).1.tick <= _; rw [b4]; exact a4⟩, by simp⟩
theorem Wt.all_good (l : List Int) : ∀ k, k <= l.length -> (Wt.all (l.take k)).1.good k /\ (Wt.all (l.take k)).2.length <= k
 | 0, _ => ⟨⟨Nat.le_refl _, show (0 : Int) <= 0 /\ (0 : Int) <= 0 by decide, show (0 : Int) <= 0 /\ (0 : Int) <= 0 by decide, show (0 : Int) <= 0 /\ (0 : Int) <= 0 by decide⟩, Nat.le_refl _⟩
 | k + 1, hk => by
   obtain ⟨h1, h2⟩ := Wt.all_good l k (by omega)
   rw [List.take_add_one, List.getElem?_eq_getElem (by omega), Option.toList_some, Wt.all_snoc]
   obtain ⟨h3, h4⟩ := Wt.see_good h1 l[k]
   exact ⟨h3, by rw [List.length_append]; omega⟩
end Pl
theorem WtAt.keep {w w1 : World} {b g : Nat} {q : Option Nat} {A : Option Addr} {c : Nat} {x : Pl.Wt} (h : WtAt w b g q A c x) {F : List Nat} (hc : Ch F w w1) (hg : g ∉ F) (hq : ∀ k, q = some k -> k ∉ F) : WtAt w1 b g q A c x := ⟨h.cs.keep hc hg, h.raw.keep hc hq, h.lv, Nat.le_trans h.bb hc.size⟩
theorem wnew_calls (w : World) : Calls Tryz.prog 64 #[] w fun e w' => e = .returned (.pointer (some ⟨w.heap.size, 0, none⟩)) /\ WtAt w' w.heap.size w.heap.size none none 0 Pl.Wt.new /\ Ch [] w w' := by
 go_enter Tryz.func64, Tryz.ntmps64
 go_wp2_with fail
 go_ret
 exact ⟨rfl, ⟨Cs.new w [.slice none 0 0, .int .i64 0, .int .i64 0, .bool false, .int .i64 0, .int .i64 0, .bool false, .int .i64 0] 176, Ow.nil _ _ _, by simp [Pl.Wt.new], by simp⟩, (Ch.refl [] w).alloc _⟩
set_option maxRecDepth 100000 in
theorem wall_calls (A : Option Addr) (c m : Nat) (l : List Int) (hm : l.length = m) (hm9 : m <= 1000) (hlv : ∀ y ∈ l, y = 0 ∨ y = 1) (w : World) (h : Rd Iv w A c l) :
   Calls Tryz.prog 44 #[.slice A m c] w fun e w' => ∃ A' c' q' m', e = .returned (.tuple #[.slice A' m' c', .int .i64 0]) /\ ((Pl.Wt.all l).2.length = m' /\ Ow Siv w' w.heap.size q' A' c' (Pl.Wt.all l).2) /\ Ch [] w w' := by
 have hlen := h.len63 hm
 have H := Ad h
 have HM := Ad hm
 have LV := Ad hlv
 have NW := Ad (wnew_calls w)
 clear h hm hlv
 go_enter Tryz.func44, Tryz.ntmps44
 go_wp2_with fail
 refine NW.out.mono ?_
 rintro e w1 ⟨rfl, hW, hC⟩
 have W1 := Ad hW
 have C1 := Ad hC
 have NO := Ad (Ow.nil Siv w1 w.heap.size)
 clear hW hC NW
 go_wp2_with fail
 go_loopw [5, 13] (fun v i wr => ∃ k : Nat, k <= m /\ i = .int .i64 k /\ (∃ A' c' q' m', v = .slice A' m' c' /\ Aside0 ((Pl.Wt.all (l.take k)).2.length = m' /\ m' <= k /\ Ow Siv wr w.heap.size q' A' c' (Pl.Wt.all (l.take k)).2)) /\ Aside0 (∃ A' c' q', WtAt wr w.heap.size w.heap.size q' A' c' (Pl.Wt.all (l.take k)).1) /\ Aside0 (Ch [] w wr)) (fun _ i _ => m - (intOf i).toNat)
 case atStart => exact ⟨0, by omega, rfl, ⟨none, 0, none, 0, rfl, ⟨rfl, Nat.le_refl _, NO.out⟩⟩, ⟨none, 0, none, W1.out⟩, C1⟩
 case round =>
   obtain ⟨k, hk, rfl, ⟨A1, c1, q1, m1, rfl, OW⟩, WW, CW⟩ := hrel
   by_cases hlt : k < m
   · obtain ⟨lv, hx⟩ : ∃ lv, l[k]? = some lv := ⟨_, List.getElem?_eq_getElem (by rw [HM.out]; exact hlt)⟩
     obtain ⟨gl, o, rfl, hrc⟩ := (H.out.on CW.out).cells hx
     have r0 : wr.cell? ⟨gl, o + k, none⟩ = some (.int .i64 lv) := by
       have := hrc 0 _ rfl
       simpa [Iv] using this
     have SN := Ad (show Pl.Wt.all (l.take (k + 1)) = (((Pl.Wt.all (l.take k)).1.see lv).1, (Pl.Wt.all (l.take k)).2 ++ ((Pl.Wt.all (l.take k)).1.see lv).2) from by rw [List.take_add_one, hx, Option.toList_some, Pl.Wt.all_snoc])
     obtain ⟨hg, hg2⟩ := Pl.Wt.all_good l k (by rw [HM.out]; omega)
     have sg := (Pl.Wt.see_good hg lv).2
     obtain ⟨A2, c2, q2, hWk⟩ := WW.out
     have SC := Ad (wsee_calls hWk lv (LV.out lv (List.mem_of_getElem? hx)) (by have := hg.raw; omega) (by have := hg.run; omega) (by have := hg.ones; omega) (by have := hg.tick; omega))
     have WK := Ad hWk
     generalize (Pl.Wt.all (l.take k)).1 = xk at *
     generalize (Pl.Wt.all (l.take k)).2 = sk at *
     obtain ⟨S, hS⟩ : ∃ S, xk.see lv = S := ⟨_, rfl⟩
     rw [hS] at SC SN sg
     have hm1 : m1 <= k := OW.out.2.1
     have k0 : (0 : Int) <= (k : Int) := by omega
     have k1 : (k : Int) < (m : Int) := by omega
     clear hrc hx hg hg2 hWk hS WW
     go_wp2_with fail
     refine SC.out.mono ?_
     rintro e w2 ⟨SA, Sc, Sn, rfl, hSn, hSR, A3, c3, q3, hW3, hC3⟩
     have nq : ∀ j, q1 = some j -> j ∉ w.heap.size :: q2.toList := fun j hj hm => by
       obtain ⟨cur, hc⟩ := (hj ▸ OW.out.2.2 : Ow Siv wr w.heap.size (some j) A1 c1 sk).blk
       simp only [List.mem_cons, Option.mem_toList] at hm
       rcases hm with rfl | hm
       · exact blk_ne WK.out.cs hc (by decide) rfl
       · obtain ⟨cur2, hc2⟩ := (hm ▸ WK.out.raw : Ow Iv wr w.heap.size (some j) A2 c2 xk.raw).blk
         exact blk_ne hc2 hc (by decide) rfl
     have O2 := Ad (OW.out.2.2.keep hC3 nq)
     have CW2 := Ad (CW.out.trans hC3 (fun j hj => by
       simp only [List.mem_cons, Option.mem_toList] at hj
       rcases hj with rfl | hj
       · exact .inr (Nat.le_refl _)
       · exact .inr (WK.out.raw.size j hj).1))
     have W3 := Ad hW3
     have SR := Ad hSR
     have SN2 := Ad hSn
     have B2 := Ad hW3.bb
     have sn1 : Sn <= 1 := by rw [<- hSn]; exact sg
     clear nq hC3 hW3 hSR hSn SC
     go_wp2_with (at_builtin; refine wpList_append_Ow rfl (.tmp 26) (.tmp 27) 113 (by rfl) (by rfl) SA Sn Sc S.2 (by rfl) (by rfl) OW.out.1 O2.out SR.out SN2.out (by show (m1 + Sn) * 64 <= _; omega) B2.out ?_)
     intro A5 c5 q5 w5 hO5 hC5 hq5
     have nq5 : ∀ j, j ∈ q1.toList -> j ≠ w.heap.size /\ q3 ≠ some j := fun j hj => by
       rw [Option.mem_toList] at hj
       obtain ⟨cur, hc⟩ := (hj ▸ O2.out : Ow Siv w2 w.heap.size (some j) A1 c1 sk).blk
       refine ⟨fun e => by rw [e] at hc; exact blk_ne W3.out.cs hc (by decide) rfl, fun e => ?_⟩
       obtain ⟨cur2, hc2⟩ := (e ▸ W3.out.raw : Ow Iv w2 w.heap.size (some j) A3 c3 S.1.raw).blk
       exact blk_ne hc2 hc (by decide) rfl
     have W5 := Ad (show ∃ A' c' q', WtAt w5 w.heap.size w.heap.size q' A' c' (Pl.Wt.all (l.take (k + 1))).1 from ⟨A3, c3, q3, by rw [SN.out]; exact W3.out.keep hC5 (fun hm => (nq5 _ hm).1 rfl) (fun j hj hm => (nq5 _ hm).2 hj)⟩)
     have O5 := Ad (show (Pl.Wt.all (l.take (k + 1))).2.length = m1 + Sn /\ m1 + Sn <= k + 1 /\ Ow Siv w5 w.heap.size q5 A5 c5 (Pl.Wt.all (l.take (k + 1))).2 from by
       rw [SN.out]
       exact ⟨by rw [List.length_append, OW.out.1, SN2.out], by omega, hO5⟩)
     have C5 := Ad (show Ch [] w w5 from CW2.out.trans hC5 (fun j hj => by rw [Option.mem_toList] at hj; exact .inr (O2.out.size j hj).1))
     clear hO5 hC5 hq5 nq5
     go_wp2_with fail
     go_roundw
     case rel => exact ⟨k + 1, by omega, by go_num, ⟨A5, c5, q5, m1 + Sn, rfl, O5⟩, W5, C5⟩
     case measure => simp [intOf]; omega
   · have hkm : k = m := by omega
     subst hkm
     have e : l.take k = l := List.take_of_length_le (by rw [HM.out]; exact Nat.le_refl _)
     rw [e] at OW
     go_wp2_with fail
     go_ret2
     exact ⟨A1, c1, q1, m1, rfl, ⟨OW.out.1, OW.out.2.2⟩, CW.out⟩
def Pl.frs (l : List Si) : List Pl.Fr := (l.filter (fun x => decide (x.kind = 1))).map (·.f)
theorem Pl.frs_snoc (l : List Si) (x : Si) : Pl.frs (l ++ [x]) = Pl.frs l ++ if x.kind = 1 then [x.f] else [] := by
 unfold Pl.frs
 rw [List.filter_append, List.map_append]
 congr 1
 by_cases h : x.kind = 1
 · simp [h]
 · rw [if_neg h]
   simp [h]
set_option maxRecDepth 100000 in
theorem wframes_calls (A : Option Addr) (c m : Nat) (l : List Int) (hm : l.length = m) (hm9 : m <= 1000) (hlv : ∀ y ∈ l, y = 0 ∨ y = 1) (w : World) (h : Rd Iv w A c l) :
   Calls Tryz.prog 17 #[.slice A m c] w fun e w' => ∃ A' c' q' m', e = .returned (.tuple #[.slice A' m' c', .int .i64 0]) /\ ((Pl.frs (Pl.Wt.all l).2).length = m' /\ Ow Fv w' w.heap.size q' A' c' (Pl.frs (Pl.Wt.all l).2)) /\ Ch [] w w' := by
 have AL := Ad (wall_calls A c m l hm hm9 hlv w h)
 have hsl : (Pl.Wt.all l).2.length <= m := by
   have := (Pl.Wt.all_good l l.length (Nat.le_refl _)).2
   rw [List.take_of_length_le (Nat.le_refl _), hm] at this
   exact this
 clear h hm hlv
 generalize (Pl.Wt.all l).2 = sl at *
 go_enter Tryz.func17, Tryz.ntmps17
 go_wp2_with fail
 refine AL.out.mono ?_
 rintro e w1 ⟨As, cs, qs, ms, rfl, ⟨hms, hOs⟩, hC⟩
 have C1 := Ad hC
 have HM := Ad hms
 have H := Ad hOs
 have hlen := hOs.rd.len63 hms
 have hms9 : ms <= 1000 := by omega
 have NO := Ad (Ow.nil Fv w1 w.heap.size)
 clear hC hOs AL hms hsl
 go_wp2_with fail
 go_loopw [6, 19] (fun v i wr => ∃ k : Nat, k <= ms /\ i = .int .i64 k /\ (∃ A' c' q' m', v = .slice A' m' c' /\ Aside0 ((Pl.frs (sl.take k)).length = m' /\ m' <= k /\ Ow Fv wr w.heap.size q' A' c' (Pl.frs (sl.take k)))) /\ Aside0 (Ch [] w wr) /\ Aside0 (Ow Siv wr w.heap.size qs As cs sl)) (fun _ i _ => ms - (intOf i).toNat)
 case atStart => exact ⟨0, by omega, rfl, ⟨none, 0, none, 0, rfl, ⟨rfl, Nat.le_refl _, NO.out⟩⟩, C1, H⟩
 case round =>
   obtain ⟨k, hk, rfl, ⟨A1, c1, q1, m1, rfl, OW⟩, CW, HR⟩ := hrel
   by_cases hlt : k < ms
   · obtain ⟨x, hx⟩ : ∃ x, sl[k]? = some x := ⟨_, List.getElem?_eq_getElem (by rw [HM.out]; exact hlt)⟩
     obtain ⟨g, o, rfl, hrc⟩ := HR.out.rd.cells hx
     have R := Ad (show wr.rangeAt g (o + k * 16) (Siv.enc x) from fun j v hv => hrc j v hv)
     have DS := Ad (show Pl.frs (sl.take (k + 1)) = Pl.frs (sl.take k) ++ (if x.kind = 1 then [x.f] else []) from by rw [List.take_add_one, hx, Option.toList_some]; exact Pl.frs_snoc (sl.take k) x)
     have k0 : (0 : Int) <= (k : Int) := by omega
     have k1 : (k : Int) < (ms : Int) := by omega
     have DN := Ad (Cs.new wr ([Value.int .i64 0, .int .i64 0, .int .i64 0] ++ zf ++ [Value.bool false]) 117)
     have CN := Ad ((Ch.refl [] wr).alloc (.cells ([Value.int .i64 0, .int .i64 0, .int .i64 0] ++ zf ++ [Value.bool false]).toArray 117))
     have P1 := Ad (show ∀ u ∈ Siv.enc x, u.oneCell' = true from fun u hu => Siv.hone x u hu)
     clear hrc hx
     go_wp2_with (first | refine wpList_load_mid rfl 117 (.tmp 21) rfl g (o + k * 16) (by rfl) (Siv.enc x) _ R.out Tryz.underlying117 rfl size117 ?_ | refine wpList_store_all rfl 117 (.tmp 8) (.tmp 22) rfl (Siv.enc x) (by rfl) (by rfl) DN.out rfl size117 P1.out ?_)
     intro wa ha ca
     have CA := Ad (show Ch [] wr wa from CN.out.trans ca (by simp))
     have DA := Ad ha
     have a0 : wa.cell? ⟨wr.heap.size, 0, none⟩ = some (.int .i64 x.kind) := ha.cell (by rfl)
     have hal := ha.lt
     have OA := Ad (OW.out.2.2.on CA.out)
     have HA := Ad (HR.out.on CA.out)
     have AP := Ad (show ∀ j v, (frc x.f)[j]? = some v -> (Siv.enc x)[3 + j]? = some v from fun j v hv => by
       show ((Value.int .i64 x.kind :: .int .i64 x.fro :: .int .i64 x.too :: frc x.f) ++ [Value.bool x.acked])[3 + j]? = some v
       rw [List.cons_append, List.cons_append, List.cons_append, show 3 + j = j + 1 + 1 + 1 by omega, List.getElem?_cons_succ, List.getElem?_cons_succ, List.getElem?_cons_succ, List.getElem?_append_left (List.getElem?_eq_some_iff.1 hv).1]
       exact hv)
     have hm1 : m1 <= k := OW.out.2.1
     clear ha ca DN CN R P1 HR
     by_cases hnd : x.kind = 1
     · have DS2 := Ad (show Pl.frs (sl.take (k + 1)) = Pl.frs (sl.take k) ++ [x.f] from by rw [DS.out, if_pos hnd])
       have CB := Ad ((Ch.refl [] wa).alloc (.cells #[Value.int .i64 x.f.id, .bool x.f.ext, .bool x.f.rtr, .int .i64 x.f.len, .int .u8 x.f.d0, .int .u8 x.f.d1, .int .u8 x.f.d2, .int .u8 x.f.d3, .int .u8 x.f.d4, .int .u8 x.f.d5, .int .u8 x.f.d6, .int .u8 x.f.d7] 49))
       have YW := Ad (Ow.lit Fv wa [x.f] #[Value.int .i64 x.f.id, .bool x.f.ext, .bool x.f.rtr, .int .i64 x.f.len, .int .u8 x.f.d0, .int .u8 x.f.d1, .int .u8 x.f.d2, .int .u8 x.f.d3, .int .u8 x.f.d4, .int .u8 x.f.d5, .int .u8 x.f.d6, .int .u8 x.f.d7] (by rfl) (by decide : 1 <= maxLen)).rd
       have OB := Ad (OA.out.on CB.out)
       have BW := Ad (Nat.le_trans CW.out.size (Nat.le_trans CA.out.size CB.out.size))
       rw [hnd] at a0
       clear hnd DS
       go_upto_region 9 with (fail)
       go_wp2_with (first | (at_builtin; refine wpList_append_Ow rfl (.tmp 26) (.tmp 29) 60 (by rfl) (by rfl) (some ⟨wa.heap.size, 0, none⟩) 1 1 [x.f] (by rfl) (by rfl) OW.out.1 OB.out YW.out rfl (by show (m1 + 1) * 32 <= _; omega) BW.out ?_) | refine wpList_load_Cs rfl 49 (.tmp 27) rfl 3 [Value.int .i64 x.f.id, .bool x.f.ext, .bool x.f.rtr, .int .i64 x.f.len, .int .u8 x.f.d0, .int .u8 x.f.d1, .int .u8 x.f.d2, .int .u8 x.f.d3, .int .u8 x.f.d4, .int .u8 x.f.d5, .int .u8 x.f.d6, .int .u8 x.f.d7] (by rfl) DA.out AP.out Tryz.underlying49 rfl size49 ?_)
       intro A5 c5 q5 w5 hO5 hC5 hq5
       have O5 := Ad (show (Pl.frs (sl.take (k + 1))).length = m1 + 1 /\ m1 + 1 <= k + 1 /\ Ow Fv w5 w.heap.size q5 A5 c5 (Pl.frs (sl.take (k + 1))) from by
         rw [DS2.out]
         exact ⟨by rw [List.length_append, OW.out.1]; rfl, by omega, hO5⟩)
       have C5 := Ad (show Ch [] w w5 from (((CW.out.then CA.out).then CB.out)).trans hC5 (fun y hy => by rw [Option.mem_toList] at hy; exact .inr (OB.out.size y hy).1))
       have H5 := Ad ((HA.out.on CB.out).keep hC5 (fun j hj hm => by
         rw [Option.mem_toList] at hm
         obtain ⟨cur, hc⟩ := (hj ▸ HA.out : Ow Siv wa w.heap.size (some j) _ cs sl).blk
         obtain ⟨cur2, hc2⟩ := (hm ▸ OA.out : Ow Fv wa w.heap.size (some j) A1 c1 _).blk
         exact blk_ne hc2 hc (by decide) rfl))
       clear hO5 hC5 hq5 a0 hal
       go_wp2_with fail
       go_roundw
       case rel => exact ⟨k + 1, by omega, by go_num, ⟨A5, c5, q5, m1 + 1, rfl, O5⟩, C5, H5⟩
       case measure => simp [intOf]; omega
     · have O5 := Ad (show (Pl.frs (sl.take (k + 1))).length = m1 /\ m1 <= k + 1 /\ Ow Fv wa w.heap.size q1 A1 c1 (Pl.frs (sl.take (k + 1))) from by
         rw [DS.out, if_neg hnd, List.append_nil]
         exact ⟨OW.out.1, by omega, OA.out⟩)
       have C5 := Ad (CW.out.then CA.out)
       have t1 : (x.kind == 1) = false := by rw [beq_eq_false_iff_ne]; exact hnd
       clear DS
       go_wp2_with fail
       go_roundw
       case rel => exact ⟨k + 1, by omega, by go_num, ⟨A1, c1, q1, m1, rfl, O5⟩, C5, HA⟩
       case measure => simp [intOf]; omega
   · have hkm : k = ms := by omega
     subst hkm
     have e : sl.take k = sl := List.take_of_length_le (by rw [HM.out]; exact Nat.le_refl _)
     rw [e] at OW
     go_wp2_with fail
     go_ret2
     exact ⟨A1, c1, q1, m1, rfl, ⟨OW.out.1, OW.out.2.2⟩, CW.out⟩
end Go.Proofs.YtjoehjclaonneaaGreat
