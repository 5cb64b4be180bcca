/- A part of the proof of TopReplay (no condition of its own). -/
import Derived.Test.YtjoehjclaonneaaGreatMS
import Derived.Test.YtjoehjclaonneaaGreatMP
import Derived.Test.YtjoehjclaonneaaGreatMM
namespace Go.Proofs.YtjoehjclaonneaaGreat
open Go.RowKit Go.Proofs.YtjoehjclaonneaaGreatW.PrintWords
set_option maxHeartbeats 8000000
set_option linter.unusedVariables false
set_option linter.unusedSimpArgs false
set_option maxRecDepth 100000 in
theorem alive_calls (w : World) : Calls Tryz.prog 5 #[] w fun e w' => e = .returned (.bool true) /\ Ch [] w w' := by
 obtain ⟨R, hR⟩ : ∃ R, Pl.jn (Pl.Bus.rs Pl.AL (Pl.Bus.fresh 3) 200) = R := ⟨_, rfl⟩
 have REC : Lo.Rec R 16 200 13 := hR ▸ Pl.rs_rec Pl.AL (Pl.Bus.fresh 3) 200 16 13 (by decide) (by decide) (by decide) (by intro k hk; omega) (by decide)
 obtain ⟨OKB, LEN⟩ := REC.okB (by decide)
 have SAME := REC.same (by rw [<- hR]; exact Pl.rs_jj _ _ _)
 have LVS : (List.range 200).map (fun i => (Pl.tk R i).bus) = (Pl.Bus.rs Pl.AL (Pl.Bus.fresh 3) 200).map (·.bus) := by rw [<- hR]; exact Pl.lv_eq _ _ _
 have LV01 := Pl.bus_lv Pl.AL (Pl.Bus.fresh 3) 200
 have LVL : ((Pl.Bus.rs Pl.AL (Pl.Bus.fresh 3) 200).map (·.bus)).length = 200 := by rw [List.length_map, Pl.rs_length]
 have FRS := Pl.al_frs
 have DLV := Pl.al_dlv
 have NC := Ad (Fl.new_calls 10000 (by decide) (by decide) w)
 have RCC := fun (b pf : Nat) (qf : Option Nat) (Af : Option Addr) (cf sf : Nat) (W : World) (hF : FileAt W b pf qf Af cf 0 [] sf 10000) (A : Option Addr) (h : Rd Av W A 2 Pl.AL) (hA : 0 < Pl.AL.length -> ∀ g' o s, A = some ⟨g', o, s⟩ -> g' ∉ ffp pf qf) => Lo.record_calls 3 200 16 13 Pl.AL A 2 2 rfl (by decide) Pl.al_wf Pl.al_chk (by decide) (hR ▸ REC) (by decide) b pf qf Af cf sf 10000 (by decide) (by rw [hR]; omega) W hF h hA
 rw [hR] at RCC
 have RC := Ad RCC
 have HREC := Ad REC
 have HOKB := Ad OKB
 have HSAME := Ad SAME
 have HLVS := Ad LVS
 have HLV01 := Ad LV01
 have HLVL := Ad LVL
 have HFRS := Ad FRS
 have HDLV := Ad DLV
 have BL : (Lo.ptsB R 16 200 13).length = 13 := by simp [Lo.ptsB]
 have HBL := Ad BL
 clear hR REC OKB SAME LVS LV01 LVL FRS DLV RCC LEN BL
 generalize (Pl.Bus.rs Pl.AL (Pl.Bus.fresh 3) 200).map (·.bus) = lv at *
 generalize Lo.ptsB R 16 200 13 = B at *
 obtain ⟨ev, hev⟩ : ∃ ev, Pl.Bus.es Pl.AL (Pl.Bus.fresh 3) 200 = ev := ⟨_, rfl⟩
 rw [hev] at RC HDLV
 have HEV := Ad hev
 clear hev
 go_enter Tryz.func5, Tryz.ntmps5
 go_wp2_with fail
 refine NC.out.mono ?_
 rintro e w1 ⟨rfl, hF, hC⟩
 have F1 := Ad hF
 have C1 := Ad hC
 have CA := Ad ((Ch.refl [] w1).alloc (.cells #[Value.int .i64 0, .int .i64 0, .bool false, .int .i64 5, .bool false, .bool false, .int .i64 0, .int .u8 0, .int .u8 0, .int .u8 0, .int .u8 0, .int .u8 0, .int .u8 0, .int .u8 0, .int .u8 0, .int .i64 0, .int .i64 1, .bool false, .int .i64 4, .bool false, .bool false, .int .i64 0, .int .u8 0, .int .u8 0, .int .u8 0, .int .u8 0, .int .u8 0, .int .u8 0, .int .u8 0, .int .u8 0] 55))
 have RA := Ad (Ow.lit Av w1 Pl.AL #[Value.int .i64 0, .int .i64 0, .bool false, .int .i64 5, .bool false, .bool false, .int .i64 0, .int .u8 0, .int .u8 0, .int .u8 0, .int .u8 0, .int .u8 0, .int .u8 0, .int .u8 0, .int .u8 0, .int .i64 0, .int .i64 1, .bool false, .int .i64 4, .bool false, .bool false, .int .i64 0, .int .u8 0, .int .u8 0, .int .u8 0, .int .u8 0, .int .u8 0, .int .u8 0, .int .u8 0, .int .u8 0] (by rfl) (by decide : 2 <= maxLen)).rd
 clear hF hC NC
 go_wp2_with fail
 refine (RC.out w.heap.size w.heap.size none none 0 0 _ (F1.out.on CA.out) _ RA.out (fun _ g' o s hg hm => ?_)).mono ?_
 · cases hg
   have h1 := F1.out.blk.lt
   simp [ffp] at hm
   omega
 rintro e w2 ⟨gt, gl, Aa, ca, Ae, ce, me, qe, Ab, cb, nb, qf, Af, cf, sf, rfl, hT, ⟨hme, hE⟩, hF, hC⟩
 have C2 := Ad (show Ch [] w w2 from (C1.out.then CA.out).trans hC (fun k hk => by simp [ffp] at hk; subst hk; exact .inr (Nat.le_refl _)))
 have T2 := Ad hT
 have E2 := Ad hE
 have ME := Ad hme
 have hme9 : me <= 1000000 := by
   have h1 := Pl.es_length (Pl.fresh_good 3) (l := Pl.AL) (fun a ha => ⟨((Pl.chk_zero Pl.al_chk).2 a ha).2.1, ((Pl.chk_zero Pl.al_chk).2 a ha).2.2.1⟩) 200
   rw [HEV.out, hme] at h1
   omega
 have OC := Ad (Fl.open_calls w.heap.size w.heap.size qf Af cf nb _ sf 10000 w2 hF)
 clear hT hE hF hC hme RC RA CA F1 C1
 go_wp2_with fail
 refine OC.out.mono ?_
 rintro e w3 ⟨p', A', c', q', rfl, hF3, hC3⟩
 have LC := Ad (Lo.open_calls B HOKB.out (by rw [HBL.out]; decide) w2.heap.size p' q' A' c' nb nb 10000 w3 hF3)
 have P3 := Ad hF3.own
 have C3 := Ad hC3
 clear hF3 hC3 OC
 go_wp2_with fail
 refine LC.out.mono ?_
 rintro e w4 ⟨g, q1, q2, rfl, hL, -, hC4, -⟩
 rw [HSAME.out] at hL
 have hlen : R.length <= 1000000 := by
   have h1 := Pl.len_le_tot R (fun r hr => (HREC.out.rgt r hr).1)
   rw [HREC.out.tot] at h1
   omega
 have RUC := Ad (Lo.runs_calls w2.heap.size g p' q1 q2 none R [] _ hlen w4 hL)
 have C4 := Ad hC4
 clear hL hC4 LC hlen
 go_wp2_with fail
 refine RUC.out.mono ?_
 rintro e w5 ⟨A5, c5, q5, m5, rfl, ⟨hm5, hO5⟩, hC5⟩
 have TB := Ad (tbus_calls A5 c5 m5 R hm5 HREC.out.rgt 200 HREC.out.tot (by decide) w5 hO5.rd)
 have C5 := Ad hC5
 clear hm5 hO5 hC5 RUC
 go_wp2_with fail
 refine TB.out.mono ?_
 rintro e w6 ⟨A6, c6, rfl, hR6, hC6⟩
 rw [HLVS.out] at hR6
 have WF := Ad (wframes_calls A6 c6 200 lv HLVL.out (by decide) HLV01.out w6 hR6)
 have C6 := Ad hC6
 clear hR6 hC6 TB
 go_wp2_with fail
 refine WF.out.mono ?_
 rintro e w7 ⟨A7, c7, q7, m7, rfl, ⟨hm7, hO7⟩, hC7⟩
 rw [HFRS.out] at hm7 hO7
 have hm7 : 2 = m7 := hm7
 subst hm7
 have C47 := Ad (show Ch [p'] w2 w7 from (((C3.out.sub (by simp)).then C4.out).then (C5.out.sub (by simp)) |>.then (C6.out.sub (by simp))).then (hC7.sub (by simp)))
 have np : ∀ k, k < w2.heap.size -> k ∉ [p'] := fun k hk hm => by
   have := P3.out
   simp at hm
   omega
 have DC := Ad (Lo.delivered_calls gt 3 2 (by decide) (by decide) _ _ _ Ae ce me ev ME.out hme9 w7 (T2.out.keep C47.out (np _ T2.out.lt)) (E2.out.keep C47.out (fun k hk => np _ (E2.out.size k hk).2)).rd)
 have O7 := Ad hO7
 have C7 := Ad (show Ch [] w w7 from C2.out.trans C47.out (fun k hk => by
   have h1 := P3.out
   have h2 := C2.out.size
   simp at hk
   subst hk
   exact .inr (by omega)))
 clear hO7 hC7 WF np C47 C3 C4 C5 C6
 go_wp2_with fail
 refine DC.out.mono ?_
 rintro e w8 ⟨A8, c8, q8, m8, rfl, ⟨hm8, hO8⟩, hC8⟩
 rw [show Pl.dlv ((2 : Nat) : Int) ev = [Pl.F4, Pl.F5] from HDLV.out] at hm8 hO8
 have hm8 : 2 = m8 := hm8
 subst hm8
 obtain ⟨g7, o7, rfl, hc7⟩ := (O7.out.on hC8).rd.cells (k := 0) (x := Pl.F4) rfl
 obtain ⟨g7', o7', e7, hd7⟩ := (O7.out.on hC8).rd.cells (k := 1) (x := Pl.F5) rfl
 cases e7
 obtain ⟨g8, o8, rfl, hc8⟩ := hO8.rd.cells (k := 0) (x := Pl.F4) rfl
 obtain ⟨g8', o8', e8, hd8⟩ := hO8.rd.cells (k := 1) (x := Pl.F5) rfl
 cases e8
 have C8 := Ad (C7.out.then hC8)
 have a0 : w8.cell? ⟨g7, o7, none⟩ = some (.int .i64 4) := hc7 0 _ rfl
 have a1 : w8.cell? ⟨g7, o7 + 1, none⟩ = some (.bool false) := hc7 1 _ rfl
 have a2 : w8.cell? ⟨g7, o7 + 2, none⟩ = some (.bool false) := hc7 2 _ rfl
 have a3 : w8.cell? ⟨g7, o7 + 3, none⟩ = some (.int .i64 0) := hc7 3 _ rfl
 have a4 : w8.cell? ⟨g7, o7 + 4, none⟩ = some (.int .u8 0) := hc7 4 _ rfl
 have a5 : w8.cell? ⟨g7, o7 + 5, none⟩ = some (.int .u8 0) := hc7 5 _ rfl
 have a6 : w8.cell? ⟨g7, o7 + 6, none⟩ = some (.int .u8 0) := hc7 6 _ rfl
 have a7 : w8.cell? ⟨g7, o7 + 7, none⟩ = some (.int .u8 0) := hc7 7 _ rfl
 have a8 : w8.cell? ⟨g7, o7 + 8, none⟩ = some (.int .u8 0) := hc7 8 _ rfl
 have a9 : w8.cell? ⟨g7, o7 + 9, none⟩ = some (.int .u8 0) := hc7 9 _ rfl
 have a10 : w8.cell? ⟨g7, o7 + 10, none⟩ = some (.int .u8 0) := hc7 10 _ rfl
 have a11 : w8.cell? ⟨g7, o7 + 11, none⟩ = some (.int .u8 0) := hc7 11 _ rfl
 have b0 : w8.cell? ⟨g8, o8, none⟩ = some (.int .i64 4) := hc8 0 _ rfl
 have b1 : w8.cell? ⟨g8, o8 + 1, none⟩ = some (.bool false) := hc8 1 _ rfl
 have b2 : w8.cell? ⟨g8, o8 + 2, none⟩ = some (.bool false) := hc8 2 _ rfl
 have b3 : w8.cell? ⟨g8, o8 + 3, none⟩ = some (.int .i64 0) := hc8 3 _ rfl
 have b4 : w8.cell? ⟨g8, o8 + 4, none⟩ = some (.int .u8 0) := hc8 4 _ rfl
 have b5 : w8.cell? ⟨g8, o8 + 5, none⟩ = some (.int .u8 0) := hc8 5 _ rfl
 have b6 : w8.cell? ⟨g8, o8 + 6, none⟩ = some (.int .u8 0) := hc8 6 _ rfl
 have b7 : w8.cell? ⟨g8, o8 + 7, none⟩ = some (.int .u8 0) := hc8 7 _ rfl
 have b8 : w8.cell? ⟨g8, o8 + 8, none⟩ = some (.int .u8 0) := hc8 8 _ rfl
 have b9 : w8.cell? ⟨g8, o8 + 9, none⟩ = some (.int .u8 0) := hc8 9 _ rfl
 have b10 : w8.cell? ⟨g8, o8 + 10, none⟩ = some (.int .u8 0) := hc8 10 _ rfl
 have b11 : w8.cell? ⟨g8, o8 + 11, none⟩ = some (.int .u8 0) := hc8 11 _ rfl
 have c0 : w8.cell? ⟨g7, o7 + 12, none⟩ = some (.int .i64 5) := hd7 0 _ rfl
 have c1 : w8.cell? ⟨g7, o7 + 12 + 1, none⟩ = some (.bool false) := hd7 1 _ rfl
 have c2 : w8.cell? ⟨g7, o7 + 12 + 2, none⟩ = some (.bool false) := hd7 2 _ rfl
 have c3 : w8.cell? ⟨g7, o7 + 12 + 3, none⟩ = some (.int .i64 0) := hd7 3 _ rfl
 have c4 : w8.cell? ⟨g7, o7 + 12 + 4, none⟩ = some (.int .u8 0) := hd7 4 _ rfl
 have c5 : w8.cell? ⟨g7, o7 + 12 + 5, none⟩ = some (.int .u8 0) := hd7 5 _ rfl
 have c6 : w8.cell? ⟨g7, o7 + 12 + 6, none⟩ = some (.int .u8 0) := hd7 6 _ rfl
 have c7 : w8.cell? ⟨g7, o7 + 12 + 7, none⟩ = some (.int .u8 0) := hd7 7 _ rfl
 have c8 : w8.cell? ⟨g7, o7 + 12 + 8, none⟩ = some (.int .u8 0) := hd7 8 _ rfl
 have c9 : w8.cell? ⟨g7, o7 + 12 + 9, none⟩ = some (.int .u8 0) := hd7 9 _ rfl
 have c10 : w8.cell? ⟨g7, o7 + 12 + 10, none⟩ = some (.int .u8 0) := hd7 10 _ rfl
 have c11 : w8.cell? ⟨g7, o7 + 12 + 11, none⟩ = some (.int .u8 0) := hd7 11 _ rfl
 have d0 : w8.cell? ⟨g8, o8 + 12, none⟩ = some (.int .i64 5) := hd8 0 _ rfl
 have d1 : w8.cell? ⟨g8, o8 + 12 + 1, none⟩ = some (.bool false) := hd8 1 _ rfl
 have d2 : w8.cell? ⟨g8, o8 + 12 + 2, none⟩ = some (.bool false) := hd8 2 _ rfl
 have d3 : w8.cell? ⟨g8, o8 + 12 + 3, none⟩ = some (.int .i64 0) := hd8 3 _ rfl
 have d4 : w8.cell? ⟨g8, o8 + 12 + 4, none⟩ = some (.int .u8 0) := hd8 4 _ rfl
 have d5 : w8.cell? ⟨g8, o8 + 12 + 5, none⟩ = some (.int .u8 0) := hd8 5 _ rfl
 have d6 : w8.cell? ⟨g8, o8 + 12 + 6, none⟩ = some (.int .u8 0) := hd8 6 _ rfl
 have d7 : w8.cell? ⟨g8, o8 + 12 + 7, none⟩ = some (.int .u8 0) := hd8 7 _ rfl
 have d8 : w8.cell? ⟨g8, o8 + 12 + 8, none⟩ = some (.int .u8 0) := hd8 8 _ rfl
 have d9 : w8.cell? ⟨g8, o8 + 12 + 9, none⟩ = some (.int .u8 0) := hd8 9 _ rfl
 have d10 : w8.cell? ⟨g8, o8 + 12 + 10, none⟩ = some (.int .u8 0) := hd8 10 _ rfl
 have d11 : w8.cell? ⟨g8, o8 + 12 + 11, none⟩ = some (.int .u8 0) := hd8 11 _ rfl
 have Q4 : ∀ w : World, (binOp .eql 49 (.agg #[Value.int .i64 4, .bool false, .bool false, .int .i64 0, .int .u8 0, .int .u8 0, .int .u8 0, .int .u8 0, .int .u8 0, .int .u8 0, .int .u8 0, .int .u8 0]) (.agg #[Value.int .i64 4, .bool false, .bool false, .int .i64 0, .int .u8 0, .int .u8 0, .int .u8 0, .int .u8 0, .int .u8 0, .int .u8 0, .int .u8 0, .int .u8 0])).run Tryz.prog w = .ok (.bool true) w := fun w => (eq_frame w Pl.F4 Pl.F4).trans (by rw [decide_eq_true rfl])
 have Q5 : ∀ w : World, (binOp .eql 49 (.agg #[Value.int .i64 5, .bool false, .bool false, .int .i64 0, .int .u8 0, .int .u8 0, .int .u8 0, .int .u8 0, .int .u8 0, .int .u8 0, .int .u8 0, .int .u8 0]) (.agg #[Value.int .i64 5, .bool false, .bool false, .int .i64 0, .int .u8 0, .int .u8 0, .int .u8 0, .int .u8 0, .int .u8 0, .int .u8 0, .int .u8 0, .int .u8 0])).run Tryz.prog w = .ok (.bool true) w := fun w => (eq_frame w Pl.F5 Pl.F5).trans (by rw [decide_eq_true rfl])
 clear hc7 hd7 hc8 hd8 hO8 hC8 DC O7
 go_upto_region 13 with (fail)
 go_quiet (fail)
 go_wp2_with fail
 go_ret
 exact ⟨rfl, C8.out.drewN _⟩
set_option maxRecDepth 100000 in
theorem top_else (n T : Int) (hn : -9223372036854775808 <= n /\ n <= 9223372036854775807) (hT : -9223372036854775808 <= T /\ T <= 9223372036854775807) (rep : Nat) (A : Option Addr) (c m : Nat) (l : List Act') (hm : l.length = m) (hwf : ∀ a ∈ l, a.f.wf) (w : World) (h : Rd Av w A c l)
   (hG : ¬ (m <= 30 /\ n <= 8 /\ 0 <= T /\ T <= 300 /\ Pl.chk n l = 0)) :
   Calls Tryz.prog 3 #[.slice A m c, .agg #[.int .i64 n, .int .i64 T], .int .u32 rep] w fun e w' => e = .returned (.bool true) /\ Ch [] w w' := by
 have hlen := h.len63 hm
 have D0 := Cs.new w [Value.int .i64 n, .int .i64 T] 24
 have C1 := Ad ((Ch.refl [] w).alloc (.cells [Value.int .i64 n, .int .i64 T].toArray 24))
 obtain ⟨w1, hw1⟩ : ∃ w1, w.alloc (.cells [Value.int .i64 n, .int .i64 T].toArray 24) = w1 := ⟨_, rfl⟩
 rw [hw1] at C1 D0
 have x0 : w1.cell? ⟨w.heap.size, 0, none⟩ = some (.int .i64 n) := D0.cell (by rfl)
 have x1 : w1.cell? ⟨w.heap.size, 1, none⟩ = some (.int .i64 T) := D0.cell (by rfl)
 have hl1 := D0.lt
 have AL := Ad (fun W => alive_calls W)
 have BC := Ad (bcheck_calls n A c m l hm hwf w1 (h.on C1.out))
 have HW1 := Ad hw1
 clear hw1 D0 h hm hwf
 generalize Pl.chk n l = z at *
 go_enter Tryz.func3, Tryz.ntmps3
 by_cases a1 : (30 : Int) < m
 · clear BC hG
   go_upto_region 1 with (fail)
   rw [HW1.out]
   go_wp2_with fail
   refine (AL.out w1).mono ?_
   rintro e w2 ⟨rfl, hC⟩
   have C2 := Ad (C1.out.then hC)
   clear hC
   go_wp2_with fail
   go_ret
   exact ⟨rfl, C2.out⟩
 have g1 : m <= 30 := by omega
 by_cases a2 : (8 : Int) < n
 · clear BC hG
   go_upto_region 1 with (fail)
   rw [HW1.out]
   go_wp2_with fail
   refine (AL.out w1).mono ?_
   rintro e w2 ⟨rfl, hC⟩
   have C2 := Ad (C1.out.then hC)
   clear hC
   go_wp2_with fail
   go_ret
   exact ⟨rfl, C2.out⟩
 have g2 : n <= 8 := by omega
 by_cases a3 : T < 0
 · clear BC hG
   go_upto_region 1 with (fail)
   rw [HW1.out]
   go_wp2_with fail
   refine (AL.out w1).mono ?_
   rintro e w2 ⟨rfl, hC⟩
   have C2 := Ad (C1.out.then hC)
   clear hC
   go_wp2_with fail
   go_ret
   exact ⟨rfl, C2.out⟩
 have g3 : 0 <= T := by omega
 by_cases a4 : (300 : Int) < T
 · clear BC hG
   go_upto_region 1 with (fail)
   rw [HW1.out]
   go_wp2_with fail
   refine (AL.out w1).mono ?_
   rintro e w2 ⟨rfl, hC⟩
   have C2 := Ad (C1.out.then hC)
   clear hC
   go_wp2_with fail
   go_ret
   exact ⟨rfl, C2.out⟩
 have g4 : T <= 300 := by omega
 have g5 : ¬ z = 0 := fun h => hG ⟨g1, g2, g3, g4, h⟩
 clear hG
 go_upto_region 1 with (fail)
 rw [HW1.out]
 go_wp2_with fail
 refine BC.out.mono ?_
 rintro e w9 ⟨rfl, hC9⟩
 have C9 := Ad (C1.out.then hC9)
 have b5 : (z == 0) = false := by rw [beq_eq_false_iff_ne]; exact g5
 clear hC9 BC
 go_wp2_with fail
 refine (AL.out w9).mono ?_
 rintro e w2 ⟨rfl, hC⟩
 have C2 := Ad (C9.out.then hC)
 clear hC
 go_wp2_with fail
 go_ret
 exact ⟨rfl, C2.out⟩
theorem Pl.stepsE_node (f m : Nat) (lv tick : Int) : ∀ (xs : List Pl.Nd) (i : Nat) (x : Ev), x ∈ Pl.stepsE f m lv tick xs i -> ∃ j : Nat, x.node = j /\ j < i + xs.length
 | [], i, x, h => by simp [Pl.stepsE] at h
 | y :: xs, i, x, h => by
   rw [Pl.stepsE] at h
   rcases List.mem_append.1 h with h | h
   · split at h
     · simp at h
     · obtain ⟨z, _, rfl⟩ := List.mem_map.1 h
       exact ⟨i, rfl, by simp⟩
   · obtain ⟨j, h1, h2⟩ := Pl.stepsE_node f m lv tick xs (i + 1) x h
     exact ⟨j, h1, by simp only [List.length_cons]; omega⟩
theorem Pl.es_node {n : Nat} {l : List Act'} (LN : ∀ a ∈ l, 0 <= a.node /\ a.node < n) : ∀ (T : Nat) (x : Ev), x ∈ Pl.Bus.es l (Pl.Bus.fresh n) T -> ∃ i : Nat, x.node = i /\ i < n
 | 0, x, h => by simp [Pl.Bus.es] at h
 | T + 1, x, h => by
   rw [Pl.Bus.es] at h
   rcases List.mem_append.1 h with h | h
   · exact Pl.es_node LN T x h
   · obtain ⟨g1, -⟩ := Pl.after_good (Pl.fresh_good n) LN T
     obtain ⟨g2, -, -⟩ := Pl.acted_good (Pl.at' l (Pl.Bus.after l (Pl.Bus.fresh n) T).tick) (Pl.Bus.after l (Pl.Bus.fresh n) T, 0) g1 (Nat.pow_pos (by decide)) (fun a ha => LN a (Pl.at_mem ha))
     obtain ⟨j, h1, h2⟩ := Pl.stepsE_node _ _ _ _ _ _ x h
     have hl : ((Pl.Bus.after l (Pl.Bus.fresh n) T).acted (Pl.at' l (Pl.Bus.after l (Pl.Bus.fresh n) T).tick)).1.nodes.length = n := g2.len
     exact ⟨j, h1, by omega⟩
set_option maxRecDepth 100000 in
theorem top_main (n T : Nat) (rep : Nat) (hrep : rep < 4294967296) (A : Option Addr) (c m : Nat) (l : List Act') (hm : l.length = m) (hwf : ∀ a ∈ l, a.f.wf) (w : World) (h : Rd Av w A c l) (g1 : m <= 30) (g2 : n <= 8) (g4 : T <= 300) (g5 : Pl.chk n l = 0) :
   Calls Tryz.prog 3 #[.slice A m c, .agg #[.int .i64 n, .int .i64 T], .int .u32 rep] w fun e w' => e = .returned (.bool true) /\ Ch [] w w' := by
 obtain ⟨⟨hn1, hn2⟩, hacts⟩ := Pl.chk_zero g5
 have LN : ∀ a ∈ l, 0 <= a.node /\ a.node < n := fun a ha => ⟨(hacts a ha).2.1, (hacts a ha).2.2.1⟩
 have hlen := h.len63 hm
 obtain ⟨N, hN, hN9⟩ : ∃ N : Nat, N = (T + 36) / 37 /\ N <= 9 := ⟨_, rfl, by omega⟩
 obtain ⟨R, hR⟩ : ∃ R, Pl.jn (Pl.Bus.rs l (Pl.Bus.fresh n) T) = R := ⟨_, rfl⟩
 have REC : Lo.Rec R 37 T N := hR ▸ Pl.rs_rec l (Pl.Bus.fresh n) T 37 N (by omega) (by decide) (by decide) (fun k hk => by omega) (by omega)
 obtain ⟨OKB, LEN⟩ := REC.okB (by omega)
 have SAME := REC.same (by rw [<- hR]; exact Pl.rs_jj _ _ _)
 obtain ⟨mask, hmask⟩ : ∃ mask, rep &&& (2 ^ n - 1) = mask := ⟨_, rfl⟩
 have hm2 : mask < 2 ^ n := by rw [<- hmask]; exact Nat.and_lt_two_pow _ (Nat.sub_lt (Nat.pow_pos (by decide)) (by decide))
 have hp2 : 2 ^ n <= 256 := Nat.pow_le_pow_right (n := 2) (by decide) (show n <= 8 by omega)
 have hp1 : 1 <= 2 ^ n := Nat.pow_pos (by decide)
 have hm32 : mask < 4294967296 := by omega
 obtain ⟨-, RS, ES⟩ := Pl.res_lk LN (by omega) mask T T (Nat.le_refl _)
 rw [hR] at RS ES
 have hexl : (Pl.ex R).length = T := by
   have h1 := Pl.ex_len R (fun r hr => by have := (REC.rgt r hr).1; omega)
   rw [REC.tot] at h1
   omega
 have RR := fun (A : Option Addr) (c : Nat) (X : Option Addr) (cx mx : Nat) (hmx : R.length = mx) (w : World) (h : Rd Av w A c l) (hX : Rd Rv w X cx R) => rerun_calls n mask A c m l hm (by omega) hwf g5 hm2 g2 X cx mx R hmx REC.rgt REC.drv (by rw [REC.tot]; omega) w h hX
 rw [hexl, RS, ES, hR] at RR
 obtain ⟨ev, hev⟩ : ∃ ev, Pl.Bus.es l (Pl.Bus.fresh n) T = ev := ⟨_, rfl⟩
 rw [hev] at RR
 have PL := fun (A : Option Addr) (c : Nat) (w : World) (h : Rd Av w A c l) => play_calls n T A c m l hm (by omega) hwf g5 (by omega) w h
 rw [hR, hev] at PL
 have RCC := fun (b pf : Nat) (qf : Option Nat) (Af : Option Addr) (cf sf : Nat) (W : World) (hF : FileAt W b pf qf Af cf 0 [] sf 1048576) (A : Option Addr) (c : Nat) (h : Rd Av W A c l) (hA : 0 < l.length -> ∀ g' o s, A = some ⟨g', o, s⟩ -> g' ∉ ffp pf qf) => Lo.record_calls n T 37 N l A c m hm (by omega) hwf g5 (by decide) (hR ▸ REC) (by omega) b pf qf Af cf sf 1048576 (by decide) (by rw [hR]; omega) W hF h hA
 rw [hR] at RCC
 have hev9 : ev.length <= 100000 := by
   have h1 := Pl.es_length (Pl.fresh_good n) LN T
   rw [hev] at h1
   have h2 : 4 * n * T <= 32 * 300 := Nat.mul_le_mul (by omega) g4
   omega
 have hnode : ∀ x ∈ ev, ∃ i : Nat, x.node = i /\ i < n := by
   intro x hx
   rw [<- hev] at hx
   exact Pl.es_node LN T x hx
 have hmx : R.length <= 1000000 := by
   have h1 := Pl.len_le_tot R (fun r hr => (REC.rgt r hr).1)
   rw [REC.tot] at h1
   omega
 have D0 := Cs.new w [Value.int .i64 n, .int .i64 T] 24
 have C1 := Ad ((Ch.refl [] w).alloc (.cells [Value.int .i64 n, .int .i64 T].toArray 24))
 obtain ⟨w1, hw1⟩ : ∃ w1, w.alloc (.cells [Value.int .i64 n, .int .i64 T].toArray 24) = w1 := ⟨_, rfl⟩
 rw [hw1] at C1 D0
 have HW1 := Ad hw1
 have H := Ad h
 have BC := Ad (bcheck_calls n A c m l hm hwf w1 (h.on C1.out))
 rw [g5] at BC
 have HRR := Ad RR
 have HPL := Ad PL
 have HRC := Ad RCC
 have HOKB := Ad OKB
 have HSAME := Ad SAME
 have HBL := Ad (show (Lo.ptsB R 37 T N).length = N by simp [Lo.ptsB])
 have HREC := Ad REC
 have HEV := Ad (And.intro hev9 hnode)
 have HMX := Ad hmx
 have AL := Ad (fun W => alive_calls W)
 have MS := Ad hmask
 have BX := Ad D0
 have x0 : w1.cell? ⟨w.heap.size, 0, none⟩ = some (.int .i64 n) := D0.cell (by rfl)
 have x1 : w1.cell? ⟨w.heap.size, 1, none⟩ = some (.int .i64 T) := D0.cell (by rfl)
 have hl1 := D0.lt
 clear hw1 h RR PL RCC OKB SAME REC hev9 hnode hmx RS ES hexl hev hacts LN hm hwf g5 D0 LEN hN hm2 hR
 generalize Lo.ptsB R 37 T N = B at *
 go_enter Tryz.func3, Tryz.ntmps3
 go_upto_region 1 with (fail)
 rw [HW1.out]
 go_wp2_with fail
 refine BC.out.mono ?_
 rintro e w2 ⟨rfl, hC2⟩
 have C2 := Ad (C1.out.then hC2)
 have BX2 := Ad (BX.out.keep hC2 (by simp))
 clear hC2 BC BX x0 x1 hl1 C1 HW1
 have x0 : w2.cell? ⟨w.heap.size, 0, none⟩ = some (.int .i64 n) := BX2.out.cell (by rfl)
 have x1 : w2.cell? ⟨w.heap.size, 1, none⟩ = some (.int .i64 T) := BX2.out.cell (by rfl)
 have hl2 := BX2.out.lt
 have EM := Ad (show bits BinOp.and IntKind.u32 (rep : Int) (((2 : Int) ^ n - 1) % 4294967296) = (mask : Int) from by
   rw [show ((2 : Int) ^ n - 1) % 4294967296 = ((2 ^ n - 1 : Nat) : Int) by
     rw [show ((2 : Int) ^ n) = ((2 ^ n : Nat) : Int) by simp]
     generalize 2 ^ n = P at *
     omega, u32_and_nat rep (2 ^ n - 1) hrep (by omega), MS.out])
 go_upto_region 4 with (fail)
 rw [EM.out]
 have NC := Ad (Fl.new_calls 1048576 (by decide) (by decide) w2)
 have H2 := Ad (H.out.on C2.out)
 clear EM MS hmask x0 x1
 go_wp2_with fail
 refine NC.out.mono ?_
 rintro e w3 ⟨rfl, hF3, hC3⟩
 have BX3 := Ad (BX2.out.keep hC3 (by simp))
 have H3 := Ad (H2.out.on hC3)
 have RC := Ad (HRC.out w2.heap.size w2.heap.size none none 0 0 w3 hF3 A c H3.out (fun h0 g' o s hA hm => by
   obtain ⟨g, o9, e9, hc9⟩ := H2.out.at_ h0
   rw [e9] at hA
   cases hA
   simp [ffp] at hm
   obtain ⟨x, hx⟩ : ∃ x, l[0]? = some x := ⟨_, List.getElem?_eq_getElem h0⟩
   have h9 := hc9 0 x hx 0 _ rfl
   have := World.block_lt_of_cell? _ _ h9
   simp only [] at this
   omega))
 have C3 := Ad (C2.out.then hC3)
 clear NC hF3 hC3 HRC BX2
 have x0 : w3.cell? ⟨w.heap.size, 0, none⟩ = some (.int .i64 n) := BX3.out.cell (by rfl)
 have x1 : w3.cell? ⟨w.heap.size, 1, none⟩ = some (.int .i64 T) := BX3.out.cell (by rfl)
 have hl3 := BX3.out.lt
 go_wp2_with fail
 refine RC.out.mono ?_
 rintro e w4 ⟨gt, gl, Aa, ca, Ae, ce, me, qe, Ab, cb, nb, qf, Af, cf, sf, rfl, -, -, hF4, hC4⟩
 have nf : ∀ k, k < w2.heap.size -> k ∉ ffp w2.heap.size none := fun k hk hm => by simp [ffp] at hm; omega
 have BX4 := Ad (BX3.out.keep hC4 (nf _ hl2))
 have H4 := Ad (H3.out.keep2 hC4 (fun h0 g' o s hA => by
   obtain ⟨g, o9, e9, hc9⟩ := H2.out.at_ h0
   rw [e9] at hA
   cases hA
   obtain ⟨x, hx⟩ : ∃ x, l[0]? = some x := ⟨_, List.getElem?_eq_getElem h0⟩
   exact nf _ (World.block_lt_of_cell? _ _ (hc9 0 x hx 0 _ rfl))))
 have C4 := Ad (show Ch [] w w4 from C3.out.trans hC4 (fun k hk => by simp [ffp] at hk; subst hk; exact .inr (Nat.le_of_lt hl2)))
 have OC := Ad (Fl.open_calls w2.heap.size w2.heap.size qf Af cf nb _ sf 1048576 w4 hF4)
 clear hF4 hC4 RC x0 x1 hl3 BX3 H3 C3 nf H2 C2
 go_wp2_with fail
 refine OC.out.mono ?_
 rintro e w5 ⟨p', A', c', q', rfl, hF5, hC5⟩
 have LC := Ad (Lo.open_calls B HOKB.out (by rw [HBL.out]; omega) w4.heap.size p' q' A' c' nb nb 1048576 w5 hF5)
 have P5 := Ad hF5.own
 have C5 := Ad hC5
 clear hF5 hC5 OC
 go_wp2_with fail
 refine LC.out.mono ?_
 rintro e w6 ⟨g, q1, q2, rfl, hL, -, hC6, -⟩
 rw [HSAME.out] at hL
 have RUC := Ad (Lo.runs_calls w4.heap.size g p' q1 q2 none R [] _ HMX.out w6 hL)
 have C46 := Ad (show Ch [p'] w4 w6 from (C5.out.sub (by simp)).then hC6)
 clear hL hC6 LC C5
 go_wp2_with fail
 refine RUC.out.mono ?_
 rintro e w7 ⟨A7, c7, q7, m7, rfl, ⟨hm7, hO7⟩, hC7⟩
 have C47 := Ad (show Ch [p'] w4 w7 from C46.out.then (hC7.sub (by simp)))
 have np : ∀ k, k < w4.heap.size -> k ∉ [p'] := fun k hk hm => by
   have := P5.out
   simp at hm
   omega
 have BX7 := Ad (BX4.out.keep C47.out (np _ BX4.out.lt))
 have H7 := Ad (H4.out.keep2 C47.out (fun h0 g' o s hA => by
   obtain ⟨g, o9, e9, hc9⟩ := H4.out.at_ h0
   rw [e9] at hA
   cases hA
   obtain ⟨x, hx⟩ : ∃ x, l[0]? = some x := ⟨_, List.getElem?_eq_getElem h0⟩
   exact np _ (World.block_lt_of_cell? _ _ (hc9 0 x hx 0 _ rfl))))
 have C7 := Ad (show Ch [] w w7 from C4.out.trans C47.out (fun k hk => by
   have h1 := P5.out
   have h2 := C4.out.size
   simp at hk
   subst hk
   exact .inr (by omega)))
 have M7 := Ad hm7
 have O7 := Ad hO7.rd
 have PC := Ad (HPL.out A c w7 H7.out)
 clear hm7 hO7 hC7 RUC np C46 C47 C4 BX4 H4 hl2 HPL
 have x0 : w7.cell? ⟨w.heap.size, 0, none⟩ = some (.int .i64 n) := BX7.out.cell (by rfl)
 have x1 : w7.cell? ⟨w.heap.size, 1, none⟩ = some (.int .i64 T) := BX7.out.cell (by rfl)
 have hl7 := BX7.out.lt
 go_wp2_with fail
 refine PC.out.mono ?_
 rintro e w8 ⟨A1, c1, q1', n1, A2, c2, q2', n2, rfl, ⟨hn1', hO1⟩, ⟨hn2', hO2⟩, hC8⟩
 have BX8 := Ad (BX7.out.on hC8)
 have RRC := Ad (HRR.out A c A7 c7 m7 M7.out w8 (H7.out.on hC8) (O7.out.on hC8))
 have O8 := Ad (O7.out.on hC8)
 have R8 := Ad hO1.rd
 have E8 := Ad hO2.rd
 have NR := Ad hn1'
 have NE := Ad hn2'
 have C8 := Ad (C7.out.then hC8)
 clear x0 x1 hl7 PC hn1' hO1 hn2' hO2 hC8 BX7 H7 O7 C7 HRR
 have x0 : w8.cell? ⟨w.heap.size, 0, none⟩ = some (.int .i64 n) := BX8.out.cell (by rfl)
 have hl8 := BX8.out.lt
 go_wp2_with fail
 refine RRC.out.mono ?_
 rintro e w9 ⟨A3, c3, q3', n3, A4, c4, q4', n4, rfl, ⟨hn3, hO3⟩, ⟨hn4, hO4⟩, hC9⟩
 have O9 := Ad (O8.out.on hC9)
 have R9 := Ad (R8.out.on hC9)
 have E9 := Ad (E8.out.on hC9)
 have R3 := Ad hO3.rd
 have E4 := Ad hO4.rd
 have N4 := Ad hn4
 have C9 := Ad (C8.out.then hC9)
 have en1 : n1 = m7 := by rw [<- NR.out, M7.out]
 have en3 : n3 = m7 := by rw [<- hn3, M7.out]
 subst en1
 subst en3
 have LR1 := Ad (lruns_calls A7 A1 c7 c1 n3 R M7.out w9 O9.out R9.out)
 have LR2 := Ad (fun (W : World) (hC : Ch [] w9 W) => lruns_calls A3 A1 c3 c1 n3 R M7.out W (R3.out.on hC) (R9.out.on hC))
 clear x0 hl8 RRC hn3 hO3 hn4 hO4 hC9 BX8 O8 R8 E8 NR C8
 go_wp2_with fail
 refine LR1.out.mono ?_
 rintro e wa ⟨rfl, hCa⟩
 have LR3 := Ad (LR2.out wa hCa)
 have Ca := Ad hCa
 clear LR1 LR2 hCa
 go_wp2_with fail
 refine LR3.out.mono ?_
 rintro e wb ⟨rfl, hCb⟩
 have Cb := Ad (Ca.out.then hCb)
 have Eb := Ad (E9.out.on Cb.out)
 have E4b := Ad (E4.out.on Cb.out)
 have Cwb := Ad (C9.out.then Cb.out)
 have NO := Ad (Ow.nil Evv wb wb.heap.size)
 have hn29 : n2 <= 100000 := by rw [<- NE.out]; exact HEV.out.1
 have en2 := E9.out.len63 NE.out
 clear LR3 hCb Ca E9 E4 C9 R9 R3 O9 Cb
 go_wp2_with fail
 go_loopw [24, 25] (fun v i wr => ∃ k : Nat, k <= n2 /\ i = .int .i64 k /\ (∃ A' c' q' m', v = .slice A' m' c' /\ Aside0 (((ev.take k).filter (fun e => !mask.testBit e.node.toNat)).length = m' /\ m' <= k /\ Ow Evv wr wb.heap.size q' A' c' ((ev.take k).filter (fun e => !mask.testBit e.node.toNat)))) /\ Aside0 (Ch [] wb wr)) (fun _ i _ => n2 - (intOf i).toNat)
 case atStart => exact ⟨0, by omega, rfl, ⟨none, 0, none, 0, rfl, ⟨rfl, Nat.le_refl _, NO.out⟩⟩, ⟨Ch.refl _ _⟩⟩
 case round =>
   obtain ⟨k, hk, rfl, ⟨A5, c5, q5, m5, rfl, OW⟩, CW⟩ := hrel
   by_cases hlt : k < n2
   · obtain ⟨x, hx⟩ : ∃ x, ev[k]? = some x := ⟨_, List.getElem?_eq_getElem (by rw [NE.out]; exact hlt)⟩
     obtain ⟨g9, o9, rfl, hrc⟩ := (Eb.out.on CW.out).cells hx
     obtain ⟨i, hi, hin⟩ := HEV.out.2 x (List.mem_of_getElem? hx)
     have RG := Ad (show wr.rangeAt g9 (o9 + k * 15) (Evv.enc x) from fun j v hv => hrc j v hv)
     have d1 : wr.cell? ⟨g9, o9 + k * 15 + 1, none⟩ = some (.int .i64 i) := by rw [<- hi]; exact hrc 1 _ rfl
     have DS := Ad (show (ev.take (k + 1)).filter (fun e => !mask.testBit e.node.toNat) = (ev.take k).filter (fun e => !mask.testBit e.node.toNat) ++ (if mask.testBit i then [] else [x]) from by
       rw [List.take_add_one, hx, Option.toList_some, List.filter_append]
       congr 1
       rw [List.filter_cons, hi, Int.toNat_natCast]
       cases mask.testBit i <;> rfl)
     have k0 : (0 : Int) <= (k : Int) := by omega
     have k1 : (k : Int) < (n2 : Int) := by omega
     have i0 : (0 : Int) <= (i : Int) := by omega
     have hm1 : m5 <= k := OW.out.2.1
     have hbt : bits BinOp.and IntKind.u32 ((mask : Int) / 2 ^ i) 1 = ((mask / 2 ^ i % 2 : Nat) : Int) := by
       rw [nat_div_pow, and_one _ (Nat.lt_of_le_of_lt (Nat.div_le_self _ _) hm32)]
     have tb : mask.testBit i = decide (mask / 2 ^ i % 2 = 1) := Nat.testBit_eq_decide_div_mod_eq
     have hmod : mask / 2 ^ i % 2 = 0 ∨ mask / 2 ^ i % 2 = 1 := by
       generalize mask / 2 ^ i = y
       omega
     clear hrc hx hi hp1 hp2
     rcases hmod with hmod | hmod
     · rw [hmod] at hbt tb
       have DS2 := Ad (show (ev.take (k + 1)).filter (fun e => !mask.testBit e.node.toNat) = (ev.take k).filter (fun e => !mask.testBit e.node.toNat) ++ [x] from by rw [DS.out, tb]; rfl)
       replace hbt : bits BinOp.and IntKind.u32 ((mask : Int) / 2 ^ i) 1 = 0 := hbt
       have CB := Ad ((Ch.refl [] wr).alloc (.cells #[Value.int .i64 x.tick, .int .i64 x.node, .int .i64 x.kind, .int .i64 x.f.id, .bool x.f.ext, .bool x.f.rtr, .int .i64 x.f.len, .int .u8 x.f.d0, .int .u8 x.f.d1, .int .u8 x.f.d2, .int .u8 x.f.d3, .int .u8 x.f.d4, .int .u8 x.f.d5, .int .u8 x.f.d6, .int .u8 x.f.d7] 51))
       have YW := Ad (Ow.lit Evv wr [x] #[Value.int .i64 x.tick, .int .i64 x.node, .int .i64 x.kind, .int .i64 x.f.id, .bool x.f.ext, .bool x.f.rtr, .int .i64 x.f.len, .int .u8 x.f.d0, .int .u8 x.f.d1, .int .u8 x.f.d2, .int .u8 x.f.d3, .int .u8 x.f.d4, .int .u8 x.f.d5, .int .u8 x.f.d6, .int .u8 x.f.d7] (by rfl) (by decide : 1 <= maxLen)).rd
       have OB := Ad (OW.out.2.2.on CB.out)
       have BW := Ad (Nat.le_trans CW.out.size CB.out.size)
       clear tb DS hmod
       go_upto_region 22 with (fail)
       go_wp2_with (first | (at_builtin; refine wpList_append_Ow rfl (.tmp 169) (.tmp 174) 42 (by rfl) (by rfl) (some ⟨wr.heap.size, 0, none⟩) 1 1 [x] (by rfl) (by rfl) OW.out.1 OB.out YW.out rfl (by show (m5 + 1) * 56 <= _; omega) BW.out ?_) | refine wpList_load_mid rfl 51 (.tmp 172) rfl g9 (o9 + k * 15) (by rfl) [Value.int .i64 x.tick, .int .i64 x.node, .int .i64 x.kind, .int .i64 x.f.id, .bool x.f.ext, .bool x.f.rtr, .int .i64 x.f.len, .int .u8 x.f.d0, .int .u8 x.f.d1, .int .u8 x.f.d2, .int .u8 x.f.d3, .int .u8 x.f.d4, .int .u8 x.f.d5, .int .u8 x.f.d6, .int .u8 x.f.d7] _ RG.out Tryz.underlying51 rfl size51 ?_)
       intro A6 c6 q6 w6' hO6 hC6 hq6
       have O6 := Ad (show ((ev.take (k + 1)).filter (fun e => !mask.testBit e.node.toNat)).length = m5 + 1 /\ m5 + 1 <= k + 1 /\ Ow Evv w6' wb.heap.size q6 A6 c6 ((ev.take (k + 1)).filter (fun e => !mask.testBit e.node.toNat)) from by
         rw [DS2.out]
         exact ⟨by rw [List.length_append, OW.out.1]; rfl, by omega, hO6⟩)
       have C6 := Ad (show Ch [] wb w6' from (CW.out.then CB.out).trans hC6 (fun y hy => by rw [Option.mem_toList] at hy; exact .inr (OB.out.size y hy).1))
       clear hO6 hC6 hq6
       go_wp2_with fail
       go_roundw
       case rel => exact ⟨k + 1, by omega, by go_num, ⟨A6, c6, q6, m5 + 1, rfl, O6⟩, C6⟩
       case measure => simp [intOf]; omega
     · rw [hmod] at hbt tb
       have O6 := Ad (show ((ev.take (k + 1)).filter (fun e => !mask.testBit e.node.toNat)).length = m5 /\ m5 <= k + 1 /\ Ow Evv wr wb.heap.size q5 A5 c5 ((ev.take (k + 1)).filter (fun e => !mask.testBit e.node.toNat)) from by
         rw [DS.out, tb, decide_eq_true rfl, if_pos rfl, List.append_nil]
         exact ⟨OW.out.1, by omega, OW.out.2.2⟩)
       replace hbt : bits BinOp.and IntKind.u32 ((mask : Int) / 2 ^ i) 1 = 1 := hbt
       clear tb DS hmod
       go_wp2_with fail
       go_roundw
       case rel => exact ⟨k + 1, by omega, by go_num, ⟨A5, c5, q5, m5, rfl, O6⟩, CW⟩
       case measure => simp [intOf]; omega
   · have hkn : k = n2 := by omega
     subst hkn
     have e : ev.take k = ev := List.take_of_length_le (by rw [NE.out]; exact Nat.le_refl _)
     rw [e] at OW
     have en4 : m5 = n4 := by rw [<- OW.out.1, N4.out]
     subst en4
     have LE := Ad (levents_calls A4 A5 c4 c5 m5 _ OW.out.1 wr (E4b.out.on CW.out) OW.out.2.2.rd)
     clear e hlt hk
     go_wp2_with fail
     refine LE.out.mono ?_
     rintro e wc ⟨rfl, hCc⟩
     have Cc := Ad (show Ch [] w wc from (Cwb.out.then CW.out).then hCc)
     clear hCc LE
     go_wp2_with fail
     refine (AL.out wc).mono ?_
     rintro e wd ⟨rfl, hCd⟩
     have Cd := Ad (Cc.out.then hCd)
     clear hCd Cc
     go_wp2_with fail
     go_ret
     exact ⟨rfl, Cd.out⟩
end Go.Proofs.YtjoehjclaonneaaGreat
