/- A part of the proof of TopReplay (no condition of its own). -/
import Derived.Test.YtjoehjclaonneaaGreatME
import Derived.Test.YtjoehjclaonneaaGreatMC
namespace Go.Proofs.YtjoehjclaonneaaGreat
open Go.RowKit Go.Proofs.YtjoehjclaonneaaGreatW.PrintWords
set_option maxHeartbeats 8000000
set_option linter.unusedVariables false
set_option linter.unusedSimpArgs false
section
section
variable {w w1 : World} {b g gt : Nat} {F F1 : List Nat} {x x' : Pl.Nd} {t t' : Pl.Td} {v : Value} {e : Ending}
theorem NT.count (h : NT w b g gt F x t) (c : Ct.Ct) : NT (((w.setCell ⟨g, 11, none⟩ (.int .i64 c.t)).setCell ⟨g, 12, none⟩ (.int .i64 c.r)).setCell ⟨g, 13, none⟩ (.bool c.o)) b g gt F (x.count c) t /\ St F w (((w.setCell ⟨g, 11, none⟩ (.int .i64 c.t)).setCell ⟨g, 12, none⟩ (.int .i64 c.r)).setCell ⟨g, 13, none⟩ (.bool c.o)) F := by
 have h1 := h.set 11 (.int .i64 c.t) { x with t := c.t } (fun _ => rfl) rfl rfl rfl
 have h2 := h1.1.set 12 (.int .i64 c.r) { x with t := c.t, r := c.r } (fun _ => rfl) rfl rfl rfl
 have h3 := h2.1.set 13 (.bool c.o) (x.count c) (fun _ => rfl) rfl rfl rfl
 exact ⟨h3.1, h1.2.trans (h2.2.trans h3.2)⟩
theorem charge_calls (h : NT w b g gt F x t) (n : Int) (hk : t.kinds.length <= 100) :
   Calls Tryz.prog 130 #[.pointer (some ⟨g, 0, none⟩), .pointer (some ⟨gt, 0, none⟩), .int .i64 n] w (Res w b g gt F (x.charge t n).1 (x.charge t n).2.1 (.bool (x.charge t n).2.2)) := by
 obtain ⟨L, hL⟩ := h.node
 have c7 : w.cell? ⟨g, 7, none⟩ = some (.bool x.tx) := hL.cs.cell (by rfl)
 have c11 : w.cell? ⟨g, 11, none⟩ = some (.int .i64 x.t) := hL.cs.cell (by rfl)
 have c12 : w.cell? ⟨g, 12, none⟩ = some (.int .i64 x.r) := hL.cs.cell (by rfl)
 have c13 : w.cell? ⟨g, 13, none⟩ = some (.bool x.off) := hL.cs.cell (by rfl)
 have H := Ad h
 have HL := Ad hL
 have HK := Ad hk
 obtain ⟨c, hc⟩ : ∃ c, (if x.tx then Ct.txC x.ct else Ct.rxC x.ct n) = c := ⟨_, rfl⟩
 have CH := Ad (show x.charge t n = if (x.count c).state ≠ 2 then (x.count c, t, true) else ({ (x.count c).turn 10 with rows := 0 }, t.tell 10, false) by unfold Pl.Nd.charge; rw [hc])
 obtain ⟨ct, cr, co⟩ := c
 have HC := Ad hc
 clear h hL hc hk
 cases htx : x.tx
 · rw [htx] at c7
   have TX := Ad (Ct.Rx_uni x.t x.r x.off n ct cr co (by rw [<- HC.out, htx]; rfl) w)
   unfold Ct.cv at TX
   go_enter Tryz.func130, Tryz.ntmps130
   go_wp2_with fail
   refine TX.out.mono ?_
   rintro e w1 ⟨rfl, hB⟩
   have H1 := H.out.on (Ch.of_below hB)
   have S1 := Ad (St.of (F := F) (Ch.of_below (F := []) hB))
   have hL1 := HL.out.on (Ch.of_below hB)
   have d11 : w1.cell? ⟨g, 11, none⟩ = some (.int .i64 x.t) := hL1.cs.cell (by rfl)
   have d12 : w1.cell? ⟨g, 12, none⟩ = some (.int .i64 x.r) := hL1.cs.cell (by rfl)
   have d13 : w1.cell? ⟨g, 13, none⟩ = some (.bool x.off) := hL1.cs.cell (by rfl)
   have f11 := hL1.cs.free 11
   have f12 := hL1.cs.free 12
   have f13 := hL1.cs.free 13
   have h2 := H1.count ⟨ct, cr, co⟩
   obtain ⟨w2, hw2⟩ : ∃ w2, ((w1.setCell ⟨g, 11, none⟩ (.int .i64 ct)).setCell ⟨g, 12, none⟩ (.int .i64 cr)).setCell ⟨g, 13, none⟩ (.bool co) = w2 := ⟨_, rfl⟩
   rw [hw2] at h2
   have H2 := Ad h2.1
   have S2 := Ad (S1.out.trans h2.2)
   have HW := Ad hw2
   have SC := Ad (Ct.state_calls ct cr co (x.count ⟨ct, cr, co⟩).state rfl w2)
   unfold Ct.cv at SC
   clear hB H1 hL1 h2 hw2 TX
   go_wp2_with fail
   rw [HW.out]
   refine SC.out.mono ?_
   rintro e w3 ⟨rfl, hB⟩
   have H3 := Ad (H2.out.on (Ch.of_below hB))
   have S3 := Ad (S2.out.trans (St.of (Ch.of_below hB)))
   clear hB
   by_cases hs : (x.count ⟨ct, cr, co⟩).state = 2
   · have RES := Ad (show x.charge t n = ({ (x.count ⟨ct, cr, co⟩).turn 10 with rows := 0 }, t.tell 10, false) by rw [CH.out, if_neg (fun h => h hs)])
     rw [hs]
     have TC := Ad (turn_calls H3.out 10)
     clear hs
     go_wp2_with fail
     refine TC.out.mono ?_
     rintro e w4 ⟨rfl, F4, h4, s4⟩
     obtain ⟨L4, hL4⟩ := h4.node
     have e6 : w4.cell? ⟨g, 6, none⟩ = some (.int .i64 ((x.count ⟨ct, cr, co⟩).turn 10).rows) := hL4.cs.cell (by rfl)
     have f6 := hL4.cs.free 6
     have h5 := h4.set 6 (.int .i64 0) { (x.count ⟨ct, cr, co⟩).turn 10 with rows := 0 } (fun _ => rfl) rfl rfl rfl
     have TL := Ad (tell_calls h5.1 10 HK.out)
     have S5 := Ad (S3.out.trans (s4.trans h5.2))
     clear h5 hL4 h4 s4 TC
     go_wp2_with fail
     refine TL.out.mono ?_
     rintro e w6 ⟨rfl, F6, h6, s6⟩
     have H6 := Ad h6
     have S6 := Ad (S5.out.trans s6)
     clear h6 s6
     go_wp2_with fail
     go_ret
     rw [RES.out]
     exact ⟨rfl, F6, H6.out, S6.out⟩
   · have RES := Ad (show x.charge t n = (x.count ⟨ct, cr, co⟩, t, true) by rw [CH.out, if_pos hs])
     have hs2 : ((x.count ⟨ct, cr, co⟩).state == 2) = false := by simpa using hs
     clear hs
     go_wp2_with fail
     go_ret
     rw [RES.out]
     exact ⟨rfl, F, H3.out, S3.out⟩
 · rw [htx] at c7
   have TX := Ad (Ct.Tx_uni x.t x.r x.off ct cr co (by rw [<- HC.out, htx]; rfl) w)
   unfold Ct.cv at TX
   go_enter Tryz.func130, Tryz.ntmps130
   go_wp2_with fail
   refine TX.out.mono ?_
   rintro e w1 ⟨rfl, hB⟩
   have H1 := H.out.on (Ch.of_below hB)
   have S1 := Ad (St.of (F := F) (Ch.of_below (F := []) hB))
   have hL1 := HL.out.on (Ch.of_below hB)
   have d11 : w1.cell? ⟨g, 11, none⟩ = some (.int .i64 x.t) := hL1.cs.cell (by rfl)
   have d12 : w1.cell? ⟨g, 12, none⟩ = some (.int .i64 x.r) := hL1.cs.cell (by rfl)
   have d13 : w1.cell? ⟨g, 13, none⟩ = some (.bool x.off) := hL1.cs.cell (by rfl)
   have f11 := hL1.cs.free 11
   have f12 := hL1.cs.free 12
   have f13 := hL1.cs.free 13
   have h2 := H1.count ⟨ct, cr, co⟩
   obtain ⟨w2, hw2⟩ : ∃ w2, ((w1.setCell ⟨g, 11, none⟩ (.int .i64 ct)).setCell ⟨g, 12, none⟩ (.int .i64 cr)).setCell ⟨g, 13, none⟩ (.bool co) = w2 := ⟨_, rfl⟩
   rw [hw2] at h2
   have H2 := Ad h2.1
   have S2 := Ad (S1.out.trans h2.2)
   have HW := Ad hw2
   have SC := Ad (Ct.state_calls ct cr co (x.count ⟨ct, cr, co⟩).state rfl w2)
   unfold Ct.cv at SC
   clear hB H1 hL1 h2 hw2 TX
   go_wp2_with fail
   rw [HW.out]
   refine SC.out.mono ?_
   rintro e w3 ⟨rfl, hB⟩
   have H3 := Ad (H2.out.on (Ch.of_below hB))
   have S3 := Ad (S2.out.trans (St.of (Ch.of_below hB)))
   clear hB
   by_cases hs : (x.count ⟨ct, cr, co⟩).state = 2
   · have RES := Ad (show x.charge t n = ({ (x.count ⟨ct, cr, co⟩).turn 10 with rows := 0 }, t.tell 10, false) by rw [CH.out, if_neg (fun h => h hs)])
     rw [hs]
     have TC := Ad (turn_calls H3.out 10)
     clear hs
     go_wp2_with fail
     refine TC.out.mono ?_
     rintro e w4 ⟨rfl, F4, h4, s4⟩
     obtain ⟨L4, hL4⟩ := h4.node
     have e6 : w4.cell? ⟨g, 6, none⟩ = some (.int .i64 ((x.count ⟨ct, cr, co⟩).turn 10).rows) := hL4.cs.cell (by rfl)
     have f6 := hL4.cs.free 6
     have h5 := h4.set 6 (.int .i64 0) { (x.count ⟨ct, cr, co⟩).turn 10 with rows := 0 } (fun _ => rfl) rfl rfl rfl
     have TL := Ad (tell_calls h5.1 10 HK.out)
     have S5 := Ad (S3.out.trans (s4.trans h5.2))
     clear h5 hL4 h4 s4 TC
     go_wp2_with fail
     refine TL.out.mono ?_
     rintro e w6 ⟨rfl, F6, h6, s6⟩
     have H6 := Ad h6
     have S6 := Ad (S5.out.trans s6)
     clear h6 s6
     go_wp2_with fail
     go_ret
     rw [RES.out]
     exact ⟨rfl, F6, H6.out, S6.out⟩
   · have RES := Ad (show x.charge t n = (x.count ⟨ct, cr, co⟩, t, true) by rw [CH.out, if_pos hs])
     have hs2 : ((x.count ⟨ct, cr, co⟩).state == 2) = false := by simpa using hs
     clear hs
     go_wp2_with fail
     go_ret
     rw [RES.out]
     exact ⟨rfl, F, H3.out, S3.out⟩
theorem over_calls (h : NT w b g gt F x t) (hk : t.kinds.length <= 100) :
   Calls Tryz.prog 126 #[.pointer (some ⟨g, 0, none⟩), .pointer (some ⟨gt, 0, none⟩)] w (Res w b g gt F (x.over t).1 (x.over t).2 (.tuple #[])) := by
 have TL := Ad (tell_calls h 9 hk)
 clear h
 go_enter Tryz.func126, Tryz.ntmps126
 go_wp2_with fail
 refine TL.out.mono ?_
 rintro e w1 ⟨rfl, F1, h1, s1⟩
 obtain ⟨L1, hL1⟩ := h1.node
 have c10 : w1.cell? ⟨g, 10, none⟩ = some (.bool x.wrong) := hL1.cs.cell (by rfl)
 have f10 := hL1.cs.free 10
 have h2 := h1.set 10 (.bool false) { x with wrong := false } (fun _ => rfl) rfl rfl rfl
 have TC := Ad (turn_calls h2.1 5)
 have S2 := Ad (s1.trans h2.2)
 clear h2 hL1 h1 s1 TL
 go_wp2_with fail
 refine TC.out.mono ?_
 rintro e w3 ⟨rfl, F3, h3, s3⟩
 have H3 := Ad h3
 have S3 := Ad (S2.out.trans s3)
 clear h3 s3 TC
 go_wp2_with fail
 go_end0
 exact ⟨rfl, F3, H3.out, S3.out⟩
end
end
section
section
variable {w w1 : World} {b g gt : Nat} {F F1 : List Nat} {x x' : Pl.Nd} {t t' : Pl.Td} {v : Value} {e : Ending}
theorem charge_kinds (x : Pl.Nd) (t : Pl.Td) (n : Int) : (x.charge t n).2.1.kinds.length <= t.kinds.length + 1 := by
 unfold Pl.Nd.charge
 generalize x.count (if x.tx = true then Ct.txC x.ct else Ct.rxC x.ct n) = y
 simp only []
 by_cases h : y.state ≠ 2
 · rw [if_pos h]; exact Nat.le_succ _
 · rw [if_neg h]; simp [Pl.Td.tell]
set_option maxRecDepth 100000 in
theorem fail_calls (h : NT w b g gt F x t) (kind : Int) (counted : Bool) (hk : t.kinds.length <= 90) :
   Calls Tryz.prog 123 #[.pointer (some ⟨g, 0, none⟩), .pointer (some ⟨gt, 0, none⟩), .int .i64 kind, .bool counted] w (Res w b g gt F (x.fail t kind counted).1 (x.fail t kind counted).2 (.tuple #[])) := by
 have TL := Ad (tell_calls h kind (by omega))
 have HK := Ad hk
 have FD := Ad (show x.fail t kind counted = if (counted || !x.tx) = true then (if (x.charge (t.tell kind) 1).2.2 then ((x.charge (t.tell kind) 1).1.fin x.state, (x.charge (t.tell kind) 1).2.1) else ((x.charge (t.tell kind) 1).1, (x.charge (t.tell kind) 1).2.1)) else (x.fin x.state, t.tell kind) from rfl)
 have HT : (t.tell kind).kinds.length <= 91 := by simp [Pl.Td.tell]; omega
 generalize t.tell kind = t1 at *
 have HT1 := Ad HT
 clear h HT hk
 go_enter Tryz.func123, Tryz.ntmps123
 go_wp2_with fail
 refine TL.out.mono ?_
 rintro e w1 ⟨rfl, F1, h1, s1⟩
 obtain ⟨L1, hL1⟩ := h1.node
 have c11 : w1.cell? ⟨g, 11, none⟩ = some (.int .i64 x.t) := hL1.cs.cell (by rfl)
 have c12 : w1.cell? ⟨g, 12, none⟩ = some (.int .i64 x.r) := hL1.cs.cell (by rfl)
 have c13 : w1.cell? ⟨g, 13, none⟩ = some (.bool x.off) := hL1.cs.cell (by rfl)
 have SC := Ad (Ct.state_calls x.t x.r x.off x.state rfl w1)
 unfold Ct.cv at SC
 have H1 := Ad h1
 have S1 := Ad s1
 have HL1 := Ad hL1
 clear h1 s1 hL1 TL
 go_wp2_with fail
 refine SC.out.mono ?_
 rintro e w2 ⟨rfl, hB⟩
 have H2 := Ad (H1.out.on (Ch.of_below hB))
 have S2 := Ad (S1.out.trans (St.of (Ch.of_below hB)))
 have hL2 := HL1.out.on (Ch.of_below hB)
 have c7 : w2.cell? ⟨g, 7, none⟩ = some (.bool x.tx) := hL2.cs.cell (by rfl)
 have c9 : w2.cell? ⟨g, 9, none⟩ = some (.bool x.owed) := hL2.cs.cell (by rfl)
 have c10 : w2.cell? ⟨g, 10, none⟩ = some (.bool x.wrong) := hL2.cs.cell (by rfl)
 have f9 := hL2.cs.free 9
 have f10 := hL2.cs.free 10
 clear hB H1 S1 HL1 SC hL2
 have CC := Ad (charge_calls H2.out 1 (by have := HT1.out; omega))
 generalize hst : x.state = st at *
 cases counted
 · cases htx : x.tx
   · rw [htx] at c7 FD
     go_wp2_with fail
     refine CC.out.mono ?_
     rintro e w3 ⟨rfl, F3, h3, s3⟩
     obtain ⟨y, t3, ok, hch⟩ : ∃ y t3 ok, x.charge t1 1 = (y, t3, ok) := ⟨_, _, _, rfl⟩
     rw [hch] at h3 ⊢
     simp only [] at h3 ⊢
     obtain ⟨L3, hL3⟩ := h3.node
     have d9 : w3.cell? ⟨g, 9, none⟩ = some (.bool y.owed) := hL3.cs.cell (by rfl)
     have d10 : w3.cell? ⟨g, 10, none⟩ = some (.bool y.wrong) := hL3.cs.cell (by rfl)
     have e9 := hL3.cs.free 9
     have e10 := hL3.cs.free 10
     have H3 := Ad h3
     have S3 := Ad (S2.out.trans s3)
     have HCH := Ad hch
     clear h3 s3 hL3 hch CC c7 c9 c10 f9 f10
     cases ok
     · go_wp2_with fail
       go_end0
       rw [FD.out]
       rw [if_pos (by rfl), HCH.out]
       exact ⟨rfl, F3, H3.out, S3.out⟩
     · by_cases hs : st = 0
       · have h4 := (H3.out.set 10 (.bool true) { y with wrong := true } (fun _ => rfl) rfl rfl rfl)
         have h5 := h4.1.set 9 (.bool false) { y with wrong := true, owed := false } (fun _ => rfl) rfl rfl rfl
         have TC := Ad (turn_calls h5.1 3)
         have S5 := Ad (S3.out.trans (h4.2.trans h5.2))
         have hs2 : (st == 0) = true := by simpa using hs
         clear h4 h5
         have RES := Ad (show y.fin st = ({ y with wrong := true, owed := false } : Pl.Nd).turn 3 by unfold Pl.Nd.fin; rw [if_pos hs])
         clear hs
         go_wp2_with fail
         refine TC.out.mono ?_
         rintro e w6 ⟨rfl, F6, h6, s6⟩
         have H6 := Ad h6
         have S6 := Ad (S5.out.trans s6)
         clear h6 s6 TC
         go_wp2_with fail
         go_end0
         rw [FD.out]
         rw [if_pos (by rfl), HCH.out]
         simp only [if_true]
         rw [RES.out]
         exact ⟨rfl, F6, H6.out, S6.out⟩
       · have h4 := (H3.out.set 10 (.bool true) { y with wrong := true } (fun _ => rfl) rfl rfl rfl)
         have h5 := h4.1.set 9 (.bool false) { y with wrong := true, owed := false } (fun _ => rfl) rfl rfl rfl
         have TC := Ad (turn_calls h5.1 4)
         have S5 := Ad (S3.out.trans (h4.2.trans h5.2))
         have hs2 : (st == 0) = false := by simpa using hs
         clear h4 h5
         have RES := Ad (show y.fin st = ({ y with wrong := true, owed := false } : Pl.Nd).turn 4 by unfold Pl.Nd.fin; rw [if_neg hs])
         clear hs
         go_wp2_with fail
         refine TC.out.mono ?_
         rintro e w6 ⟨rfl, F6, h6, s6⟩
         have H6 := Ad h6
         have S6 := Ad (S5.out.trans s6)
         clear h6 s6 TC
         go_wp2_with fail
         go_end0
         rw [FD.out]
         rw [if_pos (by rfl), HCH.out]
         simp only [if_true]
         rw [RES.out]
         exact ⟨rfl, F6, H6.out, S6.out⟩
   · rw [htx] at c7 FD
     by_cases hs : st = 0
     · have h4 := (H2.out.set 10 (.bool true) { x with wrong := true } (fun _ => rfl) rfl rfl rfl)
       have h5 := h4.1.set 9 (.bool false) { x with wrong := true, owed := false } (fun _ => rfl) rfl rfl rfl
       have TC := Ad (turn_calls h5.1 3)
       have S5 := Ad (S2.out.trans (h4.2.trans h5.2))
       have hs2 : (st == 0) = true := by simpa using hs
       clear h4 h5
       have RES := Ad (show x.fin st = ({ x with wrong := true, owed := false } : Pl.Nd).turn 3 by unfold Pl.Nd.fin; rw [if_pos hs])
       clear hs
       go_wp2_with fail
       refine TC.out.mono ?_
       rintro e w6 ⟨rfl, F6, h6, s6⟩
       have H6 := Ad h6
       have S6 := Ad (S5.out.trans s6)
       clear h6 s6 TC
       go_wp2_with fail
       go_end0
       rw [FD.out]
       rw [if_neg (by decide)]
       rw [RES.out]
       exact ⟨rfl, F6, H6.out, S6.out⟩
     · have h4 := (H2.out.set 10 (.bool true) { x with wrong := true } (fun _ => rfl) rfl rfl rfl)
       have h5 := h4.1.set 9 (.bool false) { x with wrong := true, owed := false } (fun _ => rfl) rfl rfl rfl
       have TC := Ad (turn_calls h5.1 4)
       have S5 := Ad (S2.out.trans (h4.2.trans h5.2))
       have hs2 : (st == 0) = false := by simpa using hs
       clear h4 h5
       have RES := Ad (show x.fin st = ({ x with wrong := true, owed := false } : Pl.Nd).turn 4 by unfold Pl.Nd.fin; rw [if_neg hs])
       clear hs
       go_wp2_with fail
       refine TC.out.mono ?_
       rintro e w6 ⟨rfl, F6, h6, s6⟩
       have H6 := Ad h6
       have S6 := Ad (S5.out.trans s6)
       clear h6 s6 TC
       go_wp2_with fail
       go_end0
       rw [FD.out]
       rw [if_neg (by decide)]
       rw [RES.out]
       exact ⟨rfl, F6, H6.out, S6.out⟩
 · go_wp2_with fail
   refine CC.out.mono ?_
   rintro e w3 ⟨rfl, F3, h3, s3⟩
   obtain ⟨y, t3, ok, hch⟩ : ∃ y t3 ok, x.charge t1 1 = (y, t3, ok) := ⟨_, _, _, rfl⟩
   rw [hch] at h3 ⊢
   simp only [] at h3 ⊢
   obtain ⟨L3, hL3⟩ := h3.node
   have d9 : w3.cell? ⟨g, 9, none⟩ = some (.bool y.owed) := hL3.cs.cell (by rfl)
   have d10 : w3.cell? ⟨g, 10, none⟩ = some (.bool y.wrong) := hL3.cs.cell (by rfl)
   have e9 := hL3.cs.free 9
   have e10 := hL3.cs.free 10
   have H3 := Ad h3
   have S3 := Ad (S2.out.trans s3)
   have HCH := Ad hch
   clear h3 s3 hL3 hch CC c7 c9 c10 f9 f10
   cases ok
   · go_wp2_with fail
     go_end0
     rw [FD.out]
     rw [if_pos (by rfl), HCH.out]
     exact ⟨rfl, F3, H3.out, S3.out⟩
   · by_cases hs : st = 0
     · have h4 := (H3.out.set 10 (.bool true) { y with wrong := true } (fun _ => rfl) rfl rfl rfl)
       have h5 := h4.1.set 9 (.bool false) { y with wrong := true, owed := false } (fun _ => rfl) rfl rfl rfl
       have TC := Ad (turn_calls h5.1 3)
       have S5 := Ad (S3.out.trans (h4.2.trans h5.2))
       have hs2 : (st == 0) = true := by simpa using hs
       clear h4 h5
       have RES := Ad (show y.fin st = ({ y with wrong := true, owed := false } : Pl.Nd).turn 3 by unfold Pl.Nd.fin; rw [if_pos hs])
       clear hs
       go_wp2_with fail
       refine TC.out.mono ?_
       rintro e w6 ⟨rfl, F6, h6, s6⟩
       have H6 := Ad h6
       have S6 := Ad (S5.out.trans s6)
       clear h6 s6 TC
       go_wp2_with fail
       go_end0
       rw [FD.out]
       rw [if_pos (by rfl), HCH.out]
       simp only [if_true]
       rw [RES.out]
       exact ⟨rfl, F6, H6.out, S6.out⟩
     · have h4 := (H3.out.set 10 (.bool true) { y with wrong := true } (fun _ => rfl) rfl rfl rfl)
       have h5 := h4.1.set 9 (.bool false) { y with wrong := true, owed := false } (fun _ => rfl) rfl rfl rfl
       have TC := Ad (turn_calls h5.1 4)
       have S5 := Ad (S3.out.trans (h4.2.trans h5.2))
       have hs2 : (st == 0) = false := by simpa using hs
       clear h4 h5
       have RES := Ad (show y.fin st = ({ y with wrong := true, owed := false } : Pl.Nd).turn 4 by unfold Pl.Nd.fin; rw [if_neg hs])
       clear hs
       go_wp2_with fail
       refine TC.out.mono ?_
       rintro e w6 ⟨rfl, F6, h6, s6⟩
       have H6 := Ad h6
       have S6 := Ad (S5.out.trans s6)
       clear h6 s6 TC
       go_wp2_with fail
       go_end0
       rw [FD.out]
       rw [if_pos (by rfl), HCH.out]
       simp only [if_true]
       rw [RES.out]
       exact ⟨rfl, F6, H6.out, S6.out⟩
end
end
section
section
variable {w w1 : World} {b g gt : Nat} {F F1 : List Nat} {x x' : Pl.Nd} {t t' : Pl.Td} {v : Value} {e : Ending}
theorem ToldAt.on {A : Option Addr} {c : Nat} {q : Option Nat} {w w' : World} (h : ToldAt w b gt A c q t) (hc : Ch [] w w') : ToldAt w' b gt A c q t := h.keep hc (by simp)
theorem g_told {L : Lay} {A : Option Addr} {c : Nat} {q : Option Nat} (h1 : NodeAt w b g L x) (h2 : ToldAt w b gt A c q t) (h3 : ∀ k, q = some k -> L.q ≠ some k /\ L.q2 ≠ some k) : ∀ k, k ∈ gt :: q.toList -> k ∉ [g] := by
 intro k hk
 simp only [List.mem_cons, Option.mem_toList] at hk
 simp only [List.mem_cons, List.not_mem_nil, or_false]
 have hap := told_apart h1 h2 h3 g (by simp [Lay.fp])
 rcases hk with rfl | hk
 · exact hap.1.symm
 · rintro rfl
   exact hap.2 hk
theorem NT.lay (h : NT w b g gt F x t) : ∃ L, NodeAt w b g L x /\ ∀ (W2 : World) (x' : Pl.Nd), Ch [g] w W2 -> Cs W2 g 166 (ndc L x') -> x'.raw = x.raw -> x'.row = x.row -> x'.queue = x.queue -> NT W2 b g gt F x' t /\ St F w W2 F := by
 obtain ⟨hb, L, A, c, q, h1, h2, h3, h4⟩ := h
 refine ⟨L, h1, fun W2 x' hch hcs hr ho hq => ?_⟩
 have hf := h1.free
 refine ⟨⟨Nat.le_trans hb hch.size, L, A, c, q, ⟨hcs, ?_, ?_, ?_, h1.apart, h1.gb, h1.qb, by rw [hr]; exact h1.lv⟩, h2.keep hch (g_told h1 h2 h3), h3, h4⟩, ⟨hch.sub (fun k hk => ?_), fun _ h => .inl h⟩⟩
 · rw [hr]; exact h1.raw.keep hch (fun k hk => by simpa using hf k (by simp [hk]))
 · rw [ho]; exact h1.row.keep hch (fun k hk => by simpa using hf k (by simp [hk]))
 · rw [hq]; exact h1.qu.keep hch (by simpa using hf L.gq (by simp)) (fun k hk => by simpa using hf k (by simp [hk]))
 · simp only [List.mem_cons, List.not_mem_nil, or_false] at hk
   subst hk
   rw [h4]
   simp [Lay.fp]
theorem NT.reset (h : NT w b g gt F x t) : ∃ F', NT (((w.setCell ⟨g, 0, none⟩ (.slice none 0 0)).setCell ⟨g, 1, none⟩ (.int .i64 0)).setCell ⟨g, 2, none⟩ (.int .i64 0)) b g gt F' { x with raw := [], level := 0, run := 0 } t /\ St F w (((w.setCell ⟨g, 0, none⟩ (.slice none 0 0)).setCell ⟨g, 1, none⟩ (.int .i64 0)).setCell ⟨g, 2, none⟩ (.int .i64 0)) F' := by
 obtain ⟨hb, L, A, c, q, h1, h2, h3, h4⟩ := h
 have hch : Ch [g] w (((w.setCell ⟨g, 0, none⟩ (.slice none 0 0)).setCell ⟨g, 1, none⟩ (.int .i64 0)).setCell ⟨g, 2, none⟩ (.int .i64 0)) := (((Ch.refl [g] w).set _ _ (.inl (by simp))).set _ _ (.inl (by simp))).set _ _ (.inl (by simp))
 have hf := h1.free
 refine ⟨({ L with A := none, c := 0, q := none } : Lay).fp g ++ gt :: q.toList, ⟨Nat.le_trans hb hch.size, { L with A := none, c := 0, q := none }, A, c, q, ⟨?_, Ow.nil _ _ _, ?_, ?_, ?_, h1.gb, h1.qb, ?_⟩, h2.keep hch (g_told h1 h2 h3), ?_, rfl⟩, ⟨hch.sub (fun k hk => ?_), ?_⟩⟩
 · exact ((h1.cs.set 0 (.slice none 0 0)).set 1 (.int .i64 0)).set 2 (.int .i64 0)
 · exact h1.row.keep hch (fun k hk => by simpa using hf k (by simp [hk]))
 · exact h1.qu.keep hch (by simpa using hf L.gq (by simp)) (fun k hk => by simpa using hf k (by simp [hk]))
 · intro k hk; cases hk
 · intro y hy; simp at hy
 · intro k hk; exact ⟨by simp, (h3 k hk).2⟩
 · simp only [List.mem_cons, List.not_mem_nil, or_false] at hk
   subst hk
   rw [h4]
   simp [Lay.fp]
 · intro k hk
   rw [h4]
   simp only [Lay.fp, List.mem_append, List.mem_cons, Option.mem_toList] at hk ⊢
   rcases hk with (hk | hk | (hk | hk) | hk) | hk | hk <;> first | (simp at hk; done) | (simp [hk]; done)
theorem NT.rowed (h : NT w b g gt F x t) : ∃ L, NodeAt w b g L x /\ b <= w.heap.size /\ ∀ (w1 : World) (A' : Option Addr) (c' : Nat) (q' : Option Nat) (row' : List Int), Ow Iv w1 b q' A' c' row' -> Ch [] w w1 -> (∀ k, q' = some k -> w.heap.size <= k) ->
   Res w b g gt F { x with row := row' } t v (.returned v) (w1.setCell ⟨g, 26, none⟩ (.slice A' row'.length c')) := by
 obtain ⟨hb, L, A, c, q, h1, h2, h3, h4⟩ := h
 refine ⟨L, h1, hb, fun w1 A' c' q' row' hO hC hq => ?_⟩
 have k1 := h1.on hC
 have k2 := h2.on hC
 have hf := k1.free
 have hgw := h1.cs.lt
 have hs : Ch [g] w1 (w1.setCell ⟨g, 26, none⟩ (.slice A' row'.length c')) := (Ch.refl [g] w1).set _ _ (.inl (by simp))
 refine ⟨rfl, ({ L with A2 := A', c2 := c', q2 := q' } : Lay).fp g ++ gt :: q.toList, ⟨Nat.le_trans hb (Nat.le_trans hC.size hs.size), { L with A2 := A', c2 := c', q2 := q' }, A, c, q, ⟨?_, ?_, ?_, ?_, ?_, h1.gb, h1.qb, h1.lv⟩, k2.keep hs (g_told k1 k2 h3), ?_, rfl⟩, ⟨(hC.any (F := F)).set _ _ (.inl ?_), ?_⟩⟩
 · exact k1.cs.set 26 (.slice A' row'.length c')
 · exact k1.raw.keep hs (fun k hk => by simpa using hf k (by simp [hk]))
 · exact hO.keep hs (fun k hk => by have := hq k hk; simp; omega)
 · exact k1.qu.keep hs (by simpa using hf L.gq (by simp)) (fun k hk => by simpa using hf k (by simp [hk]))
 · intro k hk e2
   have e3 : q' = some k := e2
   have := hq k e3
   have := (h1.raw.size k hk).2
   omega
 · intro k hk
   refine ⟨(h3 k hk).1, fun e2 => ?_⟩
   have e3 : q' = some k := e2
   have := hq k e3
   have := (h2.kinds.size k hk).2
   omega
 · rw [h4]; simp [Lay.fp]
 · intro k hk
   rw [h4]
   simp only [Lay.fp, List.mem_append, List.mem_cons, Option.mem_toList] at hk ⊢
   rcases hk with (hk | hk | (hk | hk) | hk) | hk | hk
   · simp [hk]
   · simp [hk]
   · simp [hk]
   · exact .inr (hq k hk)
   · simp [hk]
   · simp [hk]
   · simp [hk]
theorem ndc_own (L : Lay) (x : Pl.Nd) : ∀ j v, (frc x.own)[j]? = some v -> (ndc L x)[14 + j]? = some v := by
 intro j v hv
 have hj := (List.getElem?_eq_some_iff.1 hv).1
 have hj : j < 12 := hj
 match j, hj, hv with
 | 0, _, hv => exact hv
 | 1, _, hv => exact hv
 | 2, _, hv => exact hv
 | 3, _, hv => exact hv
 | 4, _, hv => exact hv
 | 5, _, hv => exact hv
 | 6, _, hv => exact hv
 | 7, _, hv => exact hv
 | 8, _, hv => exact hv
 | 9, _, hv => exact hv
 | 10, _, hv => exact hv
 | 11, _, hv => exact hv
theorem begun_take (x : Pl.Nd) : (({ x.turn 2 with raw := [], level := 0, run := 0 } : Pl.Nd).take 0) = ({ x.turn 2 with raw := [0], level := 0, run := 1 }, true) := by
 simp [Pl.Nd.take, Pl.Nd.added, Pl.Nd.kind, Pl.next]
set_option maxRecDepth 100000 in
theorem start_calls (h : NT w b g gt F x t) (sends : Bool) (hq : sends = true -> 0 < x.queue.length) :
   Calls Tryz.prog 122 #[.pointer (some ⟨g, 0, none⟩), .bool sends] w (Res w b g gt F (x.start sends) t (.tuple #[])) := by
 have TC := Ad (turn_calls h 2)
 have HQ := Ad hq
 clear h hq
 go_enter Tryz.func122, Tryz.ntmps122
 go_wp2_with fail
 refine TC.out.mono ?_
 rintro e w1 ⟨rfl, F1, h1, s1⟩
 obtain ⟨L1, hL1⟩ := h1.node
 have c0 : w1.cell? ⟨g, 0, none⟩ = some (.slice L1.A x.raw.length L1.c) := hL1.cs.cell (by rfl)
 have c1 : w1.cell? ⟨g, 1, none⟩ = some (.int .i64 x.level) := hL1.cs.cell (by rfl)
 have c2 : w1.cell? ⟨g, 2, none⟩ = some (.int .i64 x.run) := hL1.cs.cell (by rfl)
 have f0 := hL1.cs.free 0
 have f1 := hL1.cs.free 1
 have f2 := hL1.cs.free 2
 obtain ⟨F2, h2, s2⟩ := h1.reset
 have TK := Ad (take_calls h2 0 (.inl rfl) (by simp) (by simp))
 rw [begun_take] at TK
 have S2 := Ad (s1.trans s2)
 clear h1 hL1 s1 h2 s2 TC
 go_wp2_with fail
 refine TK.out.mono ?_
 rintro e w3 ⟨rfl, F3, h3, s3⟩
 obtain ⟨L3, hL3⟩ := h3.node
 have d7 : w3.cell? ⟨g, 7, none⟩ = some (.bool x.tx) := hL3.cs.cell (by rfl)
 have d8 : w3.cell? ⟨g, 8, none⟩ = some (.bool x.sends) := hL3.cs.cell (by rfl)
 have e7 := hL3.cs.free 7
 have e8 := hL3.cs.free 8
 have h4 := h3.set 7 (.bool sends) { x.begun sends with sends := x.sends } (fun _ => rfl) rfl rfl rfl
 have h5 := h4.1.set 8 (.bool sends) (x.begun sends) (fun _ => rfl) rfl rfl rfl
 have S5 := Ad (S2.out.trans (s3.trans (h4.2.trans h5.2)))
 obtain ⟨w5, hw5⟩ : ∃ w5, (w3.setCell ⟨g, 7, none⟩ (.bool sends)).setCell ⟨g, 8, none⟩ (.bool sends) = w5 := ⟨_, rfl⟩
 rw [hw5] at h5 S5
 have H5 := Ad h5.1
 have W5 := Ad hw5
 clear h3 hL3 s3 h4 h5 hw5 TK S2 c0 c1 c2 f0 f1 f2
 cases sends
 · go_wp2_with fail
   go_end0
   rw [W5.out]
   exact ⟨rfl, F3, H5.out, S5.out⟩
 · obtain ⟨f, l, hfl⟩ : ∃ f l, x.queue = f :: l := by
     have := HQ.out rfl
     cases hx : x.queue with
     | nil => rw [hx] at this; simp at this
     | cons f l => exact ⟨f, l, rfl⟩
   obtain ⟨L5, hL5⟩ := H5.out.node
   have q5 : Qu w5 b L5.gq L5.qq (f :: l) := by rw [<- hfl]; exact hL5.qu
   have FC := Ad (first_calls w5 b L5.gq L5.qq f l q5)
   have k3' : w5.cell? ⟨g, 3, none⟩ = some (.pointer (some ⟨L5.gq, 0, none⟩)) := hL5.cs.cell (by rfl)
   have k3 : w3.cell? ⟨g, 3, none⟩ = some (.pointer (some ⟨L5.gq, 0, none⟩)) := by rw [<- W5.out] at k3'; simpa [go_sem] using k3'
   have HOK := Ad (q5.oks f (by simp))
   have HFL := Ad hfl
   clear hL5 q5 k3' hfl
   go_wp2_with fail
   rw [W5.out]
   refine FC.out.mono ?_
   rintro e w6 ⟨rfl, hC6⟩
   unfold frv
   obtain ⟨L6, hL6, lay6⟩ := (H5.out.on hC6).lay
   have CS6 := Ad hL6.cs
   have LAY := Ad lay6
   have S6 := Ad (S5.out.trans (St.of hC6))
   clear hC6 hL6 lay6 FC
   go_wp2_with (refine wpList_store_Cs rfl 49 (.tmp 33) (.tmp 30) rfl 14 (frc f) (by rfl) (by rfl) CS6.out (show 14 + 12 <= 27 by decide) size49 (frc_one f) ?_)
   intro w7 hb7 hc7
   obtain ⟨h7, s7⟩ := LAY.out w7 { x.begun true with own := f } hc7 hb7 rfl rfl rfl
   obtain ⟨L7, hL7⟩ := h7.node
   have CS7 := Ad hL7.cs
   have H7 := Ad h7
   have S7 := Ad (S6.out.trans s7)
   have OWN := Ad (ndc_own L7 { x.begun true with own := f })
   have AC := Ad (all_calls f HOK.out.1 HOK.out.2 w7)
   unfold frv at AC
   clear hb7 hc7 h7 s7 hL7 LAY CS6
   go_wp2_with (refine wpList_load_Cs rfl 49 (.tmp 38) rfl 14 (frc f) (by rfl) CS7.out OWN.out Tryz.underlying49 rfl size49 ?_)
   refine AC.out.mono ?_
   rintro e w8 ⟨A', c', q', n, rfl, hn, hO, hC⟩
   obtain ⟨L8, hL8, hb8, fin⟩ := H7.out.rowed (v := .tuple #[])
   have hR := fin w8 A' c' q' (Pl.fall f) (hO.less hb8) hC (fun k hk => (hO.size k hk).1)
   have hL9 := hL8.on hC
   have m26 : w8.cell? ⟨g, 26, none⟩ = some (.slice L8.A2 x.row.length L8.c2) := hL9.cs.cell (by rfl)
   have f26 := hL9.cs.free 26
   rw [<- hn] at hR
   have R := Ad hR
   clear hR hL9 hL8 fin hO hC hn hb8 AC CS7
   go_wp2_with fail
   go_end0
   have e1 : x.start true = { ({ x.begun true with own := f } : Pl.Nd) with row := Pl.fall f } := by
     unfold Pl.Nd.start
     rw [HFL.out]
     rfl
   rw [e1]
   exact Res.then S7.out R.out
end
end
section
section
variable {w w1 : World} {b g gt : Nat} {F F1 : List Nat} {x x' : Pl.Nd} {t t' : Pl.Td} {v : Value} {e : Ending}
set_option maxRecDepth 100000 in
theorem joining_calls (h : NT w b g gt F x t) (lv : Int) (hlv : lv = 0 ∨ lv = 1) (hk : 0 <= x.k /\ x.k <= 1000000) :
   Calls Tryz.prog 100 #[.pointer (some ⟨g, 0, none⟩), .pointer (some ⟨gt, 0, none⟩), .int .i64 lv] w (Res w b g gt F (x.joining lv) t (.tuple #[])) := by
 have wr : IntKind.i64.wrap (x.k + 1) = x.k + 1 := by rw [IntKind.wrap_i64]; omega
 obtain ⟨L1, hL2⟩ := NT.node h
 have c3 : w.cell? ⟨g, 5, none⟩ = some (.int .i64 x.k) := hL2.cs.cell (by rfl)
 have f4 := hL2.cs.free 5
 clear hL2
 have H := Ad h
 clear h
 rcases hlv with rfl | rfl
 · have h5 := NT.set H.out 5 (.int .i64 (x.k + 1)) { x with k := x.k + 1 } (fun _ => rfl) rfl rfl rfl
   have h6 := NT.set h5.1 5 (.int .i64 0) { x with k := 0 } (fun _ => rfl) rfl rfl rfl
   have HN7 := Ad h6.1
   have SN8 := Ad (St.trans (St.trans (St.refl F w) h5.2) h6.2)
   clear h5 h6
   go_enter Tryz.func100, Tryz.ntmps100
   go_wp2_with fail
   go_end0
   rw [show x.joining 0 = { x with k := 0 } from by simp [Pl.Nd.joining]]
   exact ⟨rfl, F, HN7.out, SN8.out⟩
 · have h9 := NT.set H.out 5 (.int .i64 (x.k + 1)) { x with k := x.k + 1 } (fun _ => rfl) rfl rfl rfl
   have HN10 := Ad h9.1
   have SN11 := Ad (St.trans (St.refl F w) h9.2)
   clear h9
   go_enter Tryz.func100, Tryz.ntmps100
   by_cases hk9 : x.k + 1 = 11
   · have RES := Ad (show x.joining 1 = ({ x with k := x.k + 1 } : Pl.Nd).turn 1 from by simp [Pl.Nd.joining, hk9, Pl.Nd.turn])
     have bk : (x.k + 1 == 11) = true := by simpa using hk9
     clear hk9
     have TC12 := Ad (turn_calls HN10.out 1)
     go_wp2_with fail
     refine TC12.out.mono ?_
     rintro e w13 ⟨rfl, F14, h15, s16⟩
     have HN17 := Ad h15
     have SN18 := Ad (St.trans SN11.out s16)
     clear h15 s16 TC12
     go_wp2_with fail
     go_end0
     rw [RES.out]
     exact ⟨rfl, F14, HN17.out, SN18.out⟩
   · have RES := Ad (show x.joining 1 = ({ x with k := x.k + 1 } : Pl.Nd) from by simp [Pl.Nd.joining, hk9])
     have bk : (x.k + 1 == 11) = false := by simpa using hk9
     clear hk9
     go_wp2_with fail
     go_end0
     rw [RES.out]
     exact ⟨rfl, F, HN10.out, SN11.out⟩
set_option maxRecDepth 100000 in
theorem idle_calls (h : NT w b g gt F x t) (lv : Int) (hlv : lv = 0 ∨ lv = 1) (ht : t.kinds.length <= 80) :
   Calls Tryz.prog 101 #[.pointer (some ⟨g, 0, none⟩), .pointer (some ⟨gt, 0, none⟩), .int .i64 lv] w (Res w b g gt F (x.idle t lv).1 (x.idle t lv).2 (.tuple #[])) := by
 have H := Ad h
 clear h
 rcases hlv with rfl | rfl
 · obtain ⟨L20, hL21⟩ := NT.node H.out
   have PC19 := Ad (npending_calls w hL21)
   clear hL21
   have TC22 := Ad (start_calls H.out x.pending (by simp [Pl.Nd.pending]))
   go_enter Tryz.func101, Tryz.ntmps101
   go_wp2_with fail
   refine PC19.out.mono ?_
   rintro e w99 ⟨rfl, hw99⟩
   rw [hw99]
   clear hw99 w99 PC19
   go_wp2_with fail
   refine TC22.out.mono ?_
   rintro e w23 ⟨rfl, F24, h25, s26⟩
   have HN27 := Ad h25
   have SN28 := Ad (St.trans (St.refl F w) s26)
   clear h25 s26 TC22
   go_wp2_with fail
   go_end0
   rw [show x.idle t 0 = (x.start x.pending, t) from by simp [Pl.Nd.idle]]
   exact ⟨rfl, F24, HN27.out, SN28.out⟩
 · cases hp : x.pending
   · obtain ⟨L30, hL31⟩ := NT.node H.out
     have PC29 := Ad (npending_calls w hL31)
     clear hL31
     rw [hp] at PC29
     go_enter Tryz.func101, Tryz.ntmps101
     go_wp2_with fail
     refine PC29.out.mono ?_
     rintro e w99 ⟨rfl, hw99⟩
     rw [hw99]
     clear hw99 w99 PC29
     go_wp2_with fail
     go_end0
     rw [show x.idle t 1 = (x, t) from by simp [Pl.Nd.idle, hp]]
     exact ⟨rfl, F, H.out, (St.refl F w)⟩
   · obtain ⟨L33, hL34⟩ := NT.node H.out
     have PC32 := Ad (npending_calls w hL34)
     clear hL34
     rw [hp] at PC32
     obtain ⟨L35, hL36⟩ := NT.node H.out
     have c37 : w.cell? ⟨g, 7, none⟩ = some (.bool x.tx) := hL36.cs.cell (by rfl)
     have f38 := hL36.cs.free 7
     clear hL36
     have h39 := NT.set H.out 7 (.bool true) { x with tx := true } (fun _ => rfl) rfl rfl rfl
     have HN40 := Ad h39.1
     have SN41 := Ad (St.trans (St.refl F w) h39.2)
     clear h39
     have TC42 := Ad (fail_calls HN40.out 4 true (by omega))
     go_enter Tryz.func101, Tryz.ntmps101
     go_wp2_with fail
     refine PC32.out.mono ?_
     rintro e w99 ⟨rfl, hw99⟩
     rw [hw99]
     clear hw99 w99 PC32
     go_wp2_with fail
     refine TC42.out.mono ?_
     rintro e w43 ⟨rfl, F44, h45, s46⟩
     have HN47 := Ad h45
     have SN48 := Ad (St.trans SN41.out s46)
     clear h45 s46 TC42
     go_wp2_with fail
     go_end0
     rw [show x.idle t 1 = ({ x with tx := true } : Pl.Nd).fail t 4 true from by simp [Pl.Nd.idle, hp]]
     exact ⟨rfl, F44, HN47.out, SN48.out⟩
set_option maxRecDepth 100000 in
theorem suspend_calls (h : NT w b g gt F x t) (lv : Int) (hlv : lv = 0 ∨ lv = 1) (hk : 0 <= x.k /\ x.k <= 1000000) :
   Calls Tryz.prog 108 #[.pointer (some ⟨g, 0, none⟩), .pointer (some ⟨gt, 0, none⟩), .int .i64 lv] w (Res w b g gt F (x.suspend lv) t (.tuple #[])) := by
 have wr : IntKind.i64.wrap (x.k + 1) = x.k + 1 := by rw [IntKind.wrap_i64]; omega
 obtain ⟨L49, hL50⟩ := NT.node h
 have c51 : w.cell? ⟨g, 5, none⟩ = some (.int .i64 x.k) := hL50.cs.cell (by rfl)
 have f52 := hL50.cs.free 5
 clear hL50
 have H := Ad h
 clear h
 rcases hlv with rfl | rfl
 · have TC53 := Ad (start_calls H.out false (by simp))
   go_enter Tryz.func108, Tryz.ntmps108
   go_wp2_with fail
   refine TC53.out.mono ?_
   rintro e w54 ⟨rfl, F55, h56, s57⟩
   have HN58 := Ad h56
   have SN59 := Ad (St.trans (St.refl F w) s57)
   clear h56 s57 TC53
   go_wp2_with fail
   go_end0
   rw [show x.suspend 0 = x.start false from by simp [Pl.Nd.suspend]]
   exact ⟨rfl, F55, HN58.out, SN59.out⟩
 · have h60 := NT.set H.out 5 (.int .i64 (x.k + 1)) { x with k := x.k + 1 } (fun _ => rfl) rfl rfl rfl
   have HN61 := Ad h60.1
   have SN62 := Ad (St.trans (St.refl F w) h60.2)
   clear h60
   go_enter Tryz.func108, Tryz.ntmps108
   by_cases hk9 : x.k + 1 = 8
   · have RES := Ad (show x.suspend 1 = ({ x with k := x.k + 1 } : Pl.Nd).turn 1 from by simp [Pl.Nd.suspend, hk9, Pl.Nd.turn])
     have bk : (x.k + 1 == 8) = true := by simpa using hk9
     clear hk9
     have TC63 := Ad (turn_calls HN61.out 1)
     go_wp2_with fail
     refine TC63.out.mono ?_
     rintro e w64 ⟨rfl, F65, h66, s67⟩
     have HN68 := Ad h66
     have SN69 := Ad (St.trans SN62.out s67)
     clear h66 s67 TC63
     go_wp2_with fail
     go_end0
     rw [RES.out]
     exact ⟨rfl, F65, HN68.out, SN69.out⟩
   · have RES := Ad (show x.suspend 1 = ({ x with k := x.k + 1 } : Pl.Nd) from by simp [Pl.Nd.suspend, hk9])
     have bk : (x.k + 1 == 8) = false := by simpa using hk9
     clear hk9
     go_wp2_with fail
     go_end0
     rw [RES.out]
     exact ⟨rfl, F, HN61.out, SN62.out⟩
set_option maxRecDepth 100000 in
theorem closing_calls (h : NT w b g gt F x t) (lv : Int) (hlv : lv = 0 ∨ lv = 1) (hk : 0 <= x.k /\ x.k <= 1000000) (ht : t.kinds.length <= 80) :
   Calls Tryz.prog 106 #[.pointer (some ⟨g, 0, none⟩), .pointer (some ⟨gt, 0, none⟩), .int .i64 lv] w (Res w b g gt F (x.closing t lv).1 (x.closing t lv).2 (.tuple #[])) := by
 have wr : IntKind.i64.wrap (x.k + 1) = x.k + 1 := by rw [IntKind.wrap_i64]; omega
 obtain ⟨L70, hL71⟩ := NT.node h
 have c72 : w.cell? ⟨g, 5, none⟩ = some (.int .i64 x.k) := hL71.cs.cell (by rfl)
 have f73 := hL71.cs.free 5
 clear hL71
 have H := Ad h
 clear h
 rcases hlv with rfl | rfl
 · by_cases hk7 : x.k = 7
   · have RES := Ad (show x.closing t 0 = x.over t from by simp [Pl.Nd.closing, hk7])
     have bk : (x.k == 7) = true := by simpa using hk7
     clear hk7
     have TC74 := Ad (over_calls H.out (by omega))
     go_enter Tryz.func106, Tryz.ntmps106
     go_wp2_with fail
     refine TC74.out.mono ?_
     rintro e w75 ⟨rfl, F76, h77, s78⟩
     have HN79 := Ad h77
     have SN80 := Ad (St.trans (St.refl F w) s78)
     clear h77 s78 TC74
     go_wp2_with fail
     go_end0
     rw [RES.out]
     exact ⟨rfl, F76, HN79.out, SN80.out⟩
   · have RES := Ad (show x.closing t 0 = x.fail t 7 true from by simp [Pl.Nd.closing, hk7])
     have bk : (x.k == 7) = false := by simpa using hk7
     clear hk7
     have TC81 := Ad (fail_calls H.out 7 true (by omega))
     go_enter Tryz.func106, Tryz.ntmps106
     go_wp2_with fail
     refine TC81.out.mono ?_
     rintro e w82 ⟨rfl, F83, h84, s85⟩
     have HN86 := Ad h84
     have SN87 := Ad (St.trans (St.refl F w) s85)
     clear h84 s85 TC81
     go_wp2_with fail
     go_end0
     rw [RES.out]
     exact ⟨rfl, F83, HN86.out, SN87.out⟩
 · have h88 := NT.set H.out 5 (.int .i64 (x.k + 1)) { x with k := x.k + 1 } (fun _ => rfl) rfl rfl rfl
   have HN89 := Ad h88.1
   have SN90 := Ad (St.trans (St.refl F w) h88.2)
   clear h88
   go_enter Tryz.func106, Tryz.ntmps106
   by_cases hk9 : x.k + 1 = 8
   · have RES := Ad (show x.closing t 1 = (({ x with k := x.k + 1 } : Pl.Nd).turn 8, t) from by simp [Pl.Nd.closing, hk9, Pl.Nd.turn])
     have bk : (x.k + 1 == 8) = true := by simpa using hk9
     clear hk9
     have TC91 := Ad (turn_calls HN89.out 8)
     go_wp2_with fail
     refine TC91.out.mono ?_
     rintro e w92 ⟨rfl, F93, h94, s95⟩
     have HN96 := Ad h94
     have SN97 := Ad (St.trans SN90.out s95)
     clear h94 s95 TC91
     go_wp2_with fail
     go_end0
     rw [RES.out]
     exact ⟨rfl, F93, HN96.out, SN97.out⟩
   · have RES := Ad (show x.closing t 1 = (({ x with k := x.k + 1 } : Pl.Nd), t) from by simp [Pl.Nd.closing, hk9])
     have bk : (x.k + 1 == 8) = false := by simpa using hk9
     clear hk9
     go_wp2_with fail
     go_end0
     rw [RES.out]
     exact ⟨rfl, F, HN89.out, SN90.out⟩
set_option maxRecDepth 100000 in
theorem pause_calls (h : NT w b g gt F x t) (lv : Int) (hlv : lv = 0 ∨ lv = 1) (hk : 0 <= x.k /\ x.k <= 1000000) (ht : t.kinds.length <= 80) :
   Calls Tryz.prog 107 #[.pointer (some ⟨g, 0, none⟩), .pointer (some ⟨gt, 0, none⟩), .int .i64 lv] w (Res w b g gt F (x.pause t lv).1 (x.pause t lv).2 (.tuple #[])) := by
 have wr : IntKind.i64.wrap (x.k + 1) = x.k + 1 := by rw [IntKind.wrap_i64]; omega
 obtain ⟨L98, hL99⟩ := NT.node h
 have c100 : w.cell? ⟨g, 5, none⟩ = some (.int .i64 x.k) := hL99.cs.cell (by rfl)
 have f101 := hL99.cs.free 5
 clear hL99
 have H := Ad h
 clear h
 rcases hlv with rfl | rfl
 · by_cases hk7 : x.k < 2
   · have RES := Ad (show x.pause t 0 = x.over t from by simp [Pl.Nd.pause, hk7])
     have TC102 := Ad (over_calls H.out (by omega))
     go_enter Tryz.func107, Tryz.ntmps107
     go_wp2_with fail
     refine TC102.out.mono ?_
     rintro e w103 ⟨rfl, F104, h105, s106⟩
     have HN107 := Ad h105
     have SN108 := Ad (St.trans (St.refl F w) s106)
     clear h105 s106 TC102
     go_wp2_with fail
     go_end0
     rw [RES.out]
     exact ⟨rfl, F104, HN107.out, SN108.out⟩
   · have RES := Ad (show x.pause t 0 = (x.start (x.pending && !x.late), t) from by simp [Pl.Nd.pause, hk7])
     cases hp : x.pending
     · have TC112 := Ad (start_calls H.out (x.pending && !x.late) (by simp [Pl.Nd.pending]; intro h _; exact h))
       obtain ⟨L110, hL111⟩ := NT.node H.out
       have PC109 := Ad (npending_calls w hL111)
       clear hL111
       rw [hp] at PC109 TC112
       rw [Bool.false_and] at TC112
       go_enter Tryz.func107, Tryz.ntmps107
       go_wp2_with fail
       refine PC109.out.mono ?_
       rintro e w99 ⟨rfl, hw99⟩
       rw [hw99]
       clear hw99 w99 PC109
       go_wp2_with fail
       refine TC112.out.mono ?_
       rintro e w113 ⟨rfl, F114, h115, s116⟩
       have HN117 := Ad h115
       have SN118 := Ad (St.trans (St.refl F w) s116)
       clear h115 s116 TC112
       go_wp2_with fail
       go_end0
       rw [RES.out]
       rw [hp, Bool.false_and]
       exact ⟨rfl, F114, HN117.out, SN118.out⟩
     · obtain ⟨L120, hL121⟩ := NT.node H.out
       have PC119 := Ad (npending_calls w hL121)
       clear hL121
       obtain ⟨L9, hL9⟩ := NT.node H.out
       have LC122 := Ad (nlate_calls w hL9)
       clear hL9
       rw [hp] at PC119
       generalize hlt : x.late = lt at *
       go_enter Tryz.func107, Tryz.ntmps107
       go_wp2_with fail
       refine PC119.out.mono ?_
       rintro e w99 ⟨rfl, hw99⟩
       rw [hw99]
       clear hw99 w99 PC119
       go_wp2_with fail
       refine LC122.out.mono ?_
       rintro e w2 ⟨rfl, hC2⟩
       have H2 := Ad (NT.on H.out hC2)
       have S2 := Ad (St.of (F := F) hC2)
       clear hC2 LC122
       have TC123 := Ad (start_calls H2.out (!lt) (by intro _; simpa [Pl.Nd.pending] using hp))
       go_wp2_with fail
       refine TC123.out.mono ?_
       rintro e w124 ⟨rfl, F125, h126, s127⟩
       have HN128 := Ad h126
       have SN129 := Ad (St.trans S2.out s127)
       clear h126 s127 TC123
       go_wp2_with fail
       go_end0
       rw [RES.out, hp, Bool.true_and]
       exact ⟨rfl, F125, HN128.out, SN129.out⟩
 · by_cases hk3 : x.k + 1 < 3
   · have RES := Ad (show x.pause t 1 = ({ x with k := x.k + 1 }, t) from by simp [Pl.Nd.pause, hk3])
     have h130 := NT.set H.out 5 (.int .i64 (x.k + 1)) { x with k := x.k + 1 } (fun _ => rfl) rfl rfl rfl
     have HN131 := Ad h130.1
     have SN132 := Ad (St.trans (St.refl F w) h130.2)
     clear h130
     go_enter Tryz.func107, Tryz.ntmps107
     go_wp2_with fail
     go_end0
     rw [RES.out]
     exact ⟨rfl, F, HN131.out, SN132.out⟩
   · have RES := Ad (show x.pause t 1 = if x.late then (x.turn 9, t) else (x.turn 1, t) from by simp [Pl.Nd.pause, hk3])
     have h133 := NT.set H.out 5 (.int .i64 (x.k + 1)) { x with k := x.k + 1 } (fun _ => rfl) rfl rfl rfl
     have HN134 := Ad h133.1
     have SN135 := Ad (St.trans (St.refl F w) h133.2)
     clear h133
     obtain ⟨L9, hL9⟩ := NT.node HN134.out
     have LC136 := Ad (nlate_calls _ hL9)
     clear hL9
     have EL : ({ x with k := x.k + 1 } : Pl.Nd).late = x.late := rfl
     rw [EL] at LC136
     clear EL
     generalize hlt : x.late = lt at *
     go_enter Tryz.func107, Tryz.ntmps107
     go_wp2_with fail
     refine LC136.out.mono ?_
     rintro e w2 ⟨rfl, hC2⟩
     have H2 := Ad (NT.on HN134.out hC2)
     have S2 := Ad (St.trans SN135.out (St.of hC2))
     clear hC2 LC136
     cases lt
     · have TC137 := Ad (turn_calls H2.out 1)
       go_wp2_with fail
       refine TC137.out.mono ?_
       rintro e w138 ⟨rfl, F139, h140, s141⟩
       have HN142 := Ad h140
       have SN143 := Ad (St.trans S2.out s141)
       clear h140 s141 TC137
       go_wp2_with fail
       go_end0
       rw [RES.out]
       simp only [Bool.false_eq_true, if_false]
       exact ⟨rfl, F139, HN142.out, SN143.out⟩
     · have TC144 := Ad (turn_calls H2.out 9)
       go_wp2_with fail
       refine TC144.out.mono ?_
       rintro e w145 ⟨rfl, F146, h147, s148⟩
       have HN149 := Ad h147
       have SN150 := Ad (St.trans S2.out s148)
       clear h147 s148 TC144
       go_wp2_with fail
       go_end0
       rw [RES.out]
       simp only [if_true]
       exact ⟨rfl, F146, HN149.out, SN150.out⟩
theorem charge_k (x : Pl.Nd) (t : Pl.Td) (n : Int) : (x.charge t n).1.k = x.k ∨ (x.charge t n).1.k = 0 := by
 unfold Pl.Nd.charge
 generalize hy : x.count (if x.tx = true then Ct.txC x.ct else Ct.rxC x.ct n) = y
 have hk : y.k = x.k := by rw [<- hy]; rfl
 simp only []
 by_cases h : y.state ≠ 2
 · rw [if_pos h]; exact .inl hk
 · rw [if_neg h]; exact .inr rfl
set_option maxRecDepth 100000 in
theorem dominant_calls (h : NT w b g gt F x t) (lv : Int) (hlv : lv = 0 ∨ lv = 1) (hk : 0 <= x.k /\ x.k <= 1000000) (ht : t.kinds.length <= 80) :
   Calls Tryz.prog 103 #[.pointer (some ⟨g, 0, none⟩), .pointer (some ⟨gt, 0, none⟩), .int .i64 lv] w (Res w b g gt F (x.dominant t lv).1 (x.dominant t lv).2 (.tuple #[])) := by
 have wr : IntKind.i64.wrap (x.k + 1) = x.k + 1 := by rw [IntKind.wrap_i64]; omega
 obtain ⟨L151, hL152⟩ := NT.node h
 have c153 : w.cell? ⟨g, 5, none⟩ = some (.int .i64 x.k) := hL152.cs.cell (by rfl)
 have f154 := hL152.cs.free 5
 clear hL152
 have H := Ad h
 clear h
 rcases hlv with rfl | rfl
 · have h155 := NT.set H.out 5 (.int .i64 (x.k + 1)) { x with k := x.k + 1 } (fun _ => rfl) rfl rfl rfl
   have HN156 := Ad h155.1
   have SN157 := Ad (St.trans (St.refl F w) h155.2)
   clear h155
   go_enter Tryz.func103, Tryz.ntmps103
   by_cases hk9 : x.k + 1 = 6
   · have RES := Ad (show x.dominant t 0 = (({ x with k := x.k + 1 } : Pl.Nd).turn 6, t) from by simp [Pl.Nd.dominant, hk9, Pl.Nd.turn])
     have bk : (x.k + 1 == 6) = true := by simpa using hk9
     clear hk9
     have TC158 := Ad (turn_calls HN156.out 6)
     go_wp2_with fail
     refine TC158.out.mono ?_
     rintro e w159 ⟨rfl, F160, h161, s162⟩
     have HN163 := Ad h161
     have SN164 := Ad (St.trans SN157.out s162)
     clear h161 s162 TC158
     go_wp2_with fail
     go_end0
     rw [RES.out]
     exact ⟨rfl, F160, HN163.out, SN164.out⟩
   · have RES := Ad (show x.dominant t 0 = (({ x with k := x.k + 1 } : Pl.Nd), t) from by simp [Pl.Nd.dominant, hk9])
     have bk : (x.k + 1 == 6) = false := by simpa using hk9
     clear hk9
     go_wp2_with fail
     go_end0
     rw [RES.out]
     exact ⟨rfl, F, HN156.out, SN157.out⟩
 · have TC165 := Ad (tell_calls H.out 4 (by omega))
   go_enter Tryz.func103, Tryz.ntmps103
   go_wp2_with fail
   refine TC165.out.mono ?_
   rintro e w166 ⟨rfl, F167, h168, s169⟩
   have HN170 := Ad h168
   have SN171 := Ad (St.trans (St.refl F w) s169)
   clear h168 s169 TC165
   obtain ⟨y, t3, ok, hch⟩ : ∃ y t3 ok, x.charge (t.tell 4) 8 = (y, t3, ok) := ⟨_, _, _, rfl⟩
   have hyk := charge_k x (t.tell 4) 8
   rw [hch] at hyk
   simp only [] at hyk
   have hyn := charge_kinds x (t.tell 4) 8
   rw [hch] at hyn
   simp only [] at hyn
   have CC := Ad (charge_calls HN170.out 8 (by simp [Pl.Td.tell]; omega))
   rw [hch] at CC
   simp only [] at CC
   have HCH := Ad hch
   clear hch
   go_wp2_with fail
   refine CC.out.mono ?_
   rintro e w7 ⟨rfl, F7, h7, s7⟩
   have H7 := Ad h7
   have S7 := Ad (St.trans SN171.out s7)
   clear h7 s7 CC
   have DD := Ad (show x.dominant t 1 = if ok then (if y.k + 1 = 6 then y.turn 6 else { y with k := y.k + 1 }, t3) else (y, t3) from by simp [Pl.Nd.dominant, HCH.out])
   cases ok
   · go_wp2_with fail
     go_end0
     rw [DD.out]
     simp only [Bool.false_eq_true, if_false]
     exact ⟨rfl, F7, H7.out, S7.out⟩
   · have wr2 : IntKind.i64.wrap (y.k + 1) = y.k + 1 := by rw [IntKind.wrap_i64]; rcases hyk with h | h <;> rw [h] <;> omega
     clear hyk
     obtain ⟨L172, hL173⟩ := NT.node H7.out
     have c174 : w7.cell? ⟨g, 5, none⟩ = some (.int .i64 y.k) := hL173.cs.cell (by rfl)
     have f175 := hL173.cs.free 5
     clear hL173
     have h176 := NT.set H7.out 5 (.int .i64 (y.k + 1)) { y with k := y.k + 1 } (fun _ => rfl) rfl rfl rfl
     have HN177 := Ad h176.1
     have SN178 := Ad (St.trans S7.out h176.2)
     clear h176
     by_cases hk9 : y.k + 1 = 6
     · have RES := Ad (show x.dominant t 1 = (({ y with k := y.k + 1 } : Pl.Nd).turn 6, t3) from by rw [DD.out]; simp [hk9, Pl.Nd.turn])
       have bk : (y.k + 1 == 6) = true := by simpa using hk9
       clear hk9
       have TC179 := Ad (turn_calls HN177.out 6)
       go_wp2_with fail
       refine TC179.out.mono ?_
       rintro e w180 ⟨rfl, F181, h182, s183⟩
       have HN184 := Ad h182
       have SN185 := Ad (St.trans SN178.out s183)
       clear h182 s183 TC179
       go_wp2_with fail
       go_end0
       rw [RES.out]
       exact ⟨rfl, F181, HN184.out, SN185.out⟩
     · have RES := Ad (show x.dominant t 1 = (({ y with k := y.k + 1 } : Pl.Nd), t3) from by rw [DD.out]; simp [hk9])
       have bk : (y.k + 1 == 6) = false := by simpa using hk9
       clear hk9
       go_wp2_with fail
       go_end0
       rw [RES.out]
       exact ⟨rfl, F7, HN177.out, SN178.out⟩
set_option maxRecDepth 100000 in
theorem passive_calls (h : NT w b g gt F x t) (lv : Int) (hlv : lv = 0 ∨ lv = 1) (hk : 0 <= x.k /\ x.k <= 1000000) (ht : t.kinds.length <= 80) :
   Calls Tryz.prog 104 #[.pointer (some ⟨g, 0, none⟩), .pointer (some ⟨gt, 0, none⟩), .int .i64 lv] w (Res w b g gt F (x.passive t lv).1 (x.passive t lv).2 (.tuple #[])) := by
 have wr : IntKind.i64.wrap (x.k + 1) = x.k + 1 := by rw [IntKind.wrap_i64]; omega
 obtain ⟨L186, hL187⟩ := NT.node h
 have c188 : w.cell? ⟨g, 1, none⟩ = some (.int .i64 x.level) := hL187.cs.cell (by rfl)
 have f189 := hL187.cs.free 1
 have c190 : w.cell? ⟨g, 5, none⟩ = some (.int .i64 x.k) := hL187.cs.cell (by rfl)
 have f191 := hL187.cs.free 5
 have c192 : w.cell? ⟨g, 9, none⟩ = some (.bool x.owed) := hL187.cs.cell (by rfl)
 have f193 := hL187.cs.free 9
 clear hL187
 have H := Ad h
 clear h
 rcases hlv with rfl | rfl
 · cases hox : x.owed
   · rw [hox] at c192
     by_cases hA : 0 < x.k /\ ¬ (0 : Int) = x.level
     · have hA1 := hA.1
       have hA2 := hA.2
       have h194 := NT.set H.out 5 (.int .i64 0) { x with k := 0 } (fun _ => rfl) rfl rfl rfl
       have h195 := NT.set h194.1 5 (.int .i64 1) { x with k := 1 } (fun _ => rfl) rfl rfl rfl
       have h196 := NT.set h195.1 1 (.int .i64 0) { x with k := 1, level := 0 } (fun _ => rfl) rfl rfl rfl
       have HN197 := Ad h196.1
       have SN198 := Ad (St.trans (St.trans (St.trans (St.refl F w) h194.2) h195.2) h196.2)
       clear h194 h195 h196
       have PP := Ad (show x.passive t 0 = (let c := if x.owed && decide ((0 : Int) = 0) then ({ x with k := 1, level := 0, owed := false } : Pl.Nd).charge t 8 else (({ x with k := 1, level := 0 } : Pl.Nd), t, true); if c.2.2 then (if c.1.k = 6 then c.1.turn 6 else c.1, c.2.1) else (c.1, c.2.1)) from by simp [Pl.Nd.passive, hA])
       clear hA
       go_enter Tryz.func104, Tryz.ntmps104
       have RES := Ad (show x.passive t 0 = (({ x with k := 1, level := 0 } : Pl.Nd), t) from by rw [PP.out, hox]; simp)
       go_wp2_with fail
       go_end0
       rw [RES.out]
       exact ⟨rfl, F, HN197.out, SN198.out⟩
     · by_cases hA1 : 0 < x.k
       · have hA2 : (0 : Int) = x.level := by by_cases h : (0 : Int) = x.level; exact h; exact absurd ⟨hA1, h⟩ hA
         have hA3 : ((0 : Int) == x.level) = true := by simpa using hA2
         clear hA2
         have h199 := NT.set H.out 5 (.int .i64 (x.k + 1)) { x with k := x.k + 1 } (fun _ => rfl) rfl rfl rfl
         have h200 := NT.set h199.1 1 (.int .i64 0) { x with k := x.k + 1, level := 0 } (fun _ => rfl) rfl rfl rfl
         have HN201 := Ad h200.1
         have SN202 := Ad (St.trans (St.trans (St.refl F w) h199.2) h200.2)
         clear h199 h200
         have PP := Ad (show x.passive t 0 = (let c := if x.owed && decide ((0 : Int) = 0) then ({ x with k := x.k + 1, level := 0, owed := false } : Pl.Nd).charge t 8 else (({ x with k := x.k + 1, level := 0 } : Pl.Nd), t, true); if c.2.2 then (if c.1.k = 6 then c.1.turn 6 else c.1, c.2.1) else (c.1, c.2.1)) from by simp [Pl.Nd.passive, hA])
         clear hA
         go_enter Tryz.func104, Tryz.ntmps104
         by_cases hk9 : x.k + 1 = 6
         · have RES := Ad (show x.passive t 0 = (({ x with k := x.k + 1, level := 0 } : Pl.Nd).turn 6, t) from by rw [PP.out, hox]; simp [hk9])
           have bk : (x.k + 1 == 6) = true := by simpa using hk9
           clear hk9
           have TC203 := Ad (turn_calls HN201.out 6)
           go_wp2_with fail
           refine TC203.out.mono ?_
           rintro e w204 ⟨rfl, F205, h206, s207⟩
           have HN208 := Ad h206
           have SN209 := Ad (St.trans SN202.out s207)
           clear h206 s207 TC203
           go_wp2_with fail
           go_end0
           rw [RES.out]
           exact ⟨rfl, F205, HN208.out, SN209.out⟩
         · have RES := Ad (show x.passive t 0 = (({ x with k := x.k + 1, level := 0 } : Pl.Nd), t) from by rw [PP.out, hox]; simp [hk9])
           have bk : (x.k + 1 == 6) = false := by simpa using hk9
           clear hk9
           go_wp2_with fail
           go_end0
           rw [RES.out]
           exact ⟨rfl, F, HN201.out, SN202.out⟩
       · have h210 := NT.set H.out 5 (.int .i64 (x.k + 1)) { x with k := x.k + 1 } (fun _ => rfl) rfl rfl rfl
         have h211 := NT.set h210.1 1 (.int .i64 0) { x with k := x.k + 1, level := 0 } (fun _ => rfl) rfl rfl rfl
         have HN212 := Ad h211.1
         have SN213 := Ad (St.trans (St.trans (St.refl F w) h210.2) h211.2)
         clear h210 h211
         have PP := Ad (show x.passive t 0 = (let c := if x.owed && decide ((0 : Int) = 0) then ({ x with k := x.k + 1, level := 0, owed := false } : Pl.Nd).charge t 8 else (({ x with k := x.k + 1, level := 0 } : Pl.Nd), t, true); if c.2.2 then (if c.1.k = 6 then c.1.turn 6 else c.1, c.2.1) else (c.1, c.2.1)) from by simp [Pl.Nd.passive, hA])
         clear hA
         go_enter Tryz.func104, Tryz.ntmps104
         by_cases hk9 : x.k + 1 = 6
         · have RES := Ad (show x.passive t 0 = (({ x with k := x.k + 1, level := 0 } : Pl.Nd).turn 6, t) from by rw [PP.out, hox]; simp [hk9])
           have bk : (x.k + 1 == 6) = true := by simpa using hk9
           clear hk9
           have TC214 := Ad (turn_calls HN212.out 6)
           go_wp2_with fail
           refine TC214.out.mono ?_
           rintro e w215 ⟨rfl, F216, h217, s218⟩
           have HN219 := Ad h217
           have SN220 := Ad (St.trans SN213.out s218)
           clear h217 s218 TC214
           go_wp2_with fail
           go_end0
           rw [RES.out]
           exact ⟨rfl, F216, HN219.out, SN220.out⟩
         · have RES := Ad (show x.passive t 0 = (({ x with k := x.k + 1, level := 0 } : Pl.Nd), t) from by rw [PP.out, hox]; simp [hk9])
           have bk : (x.k + 1 == 6) = false := by simpa using hk9
           clear hk9
           go_wp2_with fail
           go_end0
           rw [RES.out]
           exact ⟨rfl, F, HN212.out, SN213.out⟩
   · rw [hox] at c192
     by_cases hA : 0 < x.k /\ ¬ (0 : Int) = x.level
     · have hA1 := hA.1
       have hA2 := hA.2
       have h221 := NT.set H.out 5 (.int .i64 0) { x with k := 0 } (fun _ => rfl) rfl rfl rfl
       have h222 := NT.set h221.1 5 (.int .i64 1) { x with k := 1 } (fun _ => rfl) rfl rfl rfl
       have h223 := NT.set h222.1 1 (.int .i64 0) { x with k := 1, level := 0 } (fun _ => rfl) rfl rfl rfl
       have HN224 := Ad h223.1
       have SN225 := Ad (St.trans (St.trans (St.trans (St.refl F w) h221.2) h222.2) h223.2)
       clear h221 h222 h223
       have PP := Ad (show x.passive t 0 = (let c := if x.owed && decide ((0 : Int) = 0) then ({ x with k := 1, level := 0, owed := false } : Pl.Nd).charge t 8 else (({ x with k := 1, level := 0 } : Pl.Nd), t, true); if c.2.2 then (if c.1.k = 6 then c.1.turn 6 else c.1, c.2.1) else (c.1, c.2.1)) from by simp [Pl.Nd.passive, hA])
       clear hA
       have h226 := NT.set HN224.out 9 (.bool false) { x with k := 1, level := 0, owed := false } (fun _ => rfl) rfl rfl rfl
       have HN227 := Ad h226.1
       have SN228 := Ad (St.trans SN225.out h226.2)
       clear h226
       obtain ⟨y, t3, ok, hch⟩ : ∃ y t3 ok, ({ x with k := 1, level := 0, owed := false } : Pl.Nd).charge t 8 = (y, t3, ok) := ⟨_, _, _, rfl⟩
       have hyk := charge_k ({ x with k := 1, level := 0, owed := false } : Pl.Nd) t 8
       rw [hch] at hyk
       simp only [] at hyk
       have hyn := charge_kinds ({ x with k := 1, level := 0, owed := false } : Pl.Nd) t 8
       rw [hch] at hyn
       simp only [] at hyn
       have CC := Ad (charge_calls HN227.out 8 (by omega))
       rw [hch] at CC
       simp only [] at CC
       have HCH := Ad hch
       clear hch
       go_enter Tryz.func104, Tryz.ntmps104
       go_wp2_with fail
       refine CC.out.mono ?_
       rintro e w7 ⟨rfl, F7, h7, s7⟩
       have H7 := Ad h7
       have S7 := Ad (St.trans SN228.out s7)
       clear h7 s7 CC
       have DD := Ad (show x.passive t 0 = if ok then (if y.k = 6 then y.turn 6 else y, t3) else (y, t3) from by rw [PP.out, hox]; simp only [Bool.true_and, decide_true, if_true]; rw [HCH.out])
       cases ok
       · go_wp2_with fail
         go_end0
         rw [DD.out]
         simp only [Bool.false_eq_true, if_false]
         exact ⟨rfl, F7, H7.out, S7.out⟩
       · clear hyk hyn
         obtain ⟨L229, hL230⟩ := NT.node H7.out
         have c231 : w7.cell? ⟨g, 5, none⟩ = some (.int .i64 y.k) := hL230.cs.cell (by rfl)
         have f232 := hL230.cs.free 5
         clear hL230
         by_cases hk9 : y.k = 6
         · have RES := Ad (show x.passive t 0 = (y.turn 6, t3) from by rw [DD.out]; simp [hk9])
           have bk : (y.k == 6) = true := by simpa using hk9
           clear hk9
           have TC233 := Ad (turn_calls H7.out 6)
           go_wp2_with fail
           refine TC233.out.mono ?_
           rintro e w234 ⟨rfl, F235, h236, s237⟩
           have HN238 := Ad h236
           have SN239 := Ad (St.trans S7.out s237)
           clear h236 s237 TC233
           go_wp2_with fail
           go_end0
           rw [RES.out]
           exact ⟨rfl, F235, HN238.out, SN239.out⟩
         · have RES := Ad (show x.passive t 0 = (y, t3) from by rw [DD.out]; simp [hk9])
           have bk : (y.k == 6) = false := by simpa using hk9
           clear hk9
           go_wp2_with fail
           go_end0
           rw [RES.out]
           exact ⟨rfl, F7, H7.out, S7.out⟩
     · by_cases hA1 : 0 < x.k
       · have hA2 : (0 : Int) = x.level := by by_cases h : (0 : Int) = x.level; exact h; exact absurd ⟨hA1, h⟩ hA
         have hA3 : ((0 : Int) == x.level) = true := by simpa using hA2
         clear hA2
         have h240 := NT.set H.out 5 (.int .i64 (x.k + 1)) { x with k := x.k + 1 } (fun _ => rfl) rfl rfl rfl
         have h241 := NT.set h240.1 1 (.int .i64 0) { x with k := x.k + 1, level := 0 } (fun _ => rfl) rfl rfl rfl
         have HN242 := Ad h241.1
         have SN243 := Ad (St.trans (St.trans (St.refl F w) h240.2) h241.2)
         clear h240 h241
         have PP := Ad (show x.passive t 0 = (let c := if x.owed && decide ((0 : Int) = 0) then ({ x with k := x.k + 1, level := 0, owed := false } : Pl.Nd).charge t 8 else (({ x with k := x.k + 1, level := 0 } : Pl.Nd), t, true); if c.2.2 then (if c.1.k = 6 then c.1.turn 6 else c.1, c.2.1) else (c.1, c.2.1)) from by simp [Pl.Nd.passive, hA])
         clear hA
         have h244 := NT.set HN242.out 9 (.bool false) { x with k := x.k + 1, level := 0, owed := false } (fun _ => rfl) rfl rfl rfl
         have HN245 := Ad h244.1
         have SN246 := Ad (St.trans SN243.out h244.2)
         clear h244
         obtain ⟨y, t3, ok, hch⟩ : ∃ y t3 ok, ({ x with k := x.k + 1, level := 0, owed := false } : Pl.Nd).charge t 8 = (y, t3, ok) := ⟨_, _, _, rfl⟩
         have hyk := charge_k ({ x with k := x.k + 1, level := 0, owed := false } : Pl.Nd) t 8
         rw [hch] at hyk
         simp only [] at hyk
         have hyn := charge_kinds ({ x with k := x.k + 1, level := 0, owed := false } : Pl.Nd) t 8
         rw [hch] at hyn
         simp only [] at hyn
         have CC := Ad (charge_calls HN245.out 8 (by omega))
         rw [hch] at CC
         simp only [] at CC
         have HCH := Ad hch
         clear hch
         go_enter Tryz.func104, Tryz.ntmps104
         go_wp2_with fail
         refine CC.out.mono ?_
         rintro e w7 ⟨rfl, F7, h7, s7⟩
         have H7 := Ad h7
         have S7 := Ad (St.trans SN246.out s7)
         clear h7 s7 CC
         have DD := Ad (show x.passive t 0 = if ok then (if y.k = 6 then y.turn 6 else y, t3) else (y, t3) from by rw [PP.out, hox]; simp only [Bool.true_and, decide_true, if_true]; rw [HCH.out])
         cases ok
         · go_wp2_with fail
           go_end0
           rw [DD.out]
           simp only [Bool.false_eq_true, if_false]
           exact ⟨rfl, F7, H7.out, S7.out⟩
         · clear hyk hyn
           obtain ⟨L247, hL248⟩ := NT.node H7.out
           have c249 : w7.cell? ⟨g, 5, none⟩ = some (.int .i64 y.k) := hL248.cs.cell (by rfl)
           have f250 := hL248.cs.free 5
           clear hL248
           by_cases hk9 : y.k = 6
           · have RES := Ad (show x.passive t 0 = (y.turn 6, t3) from by rw [DD.out]; simp [hk9])
             have bk : (y.k == 6) = true := by simpa using hk9
             clear hk9
             have TC251 := Ad (turn_calls H7.out 6)
             go_wp2_with fail
             refine TC251.out.mono ?_
             rintro e w252 ⟨rfl, F253, h254, s255⟩
             have HN256 := Ad h254
             have SN257 := Ad (St.trans S7.out s255)
             clear h254 s255 TC251
             go_wp2_with fail
             go_end0
             rw [RES.out]
             exact ⟨rfl, F253, HN256.out, SN257.out⟩
           · have RES := Ad (show x.passive t 0 = (y, t3) from by rw [DD.out]; simp [hk9])
             have bk : (y.k == 6) = false := by simpa using hk9
             clear hk9
             go_wp2_with fail
             go_end0
             rw [RES.out]
             exact ⟨rfl, F7, H7.out, S7.out⟩
       · have h258 := NT.set H.out 5 (.int .i64 (x.k + 1)) { x with k := x.k + 1 } (fun _ => rfl) rfl rfl rfl
         have h259 := NT.set h258.1 1 (.int .i64 0) { x with k := x.k + 1, level := 0 } (fun _ => rfl) rfl rfl rfl
         have HN260 := Ad h259.1
         have SN261 := Ad (St.trans (St.trans (St.refl F w) h258.2) h259.2)
         clear h258 h259
         have PP := Ad (show x.passive t 0 = (let c := if x.owed && decide ((0 : Int) = 0) then ({ x with k := x.k + 1, level := 0, owed := false } : Pl.Nd).charge t 8 else (({ x with k := x.k + 1, level := 0 } : Pl.Nd), t, true); if c.2.2 then (if c.1.k = 6 then c.1.turn 6 else c.1, c.2.1) else (c.1, c.2.1)) from by simp [Pl.Nd.passive, hA])
         clear hA
         have h262 := NT.set HN260.out 9 (.bool false) { x with k := x.k + 1, level := 0, owed := false } (fun _ => rfl) rfl rfl rfl
         have HN263 := Ad h262.1
         have SN264 := Ad (St.trans SN261.out h262.2)
         clear h262
         obtain ⟨y, t3, ok, hch⟩ : ∃ y t3 ok, ({ x with k := x.k + 1, level := 0, owed := false } : Pl.Nd).charge t 8 = (y, t3, ok) := ⟨_, _, _, rfl⟩
         have hyk := charge_k ({ x with k := x.k + 1, level := 0, owed := false } : Pl.Nd) t 8
         rw [hch] at hyk
         simp only [] at hyk
         have hyn := charge_kinds ({ x with k := x.k + 1, level := 0, owed := false } : Pl.Nd) t 8
         rw [hch] at hyn
         simp only [] at hyn
         have CC := Ad (charge_calls HN263.out 8 (by omega))
         rw [hch] at CC
         simp only [] at CC
         have HCH := Ad hch
         clear hch
         go_enter Tryz.func104, Tryz.ntmps104
         go_wp2_with fail
         refine CC.out.mono ?_
         rintro e w7 ⟨rfl, F7, h7, s7⟩
         have H7 := Ad h7
         have S7 := Ad (St.trans SN264.out s7)
         clear h7 s7 CC
         have DD := Ad (show x.passive t 0 = if ok then (if y.k = 6 then y.turn 6 else y, t3) else (y, t3) from by rw [PP.out, hox]; simp only [Bool.true_and, decide_true, if_true]; rw [HCH.out])
         cases ok
         · go_wp2_with fail
           go_end0
           rw [DD.out]
           simp only [Bool.false_eq_true, if_false]
           exact ⟨rfl, F7, H7.out, S7.out⟩
         · clear hyk hyn
           obtain ⟨L265, hL266⟩ := NT.node H7.out
           have c267 : w7.cell? ⟨g, 5, none⟩ = some (.int .i64 y.k) := hL266.cs.cell (by rfl)
           have f268 := hL266.cs.free 5
           clear hL266
           by_cases hk9 : y.k = 6
           · have RES := Ad (show x.passive t 0 = (y.turn 6, t3) from by rw [DD.out]; simp [hk9])
             have bk : (y.k == 6) = true := by simpa using hk9
             clear hk9
             have TC269 := Ad (turn_calls H7.out 6)
             go_wp2_with fail
             refine TC269.out.mono ?_
             rintro e w270 ⟨rfl, F271, h272, s273⟩
             have HN274 := Ad h272
             have SN275 := Ad (St.trans S7.out s273)
             clear h272 s273 TC269
             go_wp2_with fail
             go_end0
             rw [RES.out]
             exact ⟨rfl, F271, HN274.out, SN275.out⟩
           · have RES := Ad (show x.passive t 0 = (y, t3) from by rw [DD.out]; simp [hk9])
             have bk : (y.k == 6) = false := by simpa using hk9
             clear hk9
             go_wp2_with fail
             go_end0
             rw [RES.out]
             exact ⟨rfl, F7, H7.out, S7.out⟩
 · cases hox : x.owed
   · rw [hox] at c192
     by_cases hA : 0 < x.k /\ ¬ (1 : Int) = x.level
     · have hA1 := hA.1
       have hA2 := hA.2
       have h276 := NT.set H.out 5 (.int .i64 0) { x with k := 0 } (fun _ => rfl) rfl rfl rfl
       have h277 := NT.set h276.1 5 (.int .i64 1) { x with k := 1 } (fun _ => rfl) rfl rfl rfl
       have h278 := NT.set h277.1 1 (.int .i64 1) { x with k := 1, level := 1 } (fun _ => rfl) rfl rfl rfl
       have HN279 := Ad h278.1
       have SN280 := Ad (St.trans (St.trans (St.trans (St.refl F w) h276.2) h277.2) h278.2)
       clear h276 h277 h278
       have PP := Ad (show x.passive t 1 = (let c := if x.owed && decide ((1 : Int) = 0) then ({ x with k := 1, level := 1, owed := false } : Pl.Nd).charge t 8 else (({ x with k := 1, level := 1 } : Pl.Nd), t, true); if c.2.2 then (if c.1.k = 6 then c.1.turn 6 else c.1, c.2.1) else (c.1, c.2.1)) from by simp [Pl.Nd.passive, hA])
       clear hA
       go_enter Tryz.func104, Tryz.ntmps104
       have RES := Ad (show x.passive t 1 = (({ x with k := 1, level := 1 } : Pl.Nd), t) from by rw [PP.out, hox]; simp)
       go_wp2_with fail
       go_end0
       rw [RES.out]
       exact ⟨rfl, F, HN279.out, SN280.out⟩
     · by_cases hA1 : 0 < x.k
       · have hA2 : (1 : Int) = x.level := by by_cases h : (1 : Int) = x.level; exact h; exact absurd ⟨hA1, h⟩ hA
         have hA3 : ((1 : Int) == x.level) = true := by simpa using hA2
         clear hA2
         have h281 := NT.set H.out 5 (.int .i64 (x.k + 1)) { x with k := x.k + 1 } (fun _ => rfl) rfl rfl rfl
         have h282 := NT.set h281.1 1 (.int .i64 1) { x with k := x.k + 1, level := 1 } (fun _ => rfl) rfl rfl rfl
         have HN283 := Ad h282.1
         have SN284 := Ad (St.trans (St.trans (St.refl F w) h281.2) h282.2)
         clear h281 h282
         have PP := Ad (show x.passive t 1 = (let c := if x.owed && decide ((1 : Int) = 0) then ({ x with k := x.k + 1, level := 1, owed := false } : Pl.Nd).charge t 8 else (({ x with k := x.k + 1, level := 1 } : Pl.Nd), t, true); if c.2.2 then (if c.1.k = 6 then c.1.turn 6 else c.1, c.2.1) else (c.1, c.2.1)) from by simp [Pl.Nd.passive, hA])
         clear hA
         go_enter Tryz.func104, Tryz.ntmps104
         by_cases hk9 : x.k + 1 = 6
         · have RES := Ad (show x.passive t 1 = (({ x with k := x.k + 1, level := 1 } : Pl.Nd).turn 6, t) from by rw [PP.out, hox]; simp [hk9])
           have bk : (x.k + 1 == 6) = true := by simpa using hk9
           clear hk9
           have TC285 := Ad (turn_calls HN283.out 6)
           go_wp2_with fail
           refine TC285.out.mono ?_
           rintro e w286 ⟨rfl, F287, h288, s289⟩
           have HN290 := Ad h288
           have SN291 := Ad (St.trans SN284.out s289)
           clear h288 s289 TC285
           go_wp2_with fail
           go_end0
           rw [RES.out]
           exact ⟨rfl, F287, HN290.out, SN291.out⟩
         · have RES := Ad (show x.passive t 1 = (({ x with k := x.k + 1, level := 1 } : Pl.Nd), t) from by rw [PP.out, hox]; simp [hk9])
           have bk : (x.k + 1 == 6) = false := by simpa using hk9
           clear hk9
           go_wp2_with fail
           go_end0
           rw [RES.out]
           exact ⟨rfl, F, HN283.out, SN284.out⟩
       · have h292 := NT.set H.out 5 (.int .i64 (x.k + 1)) { x with k := x.k + 1 } (fun _ => rfl) rfl rfl rfl
         have h293 := NT.set h292.1 1 (.int .i64 1) { x with k := x.k + 1, level := 1 } (fun _ => rfl) rfl rfl rfl
         have HN294 := Ad h293.1
         have SN295 := Ad (St.trans (St.trans (St.refl F w) h292.2) h293.2)
         clear h292 h293
         have PP := Ad (show x.passive t 1 = (let c := if x.owed && decide ((1 : Int) = 0) then ({ x with k := x.k + 1, level := 1, owed := false } : Pl.Nd).charge t 8 else (({ x with k := x.k + 1, level := 1 } : Pl.Nd), t, true); if c.2.2 then (if c.1.k = 6 then c.1.turn 6 else c.1, c.2.1) else (c.1, c.2.1)) from by simp [Pl.Nd.passive, hA])
         clear hA
         go_enter Tryz.func104, Tryz.ntmps104
         by_cases hk9 : x.k + 1 = 6
         · have RES := Ad (show x.passive t 1 = (({ x with k := x.k + 1, level := 1 } : Pl.Nd).turn 6, t) from by rw [PP.out, hox]; simp [hk9])
           have bk : (x.k + 1 == 6) = true := by simpa using hk9
           clear hk9
           have TC296 := Ad (turn_calls HN294.out 6)
           go_wp2_with fail
           refine TC296.out.mono ?_
           rintro e w297 ⟨rfl, F298, h299, s300⟩
           have HN301 := Ad h299
           have SN302 := Ad (St.trans SN295.out s300)
           clear h299 s300 TC296
           go_wp2_with fail
           go_end0
           rw [RES.out]
           exact ⟨rfl, F298, HN301.out, SN302.out⟩
         · have RES := Ad (show x.passive t 1 = (({ x with k := x.k + 1, level := 1 } : Pl.Nd), t) from by rw [PP.out, hox]; simp [hk9])
           have bk : (x.k + 1 == 6) = false := by simpa using hk9
           clear hk9
           go_wp2_with fail
           go_end0
           rw [RES.out]
           exact ⟨rfl, F, HN294.out, SN295.out⟩
   · rw [hox] at c192
     by_cases hA : 0 < x.k /\ ¬ (1 : Int) = x.level
     · have hA1 := hA.1
       have hA2 := hA.2
       have h303 := NT.set H.out 5 (.int .i64 0) { x with k := 0 } (fun _ => rfl) rfl rfl rfl
       have h304 := NT.set h303.1 5 (.int .i64 1) { x with k := 1 } (fun _ => rfl) rfl rfl rfl
       have h305 := NT.set h304.1 1 (.int .i64 1) { x with k := 1, level := 1 } (fun _ => rfl) rfl rfl rfl
       have HN306 := Ad h305.1
       have SN307 := Ad (St.trans (St.trans (St.trans (St.refl F w) h303.2) h304.2) h305.2)
       clear h303 h304 h305
       have PP := Ad (show x.passive t 1 = (let c := if x.owed && decide ((1 : Int) = 0) then ({ x with k := 1, level := 1, owed := false } : Pl.Nd).charge t 8 else (({ x with k := 1, level := 1 } : Pl.Nd), t, true); if c.2.2 then (if c.1.k = 6 then c.1.turn 6 else c.1, c.2.1) else (c.1, c.2.1)) from by simp [Pl.Nd.passive, hA])
       clear hA
       go_enter Tryz.func104, Tryz.ntmps104
       have RES := Ad (show x.passive t 1 = (({ x with k := 1, level := 1 } : Pl.Nd), t) from by rw [PP.out, hox]; simp)
       go_wp2_with fail
       go_end0
       rw [RES.out]
       exact ⟨rfl, F, HN306.out, SN307.out⟩
     · by_cases hA1 : 0 < x.k
       · have hA2 : (1 : Int) = x.level := by by_cases h : (1 : Int) = x.level; exact h; exact absurd ⟨hA1, h⟩ hA
         have hA3 : ((1 : Int) == x.level) = true := by simpa using hA2
         clear hA2
         have h308 := NT.set H.out 5 (.int .i64 (x.k + 1)) { x with k := x.k + 1 } (fun _ => rfl) rfl rfl rfl
         have h309 := NT.set h308.1 1 (.int .i64 1) { x with k := x.k + 1, level := 1 } (fun _ => rfl) rfl rfl rfl
         have HN310 := Ad h309.1
         have SN311 := Ad (St.trans (St.trans (St.refl F w) h308.2) h309.2)
         clear h308 h309
         have PP := Ad (show x.passive t 1 = (let c := if x.owed && decide ((1 : Int) = 0) then ({ x with k := x.k + 1, level := 1, owed := false } : Pl.Nd).charge t 8 else (({ x with k := x.k + 1, level := 1 } : Pl.Nd), t, true); if c.2.2 then (if c.1.k = 6 then c.1.turn 6 else c.1, c.2.1) else (c.1, c.2.1)) from by simp [Pl.Nd.passive, hA])
         clear hA
         go_enter Tryz.func104, Tryz.ntmps104
         by_cases hk9 : x.k + 1 = 6
         · have RES := Ad (show x.passive t 1 = (({ x with k := x.k + 1, level := 1 } : Pl.Nd).turn 6, t) from by rw [PP.out, hox]; simp [hk9])
           have bk : (x.k + 1 == 6) = true := by simpa using hk9
           clear hk9
           have TC312 := Ad (turn_calls HN310.out 6)
           go_wp2_with fail
           refine TC312.out.mono ?_
           rintro e w313 ⟨rfl, F314, h315, s316⟩
           have HN317 := Ad h315
           have SN318 := Ad (St.trans SN311.out s316)
           clear h315 s316 TC312
           go_wp2_with fail
           go_end0
           rw [RES.out]
           exact ⟨rfl, F314, HN317.out, SN318.out⟩
         · have RES := Ad (show x.passive t 1 = (({ x with k := x.k + 1, level := 1 } : Pl.Nd), t) from by rw [PP.out, hox]; simp [hk9])
           have bk : (x.k + 1 == 6) = false := by simpa using hk9
           clear hk9
           go_wp2_with fail
           go_end0
           rw [RES.out]
           exact ⟨rfl, F, HN310.out, SN311.out⟩
       · have h319 := NT.set H.out 5 (.int .i64 (x.k + 1)) { x with k := x.k + 1 } (fun _ => rfl) rfl rfl rfl
         have h320 := NT.set h319.1 1 (.int .i64 1) { x with k := x.k + 1, level := 1 } (fun _ => rfl) rfl rfl rfl
         have HN321 := Ad h320.1
         have SN322 := Ad (St.trans (St.trans (St.refl F w) h319.2) h320.2)
         clear h319 h320
         have PP := Ad (show x.passive t 1 = (let c := if x.owed && decide ((1 : Int) = 0) then ({ x with k := x.k + 1, level := 1, owed := false } : Pl.Nd).charge t 8 else (({ x with k := x.k + 1, level := 1 } : Pl.Nd), t, true); if c.2.2 then (if c.1.k = 6 then c.1.turn 6 else c.1, c.2.1) else (c.1, c.2.1)) from by simp [Pl.Nd.passive, hA])
         clear hA
         go_enter Tryz.func104, Tryz.ntmps104
         by_cases hk9 : x.k + 1 = 6
         · have RES := Ad (show x.passive t 1 = (({ x with k := x.k + 1, level := 1 } : Pl.Nd).turn 6, t) from by rw [PP.out, hox]; simp [hk9])
           have bk : (x.k + 1 == 6) = true := by simpa using hk9
           clear hk9
           have TC323 := Ad (turn_calls HN321.out 6)
           go_wp2_with fail
           refine TC323.out.mono ?_
           rintro e w324 ⟨rfl, F325, h326, s327⟩
           have HN328 := Ad h326
           have SN329 := Ad (St.trans SN322.out s327)
           clear h326 s327 TC323
           go_wp2_with fail
           go_end0
           rw [RES.out]
           exact ⟨rfl, F325, HN328.out, SN329.out⟩
         · have RES := Ad (show x.passive t 1 = (({ x with k := x.k + 1, level := 1 } : Pl.Nd), t) from by rw [PP.out, hox]; simp [hk9])
           have bk : (x.k + 1 == 6) = false := by simpa using hk9
           clear hk9
           go_wp2_with fail
           go_end0
           rw [RES.out]
           exact ⟨rfl, F, HN321.out, SN322.out⟩
set_option maxRecDepth 100000 in
theorem waiting_calls (h : NT w b g gt F x t) (lv : Int) (hlv : lv = 0 ∨ lv = 1) (hk : 0 <= x.k /\ x.k <= 1000000) (ht : t.kinds.length <= 80) :
   Calls Tryz.prog 105 #[.pointer (some ⟨g, 0, none⟩), .pointer (some ⟨gt, 0, none⟩), .int .i64 lv] w (Res w b g gt F (x.waiting t lv).1 (x.waiting t lv).2 (.tuple #[])) := by
 have wr : IntKind.i64.wrap (x.k + 1) = x.k + 1 := by rw [IntKind.wrap_i64]; omega
 obtain ⟨L330, hL331⟩ := NT.node h
 have c332 : w.cell? ⟨g, 5, none⟩ = some (.int .i64 x.k) := hL331.cs.cell (by rfl)
 have f333 := hL331.cs.free 5
 have c334 : w.cell? ⟨g, 7, none⟩ = some (.bool x.tx) := hL331.cs.cell (by rfl)
 have f335 := hL331.cs.free 7
 have c336 : w.cell? ⟨g, 10, none⟩ = some (.bool x.wrong) := hL331.cs.cell (by rfl)
 have f337 := hL331.cs.free 10
 clear hL331
 have H := Ad h
 clear h
 rcases hlv with rfl | rfl
 · have h338 := NT.set H.out 5 (.int .i64 (x.k + 1)) { x with k := x.k + 1 } (fun _ => rfl) rfl rfl rfl
   have HN339 := Ad h338.1
   have SN340 := Ad (St.trans (St.refl F w) h338.2)
   clear h338
   have WT := Ad (show x.waiting t 0 = (let c := if x.k + 1 = 1 /\ x.wrong = true /\ x.tx = false then ((({ x with k := x.k + 1 } : Pl.Nd).charge t 8).1, (({ x with k := x.k + 1 } : Pl.Nd).charge t 8).2.1) else (({ x with k := x.k + 1 } : Pl.Nd), t); if c.1.k.tmod 8 = 0 then ((c.1.charge c.2 8).1, (c.1.charge c.2 8).2.1) else c) from by simp only [Pl.Nd.waiting]; rw [if_neg (by decide)])
   by_cases hk1 : x.k + 1 = 1
   · have b1 : (x.k + 1 == 1) = true := by simpa using hk1
     cases hw : x.wrong
     · have WW := Ad (show x.waiting t 0 = if ({ x with k := x.k + 1 } : Pl.Nd).k.tmod 8 = 0 then ((({ x with k := x.k + 1 } : Pl.Nd).charge t 8).1, (({ x with k := x.k + 1 } : Pl.Nd).charge t 8).2.1) else (({ x with k := x.k + 1 } : Pl.Nd), t) from by rw [WT.out]; simp only []; rw [if_neg (c := x.k + 1 = 1 /\ x.wrong = true /\ x.tx = false) (fun h => by rw [hw] at h; exact absurd h.2.1 (by decide))])
       rw [hw] at c336
       have RES := Ad (show x.waiting t 0 = (({ x with k := x.k + 1 } : Pl.Nd), t) from by rw [WW.out, if_neg (by show ¬ (x.k + 1).tmod 8 = 0; rw [hk1]; decide)])
       have hm : ((x.k + 1).tmod 8 == 0) = false := by rw [hk1]; decide
       clear hk1
       go_enter Tryz.func105, Tryz.ntmps105
       go_wp2_with fail
       go_end0
       rw [RES.out]
       exact ⟨rfl, F, HN339.out, SN340.out⟩
     · cases hx : x.tx
       · have WW := Ad (show x.waiting t 0 = if (({ x with k := x.k + 1 } : Pl.Nd).charge t 8).1.k.tmod 8 = 0 then (((({ x with k := x.k + 1 } : Pl.Nd).charge t 8).1.charge (({ x with k := x.k + 1 } : Pl.Nd).charge t 8).2.1 8).1, ((({ x with k := x.k + 1 } : Pl.Nd).charge t 8).1.charge (({ x with k := x.k + 1 } : Pl.Nd).charge t 8).2.1 8).2.1) else ((({ x with k := x.k + 1 } : Pl.Nd).charge t 8).1, (({ x with k := x.k + 1 } : Pl.Nd).charge t 8).2.1) from by rw [WT.out]; simp only []; rw [if_pos (c := x.k + 1 = 1 /\ x.wrong = true /\ x.tx = false) ⟨hk1, hw, hx⟩])
         rw [hw] at c336
         rw [hx] at c334
         clear hk1
         obtain ⟨y, t3, ok, hch⟩ : ∃ y t3 ok, ({ x with k := x.k + 1 } : Pl.Nd).charge t 8 = (y, t3, ok) := ⟨_, _, _, rfl⟩
         have hyk := charge_k ({ x with k := x.k + 1 } : Pl.Nd) t 8
         rw [hch] at hyk
         simp only [] at hyk
         have hyn := charge_kinds ({ x with k := x.k + 1 } : Pl.Nd) t 8
         rw [hch] at hyn
         simp only [] at hyn
         have CC := Ad (charge_calls HN339.out 8 (by omega))
         rw [hch] at CC
         simp only [] at CC
         have HCH := Ad hch
         clear hch
         rw [HCH.out] at WW
         simp only [] at WW
         have hyk : y.k = x.k + 1 ∨ y.k = 0 := hyk
         go_enter Tryz.func105, Tryz.ntmps105
         go_wp2_with fail
         refine CC.out.mono ?_
         rintro e w7 ⟨rfl, F7, h7, s7⟩
         have H7 := Ad h7
         have S7 := Ad (St.trans SN340.out s7)
         clear h7 s7 CC
         obtain ⟨L348, hL349⟩ := NT.node H7.out
         have c350 : w7.cell? ⟨g, 5, none⟩ = some (.int .i64 y.k) := hL349.cs.cell (by rfl)
         have f351 := hL349.cs.free 5
         clear hL349
         have wm : IntKind.i64.wrap ((y.k).tmod 8) = (y.k).tmod 8 := by rw [Int.tmod_eq_emod_of_nonneg (by rcases hyk with h | h <;> rw [h] <;> omega), IntKind.wrap_i64]; omega
         have hte : (y.k).tmod 8 = (y.k) % 8 := Int.tmod_eq_emod_of_nonneg (by rcases hyk with h | h <;> rw [h] <;> omega)
         clear hyk
         by_cases hm : y.k.tmod 8 = 0
         · have RES := Ad (show x.waiting t 0 = ((y.charge t3 8).1, (y.charge t3 8).2.1) from by rw [WW.out, if_pos hm])
           have bm : (y.k.tmod 8 == 0) = true := by simpa using hm
           have bm2 : ((y.k) % 8 == 0) = true := by rw [<- hte]; exact bm
           clear hm hte
           have TC352 := Ad (charge_calls H7.out 8 (by omega))
           go_wp2_with fail
           refine TC352.out.mono ?_
           rintro e w353 ⟨rfl, F354, h355, s356⟩
           have HN357 := Ad h355
           have SN358 := Ad (St.trans S7.out s356)
           clear h355 s356 TC352
           go_wp2_with fail
           go_end0
           rw [RES.out]
           exact ⟨rfl, F354, HN357.out, SN358.out⟩
         · have RES := Ad (show x.waiting t 0 = (y, t3) from by rw [WW.out, if_neg hm])
           have bm : (y.k.tmod 8 == 0) = false := by simpa using hm
           have bm2 : ((y.k) % 8 == 0) = false := by rw [<- hte]; exact bm
           clear hm hte
           go_wp2_with fail
           go_end0
           rw [RES.out]
           exact ⟨rfl, F7, H7.out, S7.out⟩
       · have WW := Ad (show x.waiting t 0 = if ({ x with k := x.k + 1 } : Pl.Nd).k.tmod 8 = 0 then ((({ x with k := x.k + 1 } : Pl.Nd).charge t 8).1, (({ x with k := x.k + 1 } : Pl.Nd).charge t 8).2.1) else (({ x with k := x.k + 1 } : Pl.Nd), t) from by rw [WT.out]; simp only []; rw [if_neg (c := x.k + 1 = 1 /\ x.wrong = true /\ x.tx = false) (fun h => by rw [hx] at h; exact absurd h.2.2 (by decide))])
         rw [hw] at c336
         rw [hx] at c334
         have RES := Ad (show x.waiting t 0 = (({ x with k := x.k + 1 } : Pl.Nd), t) from by rw [WW.out, if_neg (by show ¬ (x.k + 1).tmod 8 = 0; rw [hk1]; decide)])
         have hm : ((x.k + 1).tmod 8 == 0) = false := by rw [hk1]; decide
         clear hk1
         go_enter Tryz.func105, Tryz.ntmps105
         go_wp2_with fail
         go_end0
         rw [RES.out]
         exact ⟨rfl, F, HN339.out, SN340.out⟩
   · have WW := Ad (show x.waiting t 0 = if ({ x with k := x.k + 1 } : Pl.Nd).k.tmod 8 = 0 then ((({ x with k := x.k + 1 } : Pl.Nd).charge t 8).1, (({ x with k := x.k + 1 } : Pl.Nd).charge t 8).2.1) else (({ x with k := x.k + 1 } : Pl.Nd), t) from by rw [WT.out]; simp only []; rw [if_neg (c := x.k + 1 = 1 /\ x.wrong = true /\ x.tx = false) (fun h => hk1 h.1)])
     have b1 : (x.k + 1 == 1) = false := by simpa using hk1
     clear hk1
     go_enter Tryz.func105, Tryz.ntmps105
     have wm : IntKind.i64.wrap (((x.k + 1)).tmod 8) = ((x.k + 1)).tmod 8 := by rw [Int.tmod_eq_emod_of_nonneg (by omega), IntKind.wrap_i64]; omega
     have hte : ((x.k + 1)).tmod 8 = ((x.k + 1)) % 8 := Int.tmod_eq_emod_of_nonneg (by omega)
     by_cases hm : ({ x with k := x.k + 1 } : Pl.Nd).k.tmod 8 = 0
     · have RES := Ad (show x.waiting t 0 = ((({ x with k := x.k + 1 } : Pl.Nd).charge t 8).1, (({ x with k := x.k + 1 } : Pl.Nd).charge t 8).2.1) from by rw [WW.out, if_pos hm])
       have bm : ((x.k + 1).tmod 8 == 0) = true := by simpa using hm
       have bm2 : (((x.k + 1)) % 8 == 0) = true := by rw [<- hte]; exact bm
       clear hm hte
       have TC341 := Ad (charge_calls HN339.out 8 (by omega))
       go_wp2_with fail
       refine TC341.out.mono ?_
       rintro e w342 ⟨rfl, F343, h344, s345⟩
       have HN346 := Ad h344
       have SN347 := Ad (St.trans SN340.out s345)
       clear h344 s345 TC341
       go_wp2_with fail
       go_end0
       rw [RES.out]
       exact ⟨rfl, F343, HN346.out, SN347.out⟩
     · have RES := Ad (show x.waiting t 0 = (({ x with k := x.k + 1 } : Pl.Nd), t) from by rw [WW.out, if_neg hm])
       have bm : ((x.k + 1).tmod 8 == 0) = false := by simpa using hm
       have bm2 : (((x.k + 1)) % 8 == 0) = false := by rw [<- hte]; exact bm
       clear hm hte
       go_wp2_with fail
       go_end0
       rw [RES.out]
       exact ⟨rfl, F, HN339.out, SN340.out⟩
 · have TC359 := Ad (turn_calls H.out 7)
   go_enter Tryz.func105, Tryz.ntmps105
   go_wp2_with fail
   refine TC359.out.mono ?_
   rintro e w360 ⟨rfl, F361, h362, s363⟩
   have HN364 := Ad h362
   have SN365 := Ad (St.trans (St.refl F w) s363)
   clear h362 s363 TC359
   obtain ⟨L366, hL367⟩ := NT.node HN364.out
   have c368 : w360.cell? ⟨g, 5, none⟩ = some (.int .i64 (x.turn 7).k) := hL367.cs.cell (by rfl)
   have f369 := hL367.cs.free 5
   clear hL367
   have h370 := NT.set HN364.out 5 (.int .i64 1) { x.turn 7 with k := 1 } (fun _ => rfl) rfl rfl rfl
   have HN371 := Ad h370.1
   have SN372 := Ad (St.trans SN365.out h370.2)
   clear h370
   go_wp2_with fail
   go_end0
   rw [show x.waiting t 1 = ({ x.turn 7 with k := 1 }, t) from by simp [Pl.Nd.waiting]]
   exact ⟨rfl, F361, HN371.out, SN372.out⟩
set_option maxRecDepth 100000 in
theorem busOff_calls (h : NT w b g gt F x t) (lv : Int) (hlv : lv = 0 ∨ lv = 1) (hk : 0 <= x.k /\ x.k <= 1000000) (hrw : 0 <= x.rows /\ x.rows <= 1000000) (ht : t.kinds.length <= 80) :
   Calls Tryz.prog 109 #[.pointer (some ⟨g, 0, none⟩), .pointer (some ⟨gt, 0, none⟩), .int .i64 lv] w (Res w b g gt F (x.busOff t lv).1 (x.busOff t lv).2 (.tuple #[])) := by
 have wr : IntKind.i64.wrap (x.k + 1) = x.k + 1 := by rw [IntKind.wrap_i64]; omega
 have wrr : IntKind.i64.wrap (x.rows + 1) = x.rows + 1 := by rw [IntKind.wrap_i64]; omega
 obtain ⟨L373, hL374⟩ := NT.node h
 have c375 : w.cell? ⟨g, 5, none⟩ = some (.int .i64 x.k) := hL374.cs.cell (by rfl)
 have f376 := hL374.cs.free 5
 have c377 : w.cell? ⟨g, 6, none⟩ = some (.int .i64 x.rows) := hL374.cs.cell (by rfl)
 have f378 := hL374.cs.free 6
 have c379 : w.cell? ⟨g, 7, none⟩ = some (.bool x.tx) := hL374.cs.cell (by rfl)
 have f380 := hL374.cs.free 7
 have c381 : w.cell? ⟨g, 11, none⟩ = some (.int .i64 x.t) := hL374.cs.cell (by rfl)
 have f382 := hL374.cs.free 11
 have c383 : w.cell? ⟨g, 12, none⟩ = some (.int .i64 x.r) := hL374.cs.cell (by rfl)
 have f384 := hL374.cs.free 12
 have c385 : w.cell? ⟨g, 13, none⟩ = some (.bool x.off) := hL374.cs.cell (by rfl)
 have f386 := hL374.cs.free 13
 clear hL374
 have H := Ad h
 clear h
 rcases hlv with rfl | rfl
 · have h387 := NT.set H.out 5 (.int .i64 (x.k + 1)) { x with k := x.k + 1 } (fun _ => rfl) rfl rfl rfl
   have h388 := NT.set h387.1 5 (.int .i64 0) { x with k := 0 } (fun _ => rfl) rfl rfl rfl
   have HN389 := Ad h388.1
   have SN390 := Ad (St.trans (St.trans (St.refl F w) h387.2) h388.2)
   clear h387 h388
   by_cases hr : x.rows = 128
   · have RES := Ad (show x.busOff t 0 = (({ ({ x with k := 0 } : Pl.Nd) with t := 0, r := 0, off := false, tx := false } : Pl.Nd).turn 1, t.tell 11) from by simp [Pl.Nd.busOff, hr, show ¬ ((0 : Int) = 11) by decide])
     have br : (x.rows == 128) = true := by simpa using hr
     clear hr
     have BC := Ad (fun w => Ct.Back_uni x.t x.r x.off 0 0 false rfl w)
     unfold Ct.cv at BC
     go_enter Tryz.func109, Tryz.ntmps109
     go_wp2_with fail
     refine (BC.out _).mono ?_
     rintro e w7 ⟨rfl, hB⟩
     have H7 := Ad (NT.on HN389.out (Ch.of_below hB))
     have S7 := Ad (St.trans SN390.out (St.of (Ch.of_below hB)))
     clear hB BC
     obtain ⟨L391, hL392⟩ := NT.node H7.out
     have c393 : w7.cell? ⟨g, 11, none⟩ = some (.int .i64 ({ x with k := 0 } : Pl.Nd).t) := hL392.cs.cell (by rfl)
     have f394 := hL392.cs.free 11
     have c395 : w7.cell? ⟨g, 12, none⟩ = some (.int .i64 ({ x with k := 0 } : Pl.Nd).r) := hL392.cs.cell (by rfl)
     have f396 := hL392.cs.free 12
     have c397 : w7.cell? ⟨g, 13, none⟩ = some (.bool ({ x with k := 0 } : Pl.Nd).off) := hL392.cs.cell (by rfl)
     have f398 := hL392.cs.free 13
     have c399 : w7.cell? ⟨g, 7, none⟩ = some (.bool ({ x with k := 0 } : Pl.Nd).tx) := hL392.cs.cell (by rfl)
     have f400 := hL392.cs.free 7
     clear hL392
     have h401 := NT.set H7.out 11 (.int .i64 0) { ({ x with k := 0 } : Pl.Nd) with t := 0 } (fun _ => rfl) rfl rfl rfl
     have h402 := NT.set h401.1 12 (.int .i64 0) { ({ x with k := 0 } : Pl.Nd) with t := 0, r := 0 } (fun _ => rfl) rfl rfl rfl
     have h403 := NT.set h402.1 13 (.bool false) { ({ x with k := 0 } : Pl.Nd) with t := 0, r := 0, off := false } (fun _ => rfl) rfl rfl rfl
     have h404 := NT.set h403.1 7 (.bool false) { ({ x with k := 0 } : Pl.Nd) with t := 0, r := 0, off := false, tx := false } (fun _ => rfl) rfl rfl rfl
     have HN405 := Ad h404.1
     have SN406 := Ad (St.trans (St.trans (St.trans (St.trans S7.out h401.2) h402.2) h403.2) h404.2)
     clear h401 h402 h403 h404
     have TC407 := Ad (turn_calls HN405.out 1)
     go_wp2_with fail
     refine TC407.out.mono ?_
     rintro e w408 ⟨rfl, F409, h410, s411⟩
     have HN412 := Ad h410
     have SN413 := Ad (St.trans SN406.out s411)
     clear h410 s411 TC407
     have TC414 := Ad (tell_calls HN412.out 11 (by omega))
     go_wp2_with fail
     refine TC414.out.mono ?_
     rintro e w415 ⟨rfl, F416, h417, s418⟩
     have HN419 := Ad h417
     have SN420 := Ad (St.trans SN413.out s418)
     clear h417 s418 TC414
     go_wp2_with fail
     go_end0
     rw [RES.out]
     exact ⟨rfl, F416, HN419.out, SN420.out⟩
   · have RES := Ad (show x.busOff t 0 = (({ x with k := 0 } : Pl.Nd), t) from by simp [Pl.Nd.busOff, hr, show ¬ ((0 : Int) = 11) by decide])
     have br : (x.rows == 128) = false := by simpa using hr
     clear hr
     go_enter Tryz.func109, Tryz.ntmps109
     go_wp2_with fail
     go_end0
     rw [RES.out]
     exact ⟨rfl, F, HN389.out, SN390.out⟩
 · by_cases hk9 : x.k + 1 = 11
   · have bk : (x.k + 1 == 11) = true := by simpa using hk9
     have HK9 := Ad hk9
     clear hk9
     have h421 := NT.set H.out 5 (.int .i64 (x.k + 1)) { x with k := x.k + 1 } (fun _ => rfl) rfl rfl rfl
     have h422 := NT.set h421.1 5 (.int .i64 0) { x with k := 0 } (fun _ => rfl) rfl rfl rfl
     have h423 := NT.set h422.1 6 (.int .i64 (x.rows + 1)) { x with k := 0, rows := x.rows + 1 } (fun _ => rfl) rfl rfl rfl
     have HN424 := Ad h423.1
     have SN425 := Ad (St.trans (St.trans (St.trans (St.refl F w) h421.2) h422.2) h423.2)
     clear h421 h422 h423
     by_cases hr : x.rows + 1 = 128
     · have RES := Ad (show x.busOff t 1 = (({ ({ x with k := 0, rows := x.rows + 1 } : Pl.Nd) with t := 0, r := 0, off := false, tx := false } : Pl.Nd).turn 1, t.tell 11) from by simp [Pl.Nd.busOff, hr, HK9.out])
       have br : (x.rows + 1 == 128) = true := by simpa using hr
       clear hr
       have BC := Ad (fun w => Ct.Back_uni x.t x.r x.off 0 0 false rfl w)
       unfold Ct.cv at BC
       go_enter Tryz.func109, Tryz.ntmps109
       go_wp2_with fail
       refine (BC.out _).mono ?_
       rintro e w7 ⟨rfl, hB⟩
       have H7 := Ad (NT.on HN424.out (Ch.of_below hB))
       have S7 := Ad (St.trans SN425.out (St.of (Ch.of_below hB)))
       clear hB BC
       obtain ⟨L426, hL427⟩ := NT.node H7.out
       have c428 : w7.cell? ⟨g, 11, none⟩ = some (.int .i64 ({ x with k := 0, rows := x.rows + 1 } : Pl.Nd).t) := hL427.cs.cell (by rfl)
       have f429 := hL427.cs.free 11
       have c430 : w7.cell? ⟨g, 12, none⟩ = some (.int .i64 ({ x with k := 0, rows := x.rows + 1 } : Pl.Nd).r) := hL427.cs.cell (by rfl)
       have f431 := hL427.cs.free 12
       have c432 : w7.cell? ⟨g, 13, none⟩ = some (.bool ({ x with k := 0, rows := x.rows + 1 } : Pl.Nd).off) := hL427.cs.cell (by rfl)
       have f433 := hL427.cs.free 13
       have c434 : w7.cell? ⟨g, 7, none⟩ = some (.bool ({ x with k := 0, rows := x.rows + 1 } : Pl.Nd).tx) := hL427.cs.cell (by rfl)
       have f435 := hL427.cs.free 7
       clear hL427
       have h436 := NT.set H7.out 11 (.int .i64 0) { ({ x with k := 0, rows := x.rows + 1 } : Pl.Nd) with t := 0 } (fun _ => rfl) rfl rfl rfl
       have h437 := NT.set h436.1 12 (.int .i64 0) { ({ x with k := 0, rows := x.rows + 1 } : Pl.Nd) with t := 0, r := 0 } (fun _ => rfl) rfl rfl rfl
       have h438 := NT.set h437.1 13 (.bool false) { ({ x with k := 0, rows := x.rows + 1 } : Pl.Nd) with t := 0, r := 0, off := false } (fun _ => rfl) rfl rfl rfl
       have h439 := NT.set h438.1 7 (.bool false) { ({ x with k := 0, rows := x.rows + 1 } : Pl.Nd) with t := 0, r := 0, off := false, tx := false } (fun _ => rfl) rfl rfl rfl
       have HN440 := Ad h439.1
       have SN441 := Ad (St.trans (St.trans (St.trans (St.trans S7.out h436.2) h437.2) h438.2) h439.2)
       clear h436 h437 h438 h439
       have TC442 := Ad (turn_calls HN440.out 1)
       go_wp2_with fail
       refine TC442.out.mono ?_
       rintro e w443 ⟨rfl, F444, h445, s446⟩
       have HN447 := Ad h445
       have SN448 := Ad (St.trans SN441.out s446)
       clear h445 s446 TC442
       have TC449 := Ad (tell_calls HN447.out 11 (by omega))
       go_wp2_with fail
       refine TC449.out.mono ?_
       rintro e w450 ⟨rfl, F451, h452, s453⟩
       have HN454 := Ad h452
       have SN455 := Ad (St.trans SN448.out s453)
       clear h452 s453 TC449
       go_wp2_with fail
       go_end0
       rw [RES.out]
       exact ⟨rfl, F451, HN454.out, SN455.out⟩
     · have RES := Ad (show x.busOff t 1 = (({ x with k := 0, rows := x.rows + 1 } : Pl.Nd), t) from by simp [Pl.Nd.busOff, hr, HK9.out])
       have br : (x.rows + 1 == 128) = false := by simpa using hr
       clear hr
       go_enter Tryz.func109, Tryz.ntmps109
       go_wp2_with fail
       go_end0
       rw [RES.out]
       exact ⟨rfl, F, HN424.out, SN425.out⟩
   · have bk : (x.k + 1 == 11) = false := by simpa using hk9
     have h456 := NT.set H.out 5 (.int .i64 (x.k + 1)) { x with k := x.k + 1 } (fun _ => rfl) rfl rfl rfl
     have HN457 := Ad h456.1
     have SN458 := Ad (St.trans (St.refl F w) h456.2)
     clear h456
     by_cases hr : x.rows = 128
     · have RES := Ad (show x.busOff t 1 = (({ ({ x with k := x.k + 1 } : Pl.Nd) with t := 0, r := 0, off := false, tx := false } : Pl.Nd).turn 1, t.tell 11) from by simp [Pl.Nd.busOff, hr, hk9])
       have br : (x.rows == 128) = true := by simpa using hr
       clear hr
       have BC := Ad (fun w => Ct.Back_uni x.t x.r x.off 0 0 false rfl w)
       unfold Ct.cv at BC
       go_enter Tryz.func109, Tryz.ntmps109
       go_wp2_with fail
       refine (BC.out _).mono ?_
       rintro e w7 ⟨rfl, hB⟩
       have H7 := Ad (NT.on HN457.out (Ch.of_below hB))
       have S7 := Ad (St.trans SN458.out (St.of (Ch.of_below hB)))
       clear hB BC
       obtain ⟨L459, hL460⟩ := NT.node H7.out
       have c461 : w7.cell? ⟨g, 11, none⟩ = some (.int .i64 ({ x with k := x.k + 1 } : Pl.Nd).t) := hL460.cs.cell (by rfl)
       have f462 := hL460.cs.free 11
       have c463 : w7.cell? ⟨g, 12, none⟩ = some (.int .i64 ({ x with k := x.k + 1 } : Pl.Nd).r) := hL460.cs.cell (by rfl)
       have f464 := hL460.cs.free 12
       have c465 : w7.cell? ⟨g, 13, none⟩ = some (.bool ({ x with k := x.k + 1 } : Pl.Nd).off) := hL460.cs.cell (by rfl)
       have f466 := hL460.cs.free 13
       have c467 : w7.cell? ⟨g, 7, none⟩ = some (.bool ({ x with k := x.k + 1 } : Pl.Nd).tx) := hL460.cs.cell (by rfl)
       have f468 := hL460.cs.free 7
       clear hL460
       have h469 := NT.set H7.out 11 (.int .i64 0) { ({ x with k := x.k + 1 } : Pl.Nd) with t := 0 } (fun _ => rfl) rfl rfl rfl
       have h470 := NT.set h469.1 12 (.int .i64 0) { ({ x with k := x.k + 1 } : Pl.Nd) with t := 0, r := 0 } (fun _ => rfl) rfl rfl rfl
       have h471 := NT.set h470.1 13 (.bool false) { ({ x with k := x.k + 1 } : Pl.Nd) with t := 0, r := 0, off := false } (fun _ => rfl) rfl rfl rfl
       have h472 := NT.set h471.1 7 (.bool false) { ({ x with k := x.k + 1 } : Pl.Nd) with t := 0, r := 0, off := false, tx := false } (fun _ => rfl) rfl rfl rfl
       have HN473 := Ad h472.1
       have SN474 := Ad (St.trans (St.trans (St.trans (St.trans S7.out h469.2) h470.2) h471.2) h472.2)
       clear h469 h470 h471 h472
       have TC475 := Ad (turn_calls HN473.out 1)
       go_wp2_with fail
       refine TC475.out.mono ?_
       rintro e w476 ⟨rfl, F477, h478, s479⟩
       have HN480 := Ad h478
       have SN481 := Ad (St.trans SN474.out s479)
       clear h478 s479 TC475
       have TC482 := Ad (tell_calls HN480.out 11 (by omega))
       go_wp2_with fail
       refine TC482.out.mono ?_
       rintro e w483 ⟨rfl, F484, h485, s486⟩
       have HN487 := Ad h485
       have SN488 := Ad (St.trans SN481.out s486)
       clear h485 s486 TC482
       go_wp2_with fail
       go_end0
       rw [RES.out]
       exact ⟨rfl, F484, HN487.out, SN488.out⟩
     · have RES := Ad (show x.busOff t 1 = (({ x with k := x.k + 1 } : Pl.Nd), t) from by simp [Pl.Nd.busOff, hr, hk9])
       have br : (x.rows == 128) = false := by simpa using hr
       clear hr
       go_enter Tryz.func109, Tryz.ntmps109
       go_wp2_with fail
       go_end0
       rw [RES.out]
       exact ⟨rfl, F, HN457.out, SN458.out⟩
end
end
section
section
variable {b g : Nat} {L : Lay} {x : Pl.Nd}
def Pl.Nd.reach (x : Pl.Nd) : Prop := x.sends = true -> x.added = false -> x.raw.length < x.row.length
theorem nframe_calls (w : World) (h : NodeAt w b g L x) (hr : x.reach) (hlv : x.level = 0 ∨ x.level = 1) :
   Calls Tryz.prog 79 #[.pointer (some ⟨g, 0, none⟩)] w fun e w' => e = .returned (.int .i64 x.frame) /\ Ch [] w w' := by
 have NX := Ad (nnext_calls w h)
 have H := Ad h
 have HR := Ad hr
 have FR := Ad (show x.frame = if (x.sends && x.added) = true then 1 - x.level else if x.sends = true then x.row.getD x.raw.length 0 else if x.kind = 6 /\ Pl.rt x.raw = true then 0 else 1 from rfl)
 clear h hr
 generalize hk : x.kind = kind at *
 generalize hp : x.place = place at *
 go_enter Tryz.func79, Tryz.ntmps79
 go_wp2_with fail
 refine NX.out.mono ?_
 rintro e w1 ⟨rfl, hC⟩
 have hL1 := H.out.on hC
 have C := Ad hC
 have c8 : w1.cell? ⟨g, 8, none⟩ = some (.bool x.sends) := hL1.cs.cell (by rfl)
 have c1 : w1.cell? ⟨g, 1, none⟩ = some (.int .i64 x.level) := hL1.cs.cell (by rfl)
 have hgl := hL1.cs.lt
 have H1 := Ad hL1
 clear hC hL1 NX
 cases hs : x.sends
 · rw [hs] at c8 FR
   have RC := Ad (nright_calls w1 H1.out)
   generalize hrt : Pl.rt x.raw = rt at *
   by_cases h6 : kind = 6
   · have b6 : ((kind : Int) == 6) = true := by simp; omega
     have H6 := Ad h6
     clear h6
     cases rt
     · go_wp2_with fail
       refine RC.out.mono ?_
       rintro e w2 ⟨rfl, hC2⟩
       have C2 := Ad (C.out.then hC2)
       clear hC2
       go_wp2_with fail
       go_ret
       refine ⟨?_, C2.out⟩
       rw [FR.out, if_neg (by simp), if_neg (by simp), if_neg (by simp)]
       try rfl
     · go_wp2_with fail
       refine RC.out.mono ?_
       rintro e w2 ⟨rfl, hC2⟩
       have C2 := Ad (C.out.then hC2)
       clear hC2
       go_wp2_with fail
       go_ret
       refine ⟨?_, C2.out⟩
       rw [FR.out, if_neg (by simp), if_neg (by simp), if_pos ⟨H6.out, trivial⟩]
       try rfl
   · have b6 : ((kind : Int) == 6) = false := by simp; omega
     have H6 := Ad h6
     clear h6
     go_wp2_with fail
     go_ret
     refine ⟨?_, C.out⟩
     rw [FR.out, if_neg (by simp), if_neg (by simp), if_neg (fun h => H6.out h.1)]
     try rfl
 · rw [hs] at c8 FR
   cases ha : x.added
   · obtain ⟨n, hn⟩ : ∃ n, x.raw.length = n := ⟨_, rfl⟩
     obtain ⟨m, hm⟩ : ∃ m, x.row.length = m := ⟨_, rfl⟩
     have hlt := HR.out hs ha
     obtain ⟨g2, o2, hA2, hcell⟩ := H1.out.row.rd.int x.raw.length hlt
     rw [hn, hm] at hlt
     rw [hn] at hcell
     have c0 : w1.cell? ⟨g, 0, none⟩ = some (.slice L.A n L.c) := by rw [<- hn]; exact H1.out.cs.cell (by rfl)
     have c26 : w1.cell? ⟨g, 26, none⟩ = some (.slice (some ⟨g2, o2, none⟩) m L.c2) := by rw [<- hm, <- hA2]; exact H1.out.cs.cell (by rfl)
     have k0 : (0 : Int) <= (n : Int) := by omega
     have k1 : (n : Int) < (m : Int) := by omega
     have HN := Ad hn
     clear hn hm hA2
     go_wp2_with fail
     go_quiet (fail)
     go_wp2_with fail
     go_ret
     refine ⟨?_, C.out.drewN _⟩
     rw [FR.out, ha, HN.out]
     rfl
   · go_wp2_with fail
     go_ret
     refine ⟨?_, C.out⟩
     rw [FR.out, ha]
     rfl
theorem ndrive_calls (w : World) (h : NodeAt w b g L x) (hr : x.mode = 2 -> x.reach) (hlv : x.level = 0 ∨ x.level = 1) :
   Calls Tryz.prog 60 #[.pointer (some ⟨g, 0, none⟩)] w fun e w' => e = .returned (.int .i64 x.drive) /\ Ch [] w w' := by
 have c4 : w.cell? ⟨g, 4, none⟩ = some (.int .i64 x.mode) := h.cs.cell (by rfl)
 have hgl := h.cs.lt
 have H := Ad h
 have HR := Ad hr
 have DR := Ad (show x.drive = if x.mode = 1 then (if x.pending then 0 else 1) else if x.mode = 3 ∨ x.mode = 5 then 0 else if x.mode = 2 then (if x.frame = 0 then 0 else 1) else 1 from rfl)
 clear h hr
 by_cases h1 : x.mode = 1
 · have PC := Ad (npending_calls w H.out)
   rw [h1] at c4
   generalize hp : x.pending = p at *
   have H1 := Ad h1
   clear h1
   cases p
   · go_enter Tryz.func60, Tryz.ntmps60
     go_wp2_with fail
     refine PC.out.mono ?_
     rintro e w99 ⟨rfl, hw99⟩
     rw [hw99]
     clear hw99 w99 PC
     go_wp2_with fail
     go_ret
     refine ⟨?_, Ch.refl _ _⟩
     rw [DR.out, if_pos H1.out]
     try rfl
   · go_enter Tryz.func60, Tryz.ntmps60
     go_wp2_with fail
     refine PC.out.mono ?_
     rintro e w99 ⟨rfl, hw99⟩
     rw [hw99]
     clear hw99 w99 PC
     go_wp2_with fail
     go_ret
     refine ⟨?_, Ch.refl _ _⟩
     rw [DR.out, if_pos H1.out]
     try rfl
 · by_cases h3 : x.mode = 3
   · rw [h3] at c4
     have H1 := Ad h1
     have H3 := Ad h3
     clear h1 h3
     go_enter Tryz.func60, Tryz.ntmps60
     go_wp2_with fail
     go_ret
     refine ⟨?_, Ch.refl _ _⟩
     rw [DR.out, if_neg H1.out, if_pos (.inl H3.out)]
     try rfl
   · by_cases h5 : x.mode = 5
     · rw [h5] at c4
       have H1 := Ad h1
       have H5 := Ad h5
       clear h1 h3 h5
       go_enter Tryz.func60, Tryz.ntmps60
       go_wp2_with fail
       go_ret
       refine ⟨?_, Ch.refl _ _⟩
       rw [DR.out, if_neg H1.out, if_pos (.inr H5.out)]
       try rfl
     · by_cases h2 : x.mode = 2
       · have NF := Ad (nframe_calls w H.out (HR.out h2) hlv)
         have DD := Ad (show x.drive = if x.frame = 0 then 0 else 1 by rw [DR.out, if_neg h1, if_neg (by omega), if_pos h2])
         rw [h2] at c4
         clear h1 h3 h5 h2 DR
         generalize x.frame = fr at *
         by_cases hf : fr = 0
         · subst hf
           go_enter Tryz.func60, Tryz.ntmps60
           go_wp2_with fail
           refine NF.out.mono ?_
           rintro e w2 ⟨rfl, hC⟩
           go_wp2_with fail
           go_ret
           refine ⟨?_, hC⟩
           rw [DD.out]
           rfl
         · have HF := Ad hf
           have bf : (fr == 0) = false := by simpa using hf
           clear hf
           go_enter Tryz.func60, Tryz.ntmps60
           go_wp2_with fail
           refine NF.out.mono ?_
           rintro e w2 ⟨rfl, hC⟩
           go_wp2_with fail
           go_ret
           refine ⟨?_, hC⟩
           rw [DD.out, if_neg HF.out]
           try rfl
       · have DD := Ad (show x.drive = 1 by rw [DR.out, if_neg h1, if_neg (by omega), if_neg h2])
         have b1 : (x.mode == 1) = false := by simpa using h1
         have b2 : (x.mode == 2) = false := by simpa using h2
         have b3 : (x.mode == 3) = false := by simpa using h3
         have b5 : (x.mode == 5) = false := by simpa using h5
         clear h1 h2 h3 h5
         go_enter Tryz.func60, Tryz.ntmps60
         go_wp2_with fail
         go_ret
         refine ⟨?_, Ch.refl _ _⟩
         rw [DD.out]
         try rfl
end
end
section
section
variable {w w1 : World} {b g gt : Nat} {F F1 : List Nat} {x x' : Pl.Nd} {t t' : Pl.Td} {v : Value} {e : Ending}
set_option maxRecDepth 100000 in
theorem differs_calls (h : NT w b g gt F x t) (lv : Int) (hlv : lv = 0 ∨ lv = 1) (ht : t.kinds.length <= 80) :
   Calls Tryz.prog 124 #[.pointer (some ⟨g, 0, none⟩), .pointer (some ⟨gt, 0, none⟩), .int .i64 lv] w (Res w b g gt F (x.differs t lv).1 (x.differs t lv).2.1 (.bool (x.differs t lv).2.2)) := by
 obtain ⟨L0, hL0⟩ := NT.node h
 have NX := Ad (nnext_calls w hL0)
 clear hL0
 have H := Ad h
 clear h
 have DD := Ad (show x.differs t lv = if lv = 0 /\ x.kind = 1 /\ x.added = false then ({ x with tx := false, sends := false }, t.tell 3, true) else if lv = 0 /\ x.kind = 1 then ((x.fail t 5 false).1, (x.fail t 5 false).2, false) else if lv = 0 /\ x.kind = 6 then (x, t, true) else ((x.fail t 4 true).1, (x.fail t 4 true).2, false) from rfl)
 generalize hkd : x.kind = kind at *
 generalize hpl : x.place = place at *
 generalize had : x.added = added at *
 go_enter Tryz.func124, Tryz.ntmps124
 go_wp2_with fail
 refine NX.out.mono ?_
 rintro e w1 ⟨rfl, hC⟩
 have H1 := Ad (NT.on H.out hC)
 have S1 := Ad (St.of (F := F) hC)
 clear hC NX
 rcases hlv with rfl | rfl
 · by_cases h1 : kind = 1
   · have b1 : ((kind : Int) == 1) = true := by simp; omega
     have HK1 := Ad h1
     clear h1
     cases added
     · have RES := Ad (show x.differs t 0 = ({ x with tx := false, sends := false }, t.tell 3, true) from by rw [DD.out, if_pos ⟨rfl, HK1.out, by first | rfl | trivial⟩])
       obtain ⟨L489, hL490⟩ := NT.node H1.out
       have c491 : w1.cell? ⟨g, 7, none⟩ = some (.bool x.tx) := hL490.cs.cell (by rfl)
       have f492 := hL490.cs.free 7
       have c493 : w1.cell? ⟨g, 8, none⟩ = some (.bool x.sends) := hL490.cs.cell (by rfl)
       have f494 := hL490.cs.free 8
       clear hL490
       have h495 := NT.set H1.out 7 (.bool false) { x with tx := false } (fun _ => rfl) rfl rfl rfl
       have h496 := NT.set h495.1 8 (.bool false) { x with tx := false, sends := false } (fun _ => rfl) rfl rfl rfl
       have HN497 := Ad h496.1
       have SN498 := Ad (St.trans (St.trans S1.out h495.2) h496.2)
       clear h495 h496
       have TC499 := Ad (tell_calls HN497.out 3 (by omega))
       go_wp2_with fail
       refine TC499.out.mono ?_
       rintro e w500 ⟨rfl, F501, h502, s503⟩
       have HN504 := Ad h502
       have SN505 := Ad (St.trans SN498.out s503)
       clear h502 s503 TC499
       go_wp2_with fail
       go_ret
       rw [RES.out]
       exact ⟨rfl, F501, HN504.out, SN505.out⟩
     · have RES := Ad (show x.differs t 0 = ((x.fail t 5 false).1, (x.fail t 5 false).2, false) from by rw [DD.out]; rw [if_neg (fun h => absurd h.2.2 (by decide)), if_pos ⟨rfl, HK1.out⟩])
       have TC506 := Ad (fail_calls H1.out 5 false (by omega))
       go_wp2_with fail
       refine TC506.out.mono ?_
       rintro e w507 ⟨rfl, F508, h509, s510⟩
       have HN511 := Ad h509
       have SN512 := Ad (St.trans S1.out s510)
       clear h509 s510 TC506
       go_wp2_with fail
       go_ret
       rw [RES.out]
       exact ⟨rfl, F508, HN511.out, SN512.out⟩
   · have b1 : ((kind : Int) == 1) = false := by simp; omega
     have HK1 := Ad h1
     clear h1
     by_cases h6 : kind = 6
     · have b6 : ((kind : Int) == 6) = true := by simp; omega
       have RES := Ad (show x.differs t 0 = (x, t, true) from by rw [DD.out, if_neg (fun h => HK1.out h.2.1), if_neg (fun h => HK1.out h.2), if_pos ⟨rfl, h6⟩])
       clear h6
       go_wp2_with fail
       go_ret
       rw [RES.out]
       exact ⟨rfl, F, H1.out, S1.out⟩
     · have b6 : ((kind : Int) == 6) = false := by simp; omega
       have HK6 := Ad h6
       clear h6
       have RES := Ad (show x.differs t 0 = ((x.fail t 4 true).1, (x.fail t 4 true).2, false) from by rw [DD.out]; rw [if_neg (fun h => HK1.out h.2.1), if_neg (fun h => HK1.out h.2), if_neg (fun h => HK6.out h.2)])
       have TC513 := Ad (fail_calls H1.out 4 true (by omega))
       go_wp2_with fail
       refine TC513.out.mono ?_
       rintro e w514 ⟨rfl, F515, h516, s517⟩
       have HN518 := Ad h516
       have SN519 := Ad (St.trans S1.out s517)
       clear h516 s517 TC513
       go_wp2_with fail
       go_ret
       rw [RES.out]
       exact ⟨rfl, F515, HN518.out, SN519.out⟩
 · have RES := Ad (show x.differs t 1 = ((x.fail t 4 true).1, (x.fail t 4 true).2, false) from by rw [DD.out]; rw [if_neg (fun h => absurd h.1 (by decide)), if_neg (fun h => absurd h.1 (by decide)), if_neg (fun h => absurd h.1 (by decide))])
   have TC520 := Ad (fail_calls H1.out 4 true (by omega))
   go_wp2_with fail
   refine TC520.out.mono ?_
   rintro e w521 ⟨rfl, F522, h523, s524⟩
   have HN525 := Ad h523
   have SN526 := Ad (St.trans S1.out s524)
   clear h523 s524 TC520
   go_wp2_with fail
   go_ret
   rw [RES.out]
   exact ⟨rfl, F522, HN525.out, SN526.out⟩
end
end
section
section
variable {w w1 : World} {b g gt : Nat} {F F1 : List Nat} {L : Lay} {x x' : Pl.Nd} {t t' : Pl.Td} {v : Value} {e : Ending}
theorem NodeAt.qfree (h : NodeAt w b g L x) : ∀ k, (k = g ∨ L.q = some k ∨ L.q2 = some k) -> k ∉ L.gq :: L.qq.toList := by
 obtain ⟨⟨Aq, cq, hq1, hq2⟩, _⟩ := h.qu
 have key : ∀ cur T (k : Nat), w.heap[k]? = some (.cells cur T (0, 0)) -> T ≠ 200 -> T ≠ 49 -> k ∉ L.gq :: L.qq.toList := by
   intro cur T k hb h1 h2 hm
   simp only [List.mem_cons, Option.mem_toList] at hm
   rcases hm with rfl | hm
   · exact blk_ne hb hq1 h1 rfl
   · rw [hm] at hq2
     obtain ⟨cur', hc⟩ := hq2.blk
     exact blk_ne hb hc h2 rfl
 intro k hk
 rcases hk with rfl | hk | hk
 · exact key _ _ _ h.cs (by decide) (by decide)
 · have := h.raw
   rw [hk] at this
   obtain ⟨cur, hc⟩ := this.blk
   exact key _ _ _ hc (by decide) (by decide)
 · have := h.row
   rw [hk] at this
   obtain ⟨cur, hc⟩ := this.blk
   exact key _ _ _ hc (by decide) (by decide)
theorem NT.queued (h : NT w b g gt F x t) : ∃ L, NodeAt w b g L x /\ b <= w.heap.size /\ ∀ (w' : World) (qq' : Option Nat) (l : List Pl.Fr), Qu w' b L.gq qq' l -> Ch (L.gq :: L.qq.toList) w w' -> (qq' = L.qq ∨ ∃ k, qq' = some k /\ w.heap.size <= k) -> ∃ F', NT w' b g gt F' { x with queue := l } t /\ St F w w' F' := by
 obtain ⟨hb, L, A, c, q, h1, h2, h3, h4⟩ := h
 refine ⟨L, h1, hb, fun w' qq' l hQ hC hq => ?_⟩
 have hf := h1.qfree
 have hap := told_apart h1 h2 h3
 refine ⟨({ L with qq := qq' } : Lay).fp g ++ gt :: q.toList, ⟨Nat.le_trans hb hC.size, { L with qq := qq' }, A, c, q, ⟨h1.cs.keep hC (hf g (.inl rfl)), h1.raw.keep hC (fun k hk => hf k (.inr (.inl hk))), h1.row.keep hC (fun k hk => hf k (.inr (.inr hk))), hQ, h1.apart, h1.gb, h1.qb, h1.lv⟩, h2.keep hC ?_, h3, rfl⟩, ⟨hC.sub ?_, ?_⟩⟩
 · intro k hk hm
   have hk' : k = gt ∨ q = some k := by simpa using hk
   simp only [List.mem_cons, Option.mem_toList] at hm
   have hin : k ∈ L.fp g := by
     rcases hm with rfl | hm
     · simp [Lay.fp]
     · simp [Lay.fp, hm]
   rcases hk' with e | e
   · exact (hap k hin).1 e
   · exact (hap k hin).2 e
 · intro k hk
   rw [h4]
   simp only [List.mem_cons, Option.mem_toList] at hk
   rcases hk with rfl | hk
   · simp [Lay.fp]
   · simp [Lay.fp, hk]
 · intro k hk
   rw [h4]
   simp only [Lay.fp, List.mem_append, List.mem_cons, Option.mem_toList] at hk ⊢
   rcases hk with (hk | hk | (hk | hk) | hk) | hk | hk
   · simp [hk]
   · simp [hk]
   · simp [hk]
   · simp [hk]
   · rcases hq with e | ⟨k', e, hk'⟩
     · left; left; right; right; right; rw [<- e]; exact hk
     · rw [e] at hk; cases hk; exact .inr hk'
   · simp [hk]
   · simp [hk]
theorem NT.qdrop (h : NT w b g gt F x t) (f : Pl.Fr) : ∃ L, NodeAt w b g L x /\ Calls Tryz.prog 144 #[.pointer (some ⟨L.gq, 0, none⟩), frv f] w (fun e w' => ∃ z : Int, e = .returned (.int .i64 z) /\ ∃ F', NT w' b g gt F' { x with queue := Pl.qdrop f x.queue } t /\ St F w w' F') := by
 obtain ⟨L, h1, hb, hk⟩ := h.queued
 refine ⟨L, h1, (qdrop_calls f w b L.gq L.qq x.queue h1.qu).mono ?_⟩
 rintro e w' ⟨z, rfl, hQ, hC⟩
 exact ⟨z, rfl, hk w' L.qq _ hQ hC (.inl rfl)⟩
theorem NT.toldf (h : NT w b g gt F x t) : ∃ A c, Cs w gt 168 (tdc A c t) /\ ∀ (W2 : World) (f : Pl.Fr), Ch [gt] w W2 -> Cs W2 gt 168 (tdc A c { t with f := f }) -> NT W2 b g gt F x { t with f := f } /\ St F w W2 F := by
 obtain ⟨hb, L, A, c, q, h1, h2, h3, h4⟩ := h
 refine ⟨A, c, h2.cs, fun W2 f hC hcs => ?_⟩
 have hap := told_apart h1 h2 h3
 refine ⟨⟨Nat.le_trans hb hC.size, L, A, c, q, h1.keep hC (fun k hk => by simpa using (hap k hk).1), ⟨hcs, h2.kinds.keep hC (fun k hk => by simpa using h2.free k hk), h2.gb⟩, h3, h4⟩, ⟨hC.sub ?_, fun _ h => .inl h⟩⟩
 intro k hk
 simp only [List.mem_cons, List.not_mem_nil, or_false] at hk
 subst hk
 rw [h4]
 simp
end
end
section
section
variable {w w1 : World} {b g gt : Nat} {F F1 : List Nat} {x x' : Pl.Nd} {t t' : Pl.Td} {v : Value} {e : Ending}
set_option maxRecDepth 100000 in
theorem ends_calls (h : NT w b g gt F x t) (k : Nat) (ht : t.kinds.length <= 80) (hfr : k = 5 -> x.sends = false -> (Pl.read x.raw).2 = true /\ (Pl.read x.raw).1.sum <= x.raw.length) :
   Calls Tryz.prog 128 #[.pointer (some ⟨g, 0, none⟩), .pointer (some ⟨gt, 0, none⟩), .int .i64 k] w (Res w b g gt F (x.ends t k).1 (x.ends t k).2 (.tuple #[])) := by
 have EN := Ad (show x.ends t k = if k = 5 /\ x.sends = false then (x.count (Ct.recvC x.ct), Pl.Td.tell { t with f := Pl.frameOf x.raw } 2) else if k = 6 then (if x.sends then ({ x.count (Ct.sentC x.ct) with queue := Pl.qdrop x.own x.queue }.turn 8, Pl.Td.tell { t with f := x.own } 1) else (x.turn 8, t)) else (x, t) from rfl)
 obtain ⟨L489, hL490⟩ := NT.node h
 have c491 : w.cell? ⟨g, 8, none⟩ = some (.bool x.sends) := hL490.cs.cell (by rfl)
 have f492 := hL490.cs.free 8
 have c493 : w.cell? ⟨g, 11, none⟩ = some (.int .i64 x.t) := hL490.cs.cell (by rfl)
 have f494 := hL490.cs.free 11
 have c495 : w.cell? ⟨g, 12, none⟩ = some (.int .i64 x.r) := hL490.cs.cell (by rfl)
 have f496 := hL490.cs.free 12
 have c497 : w.cell? ⟨g, 13, none⟩ = some (.bool x.off) := hL490.cs.cell (by rfl)
 have f498 := hL490.cs.free 13
 clear hL490
 have H := Ad h
 clear h
 have HFR := Ad hfr
 clear hfr
 cases hs : x.sends
 · rw [hs] at c491 EN
   by_cases h5 : k = 5
   · have b5 : ((k : Int) == 5) = true := by simp; omega
     have RES := Ad (show x.ends t k = (x.count (Ct.recvC x.ct), Pl.Td.tell { t with f := Pl.frameOf x.raw } 2) from by rw [EN.out, if_pos ⟨h5, rfl⟩])
     have FR := Ad (HFR.out h5 hs)
     clear h5 EN
     have EN := RES
     obtain ⟨⟨ct, cr, co⟩, hc⟩ : ∃ c, Ct.recvC x.ct = c := ⟨_, rfl⟩
     have TX := Ad (Ct.Received_uni x.t x.r x.off ct cr co hc w)
     unfold Ct.cv at TX
     rw [hc] at EN
     clear hc
     clear RES
     go_enter Tryz.func128, Tryz.ntmps128
     go_wp2_with fail
     refine TX.out.mono ?_
     rintro e w1 ⟨rfl, hB⟩
     have H1 := Ad (NT.on H.out (Ch.of_below hB))
     have S1 := Ad (St.of (F := F) (Ch.of_below (F := []) hB))
     clear hB TX
     obtain ⟨L499, hL500⟩ := NT.node H1.out
     have c501 : w1.cell? ⟨g, 11, none⟩ = some (.int .i64 x.t) := hL500.cs.cell (by rfl)
     have f502 := hL500.cs.free 11
     have c503 : w1.cell? ⟨g, 12, none⟩ = some (.int .i64 x.r) := hL500.cs.cell (by rfl)
     have f504 := hL500.cs.free 12
     have c505 : w1.cell? ⟨g, 13, none⟩ = some (.bool x.off) := hL500.cs.cell (by rfl)
     have f506 := hL500.cs.free 13
     clear hL500
     have h2 := NT.count H1.out ⟨ct, cr, co⟩
     obtain ⟨w5, hw5⟩ : ∃ w5, ((w1.setCell ⟨g, 11, none⟩ (.int .i64 ct)).setCell ⟨g, 12, none⟩ (.int .i64 cr)).setCell ⟨g, 13, none⟩ (.bool co) = w5 := ⟨_, rfl⟩
     simp only [hw5] at h2
     have H5 := Ad h2.1
     have S5 := Ad (St.trans S1.out h2.2)
     have W5 := Ad hw5
     clear h2 hw5
     obtain ⟨L5, hL5⟩ := NT.node H5.out
     obtain ⟨n, hn⟩ : ∃ n, x.raw.length = n := ⟨_, rfl⟩
     have FC := Ad (frame_calls L5.A L5.c n _ x.raw hn FR.out.1 rfl (by rw [<- hn]; exact FR.out.2) w5 hL5.ls)
     have c0 : w5.cell? ⟨g, 0, none⟩ = some (.slice L5.A n L5.c) := by rw [<- hn]; exact hL5.cs.cell (by rfl)
     have d0 : w1.cell? ⟨g, 0, none⟩ = some (.slice L5.A n L5.c) := by rw [<- W5.out] at c0; simpa [go_sem] using c0
     have hgl := hL5.cs.lt
     have HSZ := Ad (show w1.heap.size = w5.heap.size by rw [<- W5.out]; simp)
     clear hL5 hn c0
     go_wp2_with fail
     rw [W5.out]
     refine FC.out.mono ?_
     rintro e w6 ⟨⟨z, rfl⟩, hC⟩
     unfold frv
     have H6 := Ad (NT.on H5.out hC)
     have S6 := Ad (St.trans S5.out (St.of hC))
     clear hC FC
     generalize hff : Pl.frameOf x.raw = ff at *
     obtain ⟨At, ct2, hcs, htf⟩ := NT.toldf H6.out
     have CS := Ad hcs
     have TF := Ad htf
     clear hcs htf
     go_wp2_with (refine wpList_store_Cs rfl 49 (.tmp 35) (.tmp 32) rfl 1 (frc ff) (by rfl) (by rfl) CS.out (show 1 + 12 <= 13 by decide) size49 (frc_one ff) ?_)
     intro w7 hb7 hc7
     obtain ⟨h7, s7⟩ := TF.out w7 ff hc7 hb7
     have H7 := Ad h7
     have S7 := Ad (St.trans S6.out s7)
     clear h7 s7 hb7 hc7 TF CS
     have TC507 := Ad (tell_calls H7.out 2 (by show t.kinds.length <= 100; omega))
     go_wp2_with fail
     refine TC507.out.mono ?_
     rintro e w508 ⟨rfl, F509, h510, s511⟩
     have HN512 := Ad h510
     have SN513 := Ad (St.trans S7.out s511)
     clear h510 s511 TC507
     go_wp2_with fail
     go_end0
     rw [EN.out]
     exact ⟨rfl, F509, HN512.out, SN513.out⟩
   · have b5 : ((k : Int) == 5) = false := by simp; omega
     by_cases h6 : k = 6
     · have b6 : ((k : Int) == 6) = true := by simp; omega
       have RES := Ad (show x.ends t k = (x.turn 8, t) from by rw [EN.out, if_neg (fun h => h5 h.1), if_pos h6]; rfl)
       clear h5 h6 EN
       have TC514 := Ad (turn_calls H.out 8)
       go_enter Tryz.func128, Tryz.ntmps128
       go_wp2_with fail
       refine TC514.out.mono ?_
       rintro e w515 ⟨rfl, F516, h517, s518⟩
       have HN519 := Ad h517
       have SN520 := Ad (St.trans (St.refl F w) s518)
       clear h517 s518 TC514
       go_wp2_with fail
       go_end0
       rw [RES.out]
       exact ⟨rfl, F516, HN519.out, SN520.out⟩
     · have b6 : ((k : Int) == 6) = false := by simp; omega
       have RES := Ad (show x.ends t k = (x, t) from by rw [EN.out, if_neg (fun h => h5 h.1), if_neg h6])
       clear h5 h6 EN
       go_enter Tryz.func128, Tryz.ntmps128
       go_wp2_with fail
       go_end0
       rw [RES.out]
       exact ⟨rfl, F, H.out, (St.refl F w)⟩
 · rw [hs] at c491 EN
   by_cases h6 : k = 6
   · have b6 : ((k : Int) == 6) = true := by simp; omega
     have b5 : ((k : Int) == 5) = false := by simp; omega
     have RES := Ad (show x.ends t k = ({ x.count (Ct.sentC x.ct) with queue := Pl.qdrop x.own x.queue }.turn 8, Pl.Td.tell { t with f := x.own } 1) from by rw [EN.out, if_neg (fun h => by simp at h), if_pos h6]; rfl)
     clear h6 EN
     have EN := RES
     obtain ⟨⟨ct, cr, co⟩, hc⟩ : ∃ c, Ct.sentC x.ct = c := ⟨_, rfl⟩
     have TX := Ad (Ct.Sent_uni x.t x.r x.off ct cr co hc w)
     unfold Ct.cv at TX
     rw [hc] at EN
     clear hc
     clear RES
     go_enter Tryz.func128, Tryz.ntmps128
     go_wp2_with fail
     refine TX.out.mono ?_
     rintro e w1 ⟨rfl, hB⟩
     have H1 := Ad (NT.on H.out (Ch.of_below hB))
     have S1 := Ad (St.of (F := F) (Ch.of_below (F := []) hB))
     clear hB TX
     obtain ⟨L521, hL522⟩ := NT.node H1.out
     have c523 : w1.cell? ⟨g, 11, none⟩ = some (.int .i64 x.t) := hL522.cs.cell (by rfl)
     have f524 := hL522.cs.free 11
     have c525 : w1.cell? ⟨g, 12, none⟩ = some (.int .i64 x.r) := hL522.cs.cell (by rfl)
     have f526 := hL522.cs.free 12
     have c527 : w1.cell? ⟨g, 13, none⟩ = some (.bool x.off) := hL522.cs.cell (by rfl)
     have f528 := hL522.cs.free 13
     clear hL522
     have h2 := NT.count H1.out ⟨ct, cr, co⟩
     obtain ⟨w5, hw5⟩ : ∃ w5, ((w1.setCell ⟨g, 11, none⟩ (.int .i64 ct)).setCell ⟨g, 12, none⟩ (.int .i64 cr)).setCell ⟨g, 13, none⟩ (.bool co) = w5 := ⟨_, rfl⟩
     simp only [hw5] at h2
     have H5 := Ad h2.1
     have S5 := Ad (St.trans S1.out h2.2)
     have W5 := Ad hw5
     clear h2 hw5
     obtain ⟨L5, hL5, hqd⟩ := NT.qdrop (NT.on H5.out (Ch.refl [] w5).drew) x.own
     have c3 : w5.drew.cell? ⟨g, 3, none⟩ = some (.pointer (some ⟨L5.gq, 0, none⟩)) := hL5.cs.cell (by rfl)
     have c3 : w5.cell? ⟨g, 3, none⟩ = some (.pointer (some ⟨L5.gq, 0, none⟩)) := c3
     obtain ⟨e0, e1, e2, e3, e4, e5, e6, e7, e8, e9, e10, e11⟩ := cells12 (W := w5) (g := g) (o := 14) (f := x.own) (fun j v hv => hL5.cs.cell (ndc_own L5 (x.count ⟨ct, cr, co⟩) j v hv))
     have hgl : g < w5.heap.size := hL5.cs.lt
     have QD := Ad hqd
     unfold frv at QD
     clear hL5 hqd
     go_wp2_with fail
     rw [W5.out]
     go_region_with ((go_at_call 144; refine QD.out.mono ?_; rintro e w6 ⟨z, rfl, F6, h6, s6⟩))
     all_goals
       have H6 := Ad h6
       have S6 := Ad (St.trans S5.out (St.trans (St.of (Ch.refl [] w5).drew) s6))
       clear h6 s6 e0 e1 e2 e3 e4 e5 e6 e7 e8 e9 e10 e11
       obtain ⟨L6, hL6⟩ := NT.node H6.out
       have CS6 := Ad hL6.cs
       have OWN := Ad (ndc_own L6 { (x.count ⟨ct, cr, co⟩) with queue := Pl.qdrop x.own (x.count ⟨ct, cr, co⟩).queue })
       obtain ⟨At, ct2, hcs, htf⟩ := NT.toldf H6.out
       have CS := Ad hcs
       have TF := Ad htf
       clear hcs htf hL6
       go_wp2_with (first | refine wpList_load_Cs rfl 49 (.tmp 65) rfl 14 (frc x.own) (by rfl) CS6.out OWN.out Tryz.underlying49 rfl size49 ?_ | refine wpList_store_Cs rfl 49 (.tmp 68) (.tmp 66) rfl 1 (frc x.own) (by rfl) (by rfl) CS.out (show 1 + 12 <= 13 by decide) size49 (frc_one x.own) ?_)
       intro w7 hb7 hc7
       obtain ⟨h7, s7⟩ := TF.out w7 x.own hc7 hb7
       have H7 := Ad h7
       have S7 := Ad (St.trans S6.out s7)
       clear h7 s7 hb7 hc7 TF CS CS6 OWN
       have TC529 := Ad (tell_calls H7.out 1 (by show t.kinds.length <= 100; omega))
       go_wp2_with fail
       refine TC529.out.mono ?_
       rintro e w530 ⟨rfl, F531, h532, s533⟩
       have HN534 := Ad h532
       have SN535 := Ad (St.trans S7.out s533)
       clear h532 s533 TC529
       have TC536 := Ad (turn_calls HN534.out 8)
       go_wp2_with fail
       refine TC536.out.mono ?_
       rintro e w537 ⟨rfl, F538, h539, s540⟩
       have HN541 := Ad h539
       have SN542 := Ad (St.trans SN535.out s540)
       clear h539 s540 TC536
       go_wp2_with fail
       go_end0
       rw [EN.out]
       exact ⟨rfl, F538, HN541.out, SN542.out⟩
   · have RES := Ad (show x.ends t k = (x, t) from by rw [EN.out, if_neg (fun h => by simp at h), if_neg h6])
     have b6 : ((k : Int) == 6) = false := by simp; omega
     clear h6 EN
     by_cases h5 : k = 5
     · have b5 : ((k : Int) == 5) = true := by simp; omega
       clear h5
       go_enter Tryz.func128, Tryz.ntmps128
       go_wp2_with fail
       go_end0
       rw [RES.out]
       exact ⟨rfl, F, H.out, (St.refl F w)⟩
     · have b5 : ((k : Int) == 5) = false := by simp; omega
       clear h5
       go_enter Tryz.func128, Tryz.ntmps128
       go_wp2_with fail
       go_end0
       rw [RES.out]
       exact ⟨rfl, F, H.out, (St.refl F w)⟩
end
end
end Go.Proofs.YtjoehjclaonneaaGreat
