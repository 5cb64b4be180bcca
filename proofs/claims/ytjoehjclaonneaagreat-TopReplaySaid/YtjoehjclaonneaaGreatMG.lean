/- A part of the proof of TopReplay (no condition of its own). -/
import Derived.Test.YtjoehjclaonneaaGreatME
import Derived.Test.YtjoehjclaonneaaGreatMF
namespace Go.Proofs.YtjoehjclaonneaaGreat
open Go.RowKit Go.Proofs.YtjoehjclaonneaaGreatW.PrintWords
set_option maxHeartbeats 8000000
set_option linter.unusedVariables false
set_option linter.unusedSimpArgs false
namespace Pl
theorem gi_snoc (l : List Int) (y : Int) (k : Nat) (h : k < l.length) : gi (l ++ [y]) k = gi l k := by
 unfold gi
 rw [List.getD_eq_getElem?_getD, List.getD_eq_getElem?_getD, List.getElem?_append_left h]
theorem read_snoc (l : List Int) (y : Int) (h : (read l).2 = true) : read (l ++ [y]) = read l := by
 unfold read at *
 by_cases h1 : l.length <= 13
 · rw [if_pos h1] at h; simp at h
 · rw [if_neg h1] at h ⊢
   rw [if_neg (by rw [List.length_append]; simp; omega), gi_snoc l y 13 (by omega)]
   by_cases h2 : gi l 13 = 1
   · rw [if_pos h2] at h ⊢
     rw [if_pos h2]
     by_cases h3 : l.length < 39
     · rw [if_pos h3] at h; simp at h
     · rw [if_neg h3, if_neg (by rw [List.length_append]; simp; omega), gi_snoc l y 32 (by omega), List.take_append_of_le_length (by omega)]
   · rw [if_neg h2] at h ⊢
     rw [if_neg h2]
     by_cases h3 : l.length < 19
     · rw [if_pos h3] at h; simp at h
     · rw [if_neg h3, if_neg (by rw [List.length_append]; simp; omega), gi_snoc l y 12 (by omega), List.take_append_of_le_length (by omega)]
theorem next_end (l : List Int) (h : (next l).1 = 8) : (read l).2 = true /\ (read l).1.sum <= l.length := by
 unfold next at h
 split at h
 · simp at h
 split at h
 · simp at h
 split at h
 · simp at h
 split at h
 · simp at h
 rename_i h4
 refine ⟨by simpa using h4, ?_⟩
 unfold field at h
 split at h
 · simp at h
 · omega
theorem take_raw (x : Nd) (lv : Int) : (x.take lv).1.raw = x.raw ∨ (x.take lv).1.raw = x.raw ++ [lv] := by
 unfold Nd.take
 split
 · exact .inl rfl
 split
 · exact .inl rfl
 split
 · exact .inr rfl
 split
 · exact .inr rfl
 · exact .inr rfl
theorem take_end (x y : Nd) (lv : Int) (hy : y.raw = x.raw) (hk : x.kind = 8) : (read (y.take lv).1.raw).2 = true /\ (read (y.take lv).1.raw).1.sum <= (y.take lv).1.raw.length := by
 obtain ⟨h1, h2⟩ := next_end x.raw hk
 rcases take_raw y lv with h | h
 · rw [h, hy]; exact ⟨h1, h2⟩
 · rw [h, hy, read_snoc _ _ h1, List.length_append]
   exact ⟨h1, by omega⟩
theorem differs_keep (x : Nd) (t : Td) (lv : Int) (h : (x.differs t lv).2.2 = true) : (x.differs t lv).1.raw = x.raw /\ (x.differs t lv).1.run = x.run /\ (x.differs t lv).1.level = x.level /\ (x.differs t lv).2.1.kinds.length <= t.kinds.length + 1 := by
 unfold Nd.differs at *
 split
 · exact ⟨rfl, rfl, rfl, by simp [Td.tell]⟩
 · rename_i h1
   rw [if_neg h1] at h
   split
   · rename_i h2; rw [if_pos h2] at h; simp at h
   · rename_i h2
     rw [if_neg h2] at h
     split
     · exact ⟨rfl, rfl, rfl, Nat.le_succ _⟩
     · rename_i h3; rw [if_neg h3] at h; simp at h
end Pl
section
section
variable {w w1 : World} {b g gt : Nat} {F F1 : List Nat} {x x' : Pl.Nd} {t t' : Pl.Td} {v : Value} {e : Ending}
set_option maxRecDepth 100000 in
theorem inFrame_zero (h : NT w b g gt F x t) (hreach : x.reach) (hlevel : x.level = 0 ∨ x.level = 1) (hlen : x.raw.length <= 1000000) (hrun : 0 <= x.run /\ x.run <= 1000) (ht : t.kinds.length <= 70) :
   Calls Tryz.prog 102 #[.pointer (some ⟨g, 0, none⟩), .pointer (some ⟨gt, 0, none⟩), .int .i64 0] w (Res w b g gt F (x.inFrame t 0).1 (x.inFrame t 0).2 (.tuple #[])) := by
 obtain ⟨L0, hL0⟩ := NT.node h
 have NX := Ad (nnext_calls w hL0)
 have NF := Ad (fun (w1 : World) (hc : Ch [] w w1) => nframe_calls w1 (hL0.on hc) hreach hlevel)
 have c8 : w.cell? ⟨g, 8, none⟩ = some (.bool x.sends) := hL0.cs.cell (by rfl)
 have hgl := hL0.cs.lt
 have HL0 := Ad hL0
 clear hL0
 have H := Ad h
 have BD := Ad (And.intro hlen hrun)
 clear h hreach hlen hrun
 have IF := Ad (show x.inFrame t 0 = if x.sends = true /\ (0 : Int) ≠ x.frame then (if (x.differs t 0).2.2 then (x.differs t 0).1.within (x.differs t 0).2.1 0 x.kind x.place x.added else ((x.differs t 0).1, (x.differs t 0).2.1)) else if (0 : Int) ≠ x.frame /\ x.frame = 0 then x.fail t 4 true else x.within t 0 x.kind x.place x.added from rfl)
 generalize hkd : x.kind = kind at *
 generalize hpl : x.place = place at *
 generalize had : x.added = added at *
 generalize hfr : x.frame = fr at *
 have KD := Ad hkd
 clear hkd hpl had hfr
 go_enter Tryz.func102, Tryz.ntmps102
 go_wp2_with fail
 refine NX.out.mono ?_
 rintro e w1 ⟨rfl, hC1⟩
 have NF1 := Ad (NF.out w1 hC1)
 have C1 := Ad hC1
 clear hC1 NX NF
 go_wp2_with fail
 refine NF1.out.mono ?_
 rintro e w2 ⟨rfl, hC2⟩
 have C2 := Ad (C1.out.then hC2)
 have H2 := Ad (NT.on H.out C2.out)
 have S2 := Ad (St.of (F := F) C2.out)
 have d8 : w2.cell? ⟨g, 8, none⟩ = some (.bool x.sends) := C2.out.cell c8 (by simp)
 clear hC2 NF1 C1 c8 hgl
 have hgl := (HL0.out.on C2.out).cs.lt
 clear HL0
 cases hs : x.sends
 · rw [hs] at d8 IF
   by_cases hf : (0 : Int) = fr
   · have HS := Ad hs
     have YR := Ad (show x.raw = x.raw from rfl)
     have YB := BD
     have YK := Ad ht
     have GE := Ad (show x.inFrame t 0 = x.within t 0 kind place added from by rw [IF.out]; rw [if_neg (fun h => absurd h.1 (by decide)), if_neg (fun h => h.1 hf)])
     have bf : ((0 : Int) == fr) = true := by simpa using hf
     have bn : ((0 : Int) != fr) = false := by simpa using hf
     clear hf
     clear IF BD ht hs
     obtain ⟨L489, hL490⟩ := NT.node H2.out
     have c491 : w2.cell? ⟨g, 8, none⟩ = some (.bool x.sends) := hL490.cs.cell (by rfl)
     have f492 := hL490.cs.free 8
     have c493 : w2.cell? ⟨g, 11, none⟩ = some (.int .i64 x.t) := hL490.cs.cell (by rfl)
     have f494 := hL490.cs.free 11
     have c495 : w2.cell? ⟨g, 12, none⟩ = some (.int .i64 x.r) := hL490.cs.cell (by rfl)
     have f496 := hL490.cs.free 12
     have c497 : w2.cell? ⟨g, 13, none⟩ = some (.bool x.off) := hL490.cs.cell (by rfl)
     have f498 := hL490.cs.free 13
     clear hL490
     rw [HS.out] at c491
     by_cases h4 : kind <= 4
     · have wp := h4
       have b4 : decide ((kind : Int) <= 4) = true := by simp; omega
       have i4 : (kind : Int) <= 4 := by omega
       obtain ⟨z, ok, hz⟩ : ∃ z ok, x.take 0 = (z, ok) := ⟨_, _, rfl⟩
       have TK := Ad (show x.inFrame t 0 = if ok then (if kind = 8 then z.ends t place else (z, t)) else z.fail t 5 true from by rw [GE.out, Pl.Nd.within]; rw [if_pos (.inl wp)]; unfold Pl.Nd.taken; simp only [hz])
       have ZE := Ad (fun h8 : x.kind = 8 => Pl.take_end x x 0 (by first | exact YR.out | rfl) h8)
       rw [hz] at ZE
       have TC499 := Ad (take_calls H2.out 0 (by simp) YB.out.1 YB.out.2)
       rw [hz] at TC499
       clear hz
       go_wp2_with fail
       refine TC499.out.mono ?_
       rintro e w500 ⟨rfl, F501, h502, s503⟩
       have HN504 := Ad h502
       have SN505 := Ad (St.trans S2.out s503)
       clear h502 s503 TC499
       cases ok
       · have TC506 := Ad (fail_calls HN504.out 5 true (by have := YK.out; omega))
         go_wp2_with fail
         refine TC506.out.mono ?_
         rintro e w507 ⟨rfl, F508, h509, s510⟩
         have HN511 := Ad h509
         have SN512 := Ad (St.trans SN505.out s510)
         clear h509 s510 TC506
         go_wp2_with fail
         go_end0
         rw [TK.out]
         simp only [Bool.false_eq_true, if_false]
         exact ⟨rfl, F508, HN511.out, SN512.out⟩
       · have hk8 : ¬ kind = 8 := by omega
         have K8 := Ad hk8
         have bq8 : ((kind : Int) == 8) = false := by simp; omega
         clear hk8
         go_wp2_with fail
         go_end0
         rw [TK.out]
         simp only [if_true]
         rw [if_neg K8.out]
         exact ⟨rfl, F501, HN504.out, SN505.out⟩
     · have b4 : decide ((kind : Int) <= 4) = false := by simp; omega
       have i4 : ¬ (kind : Int) <= 4 := by omega
       cases hadd : added
       · by_cases h6 : kind = 6
         · have bq6 : ((kind : Int) == 6) = true := by simp; omega
           obtain ⟨z, ok, hz⟩ : ∃ z ok, x.take 0 = (z, ok) := ⟨_, _, rfl⟩
           have TK := Ad (show x.inFrame t 0 = if ok then (if kind = 8 then z.ends t place else (z, t)) else z.fail t 5 true from by rw [GE.out, Pl.Nd.within]; rw [if_neg (fun h => h.elim h4 (fun h => by rw [hadd] at h; exact absurd h (by decide)))]; rw [if_pos h6, if_neg (by simp)]; unfold Pl.Nd.taken; simp only [hz])
           have ZE := Ad (fun h8 : x.kind = 8 => Pl.take_end x x 0 (by first | exact YR.out | rfl) h8)
           rw [hz] at ZE
           have TC513 := Ad (take_calls H2.out 0 (by simp) YB.out.1 YB.out.2)
           rw [hz] at TC513
           clear hz
           go_wp2_with fail
           refine TC513.out.mono ?_
           rintro e w514 ⟨rfl, F515, h516, s517⟩
           have HN518 := Ad h516
           have SN519 := Ad (St.trans S2.out s517)
           clear h516 s517 TC513
           cases ok
           · have TC520 := Ad (fail_calls HN518.out 5 true (by have := YK.out; omega))
             go_wp2_with fail
             refine TC520.out.mono ?_
             rintro e w521 ⟨rfl, F522, h523, s524⟩
             have HN525 := Ad h523
             have SN526 := Ad (St.trans SN519.out s524)
             clear h523 s524 TC520
             go_wp2_with fail
             go_end0
             rw [TK.out]
             simp only [Bool.false_eq_true, if_false]
             exact ⟨rfl, F522, HN525.out, SN526.out⟩
           · have hk8 : ¬ kind = 8 := by omega
             have K8 := Ad hk8
             have bq8 : ((kind : Int) == 8) = false := by simp; omega
             clear hk8
             go_wp2_with fail
             go_end0
             rw [TK.out]
             simp only [if_true]
             rw [if_neg K8.out]
             exact ⟨rfl, F515, HN518.out, SN519.out⟩
         · have bq6 : ((kind : Int) == 6) = false := by simp; omega
           by_cases ho : kind = 8 /\ place = 6
           · have RES := Ad (show x.inFrame t 0 = x.over t from by rw [GE.out, Pl.Nd.within]; rw [if_neg (fun h => h.elim h4 (fun h => by rw [hadd] at h; exact absurd h (by decide)))]; rw [if_neg h6, if_pos ⟨ho.1, ho.2, rfl⟩])
             have e8 := ho.1
             have e6 := ho.2
             have bq8 : ((kind : Int) == 8) = true := by simp; omega
             have bp6 : ((place : Int) == 6) = true := by simp; omega
             clear ho e8 e6 h6 h4
             have TC527 := Ad (over_calls H2.out (by have := YK.out; omega))
             go_wp2_with fail
             refine TC527.out.mono ?_
             rintro e w528 ⟨rfl, F529, h530, s531⟩
             have HN532 := Ad h530
             have SN533 := Ad (St.trans S2.out s531)
             clear h530 s531 TC527
             go_wp2_with fail
             go_end0
             rw [RES.out]
             exact ⟨rfl, F529, HN532.out, SN533.out⟩
           · have RES := Ad (show x.inFrame t 0 = x.fail t 7 true from by rw [GE.out, Pl.Nd.within]; rw [if_neg (fun h => h.elim h4 (fun h => by rw [hadd] at h; exact absurd h (by decide)))]; rw [if_neg h6, if_neg (fun h => ho ⟨h.1, h.2.1⟩), if_pos rfl])
             by_cases hk8 : kind = 8
             · have bq8 : ((kind : Int) == 8) = true := by simp; omega
               have bp6 : ((place : Int) == 6) = false := by simp; omega
               clear hk8 ho h6
               have TC534 := Ad (fail_calls H2.out 7 true (by have := YK.out; omega))
               go_wp2_with fail
               refine TC534.out.mono ?_
               rintro e w535 ⟨rfl, F536, h537, s538⟩
               have HN539 := Ad h537
               have SN540 := Ad (St.trans S2.out s538)
               clear h537 s538 TC534
               go_wp2_with fail
               go_end0
               rw [RES.out]
               exact ⟨rfl, F536, HN539.out, SN540.out⟩
             · have bq8 : ((kind : Int) == 8) = false := by simp; omega
               clear hk8 ho h6
               have TC541 := Ad (fail_calls H2.out 7 true (by have := YK.out; omega))
               go_wp2_with fail
               refine TC541.out.mono ?_
               rintro e w542 ⟨rfl, F543, h544, s545⟩
               have HN546 := Ad h544
               have SN547 := Ad (St.trans S2.out s545)
               clear h544 s545 TC541
               go_wp2_with fail
               go_end0
               rw [RES.out]
               exact ⟨rfl, F543, HN546.out, SN547.out⟩
       · have wp := hadd
         obtain ⟨z, ok, hz⟩ : ∃ z ok, x.take 0 = (z, ok) := ⟨_, _, rfl⟩
         have TK := Ad (show x.inFrame t 0 = if ok then (if kind = 8 then z.ends t place else (z, t)) else z.fail t 5 true from by rw [GE.out, Pl.Nd.within]; rw [if_pos (.inr wp)]; unfold Pl.Nd.taken; simp only [hz])
         have ZE := Ad (fun h8 : x.kind = 8 => Pl.take_end x x 0 (by first | exact YR.out | rfl) h8)
         rw [hz] at ZE
         have TC548 := Ad (take_calls H2.out 0 (by simp) YB.out.1 YB.out.2)
         rw [hz] at TC548
         clear hz
         go_wp2_with fail
         refine TC548.out.mono ?_
         rintro e w549 ⟨rfl, F550, h551, s552⟩
         have HN553 := Ad h551
         have SN554 := Ad (St.trans S2.out s552)
         clear h551 s552 TC548
         cases ok
         · have TC555 := Ad (fail_calls HN553.out 5 true (by have := YK.out; omega))
           go_wp2_with fail
           refine TC555.out.mono ?_
           rintro e w556 ⟨rfl, F557, h558, s559⟩
           have HN560 := Ad h558
           have SN561 := Ad (St.trans SN554.out s559)
           clear h558 s559 TC555
           go_wp2_with fail
           go_end0
           rw [TK.out]
           simp only [Bool.false_eq_true, if_false]
           exact ⟨rfl, F557, HN560.out, SN561.out⟩
         · by_cases hk8 : kind = 8
           · have K8 := Ad hk8
             have bq8 : ((kind : Int) == 8) = true := by simp; omega
             clear hk8
             have TC562 := Ad (ends_calls HN553.out place (by have := YK.out; omega) (fun _ _ => ZE.out (by rw [KD.out]; exact K8.out)))
             go_wp2_with fail
             refine TC562.out.mono ?_
             rintro e w563 ⟨rfl, F564, h565, s566⟩
             have HN567 := Ad h565
             have SN568 := Ad (St.trans SN554.out s566)
             clear h565 s566 TC562
             go_wp2_with fail
             go_end0
             rw [TK.out]
             simp only [if_true]
             rw [if_pos K8.out]
             exact ⟨rfl, F564, HN567.out, SN568.out⟩
           · have K8 := Ad hk8
             have bq8 : ((kind : Int) == 8) = false := by simp; omega
             clear hk8
             go_wp2_with fail
             go_end0
             rw [TK.out]
             simp only [if_true]
             rw [if_neg K8.out]
             exact ⟨rfl, F550, HN553.out, SN554.out⟩
   · have bf : ((0 : Int) == fr) = false := by simpa using hf
     have bn : ((0 : Int) != fr) = true := by simpa using hf
     by_cases h0 : fr = 0
     · have RES := Ad (show x.inFrame t 0 = x.fail t 4 true from by rw [IF.out, if_neg (fun h => absurd h.1 (by decide)), if_pos ⟨hf, h0⟩])
       have b0 : (fr == 0) = true := by simpa using h0
       clear h0 hf
       have TC569 := Ad (fail_calls H2.out 4 true (by omega))
       go_wp2_with fail
       refine TC569.out.mono ?_
       rintro e w570 ⟨rfl, F571, h572, s573⟩
       have HN574 := Ad h572
       have SN575 := Ad (St.trans S2.out s573)
       clear h572 s573 TC569
       go_wp2_with fail
       go_end0
       rw [RES.out]
       exact ⟨rfl, F571, HN574.out, SN575.out⟩
     · have HS := Ad hs
       have YR := Ad (show x.raw = x.raw from rfl)
       have YB := BD
       have YK := Ad ht
       have GE := Ad (show x.inFrame t 0 = x.within t 0 kind place added from by rw [IF.out]; rw [if_neg (fun h => absurd h.1 (by decide)), if_neg (fun h => h0 h.2)])
       have b0 : (fr == 0) = false := by simpa using h0
       clear h0 hf
       clear IF BD ht hs
       obtain ⟨L576, hL577⟩ := NT.node H2.out
       have c578 : w2.cell? ⟨g, 8, none⟩ = some (.bool x.sends) := hL577.cs.cell (by rfl)
       have f579 := hL577.cs.free 8
       have c580 : w2.cell? ⟨g, 11, none⟩ = some (.int .i64 x.t) := hL577.cs.cell (by rfl)
       have f581 := hL577.cs.free 11
       have c582 : w2.cell? ⟨g, 12, none⟩ = some (.int .i64 x.r) := hL577.cs.cell (by rfl)
       have f583 := hL577.cs.free 12
       have c584 : w2.cell? ⟨g, 13, none⟩ = some (.bool x.off) := hL577.cs.cell (by rfl)
       have f585 := hL577.cs.free 13
       clear hL577
       rw [HS.out] at c578
       by_cases h4 : kind <= 4
       · have wp := h4
         have b4 : decide ((kind : Int) <= 4) = true := by simp; omega
         have i4 : (kind : Int) <= 4 := by omega
         obtain ⟨z, ok, hz⟩ : ∃ z ok, x.take 0 = (z, ok) := ⟨_, _, rfl⟩
         have TK := Ad (show x.inFrame t 0 = if ok then (if kind = 8 then z.ends t place else (z, t)) else z.fail t 5 true from by rw [GE.out, Pl.Nd.within]; rw [if_pos (.inl wp)]; unfold Pl.Nd.taken; simp only [hz])
         have ZE := Ad (fun h8 : x.kind = 8 => Pl.take_end x x 0 (by first | exact YR.out | rfl) h8)
         rw [hz] at ZE
         have TC586 := Ad (take_calls H2.out 0 (by simp) YB.out.1 YB.out.2)
         rw [hz] at TC586
         clear hz
         go_wp2_with fail
         refine TC586.out.mono ?_
         rintro e w587 ⟨rfl, F588, h589, s590⟩
         have HN591 := Ad h589
         have SN592 := Ad (St.trans S2.out s590)
         clear h589 s590 TC586
         cases ok
         · have TC593 := Ad (fail_calls HN591.out 5 true (by have := YK.out; omega))
           go_wp2_with fail
           refine TC593.out.mono ?_
           rintro e w594 ⟨rfl, F595, h596, s597⟩
           have HN598 := Ad h596
           have SN599 := Ad (St.trans SN592.out s597)
           clear h596 s597 TC593
           go_wp2_with fail
           go_end0
           rw [TK.out]
           simp only [Bool.false_eq_true, if_false]
           exact ⟨rfl, F595, HN598.out, SN599.out⟩
         · have hk8 : ¬ kind = 8 := by omega
           have K8 := Ad hk8
           have bq8 : ((kind : Int) == 8) = false := by simp; omega
           clear hk8
           go_wp2_with fail
           go_end0
           rw [TK.out]
           simp only [if_true]
           rw [if_neg K8.out]
           exact ⟨rfl, F588, HN591.out, SN592.out⟩
       · have b4 : decide ((kind : Int) <= 4) = false := by simp; omega
         have i4 : ¬ (kind : Int) <= 4 := by omega
         cases hadd : added
         · by_cases h6 : kind = 6
           · have bq6 : ((kind : Int) == 6) = true := by simp; omega
             obtain ⟨z, ok, hz⟩ : ∃ z ok, x.take 0 = (z, ok) := ⟨_, _, rfl⟩
             have TK := Ad (show x.inFrame t 0 = if ok then (if kind = 8 then z.ends t place else (z, t)) else z.fail t 5 true from by rw [GE.out, Pl.Nd.within]; rw [if_neg (fun h => h.elim h4 (fun h => by rw [hadd] at h; exact absurd h (by decide)))]; rw [if_pos h6, if_neg (by simp)]; unfold Pl.Nd.taken; simp only [hz])
             have ZE := Ad (fun h8 : x.kind = 8 => Pl.take_end x x 0 (by first | exact YR.out | rfl) h8)
             rw [hz] at ZE
             have TC600 := Ad (take_calls H2.out 0 (by simp) YB.out.1 YB.out.2)
             rw [hz] at TC600
             clear hz
             go_wp2_with fail
             refine TC600.out.mono ?_
             rintro e w601 ⟨rfl, F602, h603, s604⟩
             have HN605 := Ad h603
             have SN606 := Ad (St.trans S2.out s604)
             clear h603 s604 TC600
             cases ok
             · have TC607 := Ad (fail_calls HN605.out 5 true (by have := YK.out; omega))
               go_wp2_with fail
               refine TC607.out.mono ?_
               rintro e w608 ⟨rfl, F609, h610, s611⟩
               have HN612 := Ad h610
               have SN613 := Ad (St.trans SN606.out s611)
               clear h610 s611 TC607
               go_wp2_with fail
               go_end0
               rw [TK.out]
               simp only [Bool.false_eq_true, if_false]
               exact ⟨rfl, F609, HN612.out, SN613.out⟩
             · have hk8 : ¬ kind = 8 := by omega
               have K8 := Ad hk8
               have bq8 : ((kind : Int) == 8) = false := by simp; omega
               clear hk8
               go_wp2_with fail
               go_end0
               rw [TK.out]
               simp only [if_true]
               rw [if_neg K8.out]
               exact ⟨rfl, F602, HN605.out, SN606.out⟩
           · have bq6 : ((kind : Int) == 6) = false := by simp; omega
             by_cases ho : kind = 8 /\ place = 6
             · have RES := Ad (show x.inFrame t 0 = x.over t from by rw [GE.out, Pl.Nd.within]; rw [if_neg (fun h => h.elim h4 (fun h => by rw [hadd] at h; exact absurd h (by decide)))]; rw [if_neg h6, if_pos ⟨ho.1, ho.2, rfl⟩])
               have e8 := ho.1
               have e6 := ho.2
               have bq8 : ((kind : Int) == 8) = true := by simp; omega
               have bp6 : ((place : Int) == 6) = true := by simp; omega
               clear ho e8 e6 h6 h4
               have TC614 := Ad (over_calls H2.out (by have := YK.out; omega))
               go_wp2_with fail
               refine TC614.out.mono ?_
               rintro e w615 ⟨rfl, F616, h617, s618⟩
               have HN619 := Ad h617
               have SN620 := Ad (St.trans S2.out s618)
               clear h617 s618 TC614
               go_wp2_with fail
               go_end0
               rw [RES.out]
               exact ⟨rfl, F616, HN619.out, SN620.out⟩
             · have RES := Ad (show x.inFrame t 0 = x.fail t 7 true from by rw [GE.out, Pl.Nd.within]; rw [if_neg (fun h => h.elim h4 (fun h => by rw [hadd] at h; exact absurd h (by decide)))]; rw [if_neg h6, if_neg (fun h => ho ⟨h.1, h.2.1⟩), if_pos rfl])
               by_cases hk8 : kind = 8
               · have bq8 : ((kind : Int) == 8) = true := by simp; omega
                 have bp6 : ((place : Int) == 6) = false := by simp; omega
                 clear hk8 ho h6
                 have TC621 := Ad (fail_calls H2.out 7 true (by have := YK.out; omega))
                 go_wp2_with fail
                 refine TC621.out.mono ?_
                 rintro e w622 ⟨rfl, F623, h624, s625⟩
                 have HN626 := Ad h624
                 have SN627 := Ad (St.trans S2.out s625)
                 clear h624 s625 TC621
                 go_wp2_with fail
                 go_end0
                 rw [RES.out]
                 exact ⟨rfl, F623, HN626.out, SN627.out⟩
               · have bq8 : ((kind : Int) == 8) = false := by simp; omega
                 clear hk8 ho h6
                 have TC628 := Ad (fail_calls H2.out 7 true (by have := YK.out; omega))
                 go_wp2_with fail
                 refine TC628.out.mono ?_
                 rintro e w629 ⟨rfl, F630, h631, s632⟩
                 have HN633 := Ad h631
                 have SN634 := Ad (St.trans S2.out s632)
                 clear h631 s632 TC628
                 go_wp2_with fail
                 go_end0
                 rw [RES.out]
                 exact ⟨rfl, F630, HN633.out, SN634.out⟩
         · have wp := hadd
           obtain ⟨z, ok, hz⟩ : ∃ z ok, x.take 0 = (z, ok) := ⟨_, _, rfl⟩
           have TK := Ad (show x.inFrame t 0 = if ok then (if kind = 8 then z.ends t place else (z, t)) else z.fail t 5 true from by rw [GE.out, Pl.Nd.within]; rw [if_pos (.inr wp)]; unfold Pl.Nd.taken; simp only [hz])
           have ZE := Ad (fun h8 : x.kind = 8 => Pl.take_end x x 0 (by first | exact YR.out | rfl) h8)
           rw [hz] at ZE
           have TC635 := Ad (take_calls H2.out 0 (by simp) YB.out.1 YB.out.2)
           rw [hz] at TC635
           clear hz
           go_wp2_with fail
           refine TC635.out.mono ?_
           rintro e w636 ⟨rfl, F637, h638, s639⟩
           have HN640 := Ad h638
           have SN641 := Ad (St.trans S2.out s639)
           clear h638 s639 TC635
           cases ok
           · have TC642 := Ad (fail_calls HN640.out 5 true (by have := YK.out; omega))
             go_wp2_with fail
             refine TC642.out.mono ?_
             rintro e w643 ⟨rfl, F644, h645, s646⟩
             have HN647 := Ad h645
             have SN648 := Ad (St.trans SN641.out s646)
             clear h645 s646 TC642
             go_wp2_with fail
             go_end0
             rw [TK.out]
             simp only [Bool.false_eq_true, if_false]
             exact ⟨rfl, F644, HN647.out, SN648.out⟩
           · by_cases hk8 : kind = 8
             · have K8 := Ad hk8
               have bq8 : ((kind : Int) == 8) = true := by simp; omega
               clear hk8
               have TC649 := Ad (ends_calls HN640.out place (by have := YK.out; omega) (fun _ _ => ZE.out (by rw [KD.out]; exact K8.out)))
               go_wp2_with fail
               refine TC649.out.mono ?_
               rintro e w650 ⟨rfl, F651, h652, s653⟩
               have HN654 := Ad h652
               have SN655 := Ad (St.trans SN641.out s653)
               clear h652 s653 TC649
               go_wp2_with fail
               go_end0
               rw [TK.out]
               simp only [if_true]
               rw [if_pos K8.out]
               exact ⟨rfl, F651, HN654.out, SN655.out⟩
             · have K8 := Ad hk8
               have bq8 : ((kind : Int) == 8) = false := by simp; omega
               clear hk8
               go_wp2_with fail
               go_end0
               rw [TK.out]
               simp only [if_true]
               rw [if_neg K8.out]
               exact ⟨rfl, F637, HN640.out, SN641.out⟩
 · rw [hs] at d8 IF
   by_cases hf : (0 : Int) = fr
   · have HS := Ad hs
     have YR := Ad (show x.raw = x.raw from rfl)
     have YB := BD
     have YK := Ad ht
     have GE := Ad (show x.inFrame t 0 = x.within t 0 kind place added from by rw [IF.out]; rw [if_neg (fun h => h.2 hf), if_neg (fun h => h.1 hf)])
     have bf : ((0 : Int) == fr) = true := by simpa using hf
     have bn : ((0 : Int) != fr) = false := by simpa using hf
     clear hf
     clear IF BD ht hs
     obtain ⟨L656, hL657⟩ := NT.node H2.out
     have c658 : w2.cell? ⟨g, 8, none⟩ = some (.bool x.sends) := hL657.cs.cell (by rfl)
     have f659 := hL657.cs.free 8
     have c660 : w2.cell? ⟨g, 11, none⟩ = some (.int .i64 x.t) := hL657.cs.cell (by rfl)
     have f661 := hL657.cs.free 11
     have c662 : w2.cell? ⟨g, 12, none⟩ = some (.int .i64 x.r) := hL657.cs.cell (by rfl)
     have f663 := hL657.cs.free 12
     have c664 : w2.cell? ⟨g, 13, none⟩ = some (.bool x.off) := hL657.cs.cell (by rfl)
     have f665 := hL657.cs.free 13
     clear hL657
     rw [HS.out] at c658
     by_cases h4 : kind <= 4
     · have wp := h4
       have b4 : decide ((kind : Int) <= 4) = true := by simp; omega
       have i4 : (kind : Int) <= 4 := by omega
       obtain ⟨z, ok, hz⟩ : ∃ z ok, x.take 0 = (z, ok) := ⟨_, _, rfl⟩
       have TK := Ad (show x.inFrame t 0 = if ok then (if kind = 8 then z.ends t place else (z, t)) else z.fail t 5 true from by rw [GE.out, Pl.Nd.within]; rw [if_pos (.inl wp)]; unfold Pl.Nd.taken; simp only [hz])
       have ZE := Ad (fun h8 : x.kind = 8 => Pl.take_end x x 0 (by first | exact YR.out | rfl) h8)
       rw [hz] at ZE
       have TC666 := Ad (take_calls H2.out 0 (by simp) YB.out.1 YB.out.2)
       rw [hz] at TC666
       clear hz
       go_wp2_with fail
       refine TC666.out.mono ?_
       rintro e w667 ⟨rfl, F668, h669, s670⟩
       have HN671 := Ad h669
       have SN672 := Ad (St.trans S2.out s670)
       clear h669 s670 TC666
       cases ok
       · have TC673 := Ad (fail_calls HN671.out 5 true (by have := YK.out; omega))
         go_wp2_with fail
         refine TC673.out.mono ?_
         rintro e w674 ⟨rfl, F675, h676, s677⟩
         have HN678 := Ad h676
         have SN679 := Ad (St.trans SN672.out s677)
         clear h676 s677 TC673
         go_wp2_with fail
         go_end0
         rw [TK.out]
         simp only [Bool.false_eq_true, if_false]
         exact ⟨rfl, F675, HN678.out, SN679.out⟩
       · have hk8 : ¬ kind = 8 := by omega
         have K8 := Ad hk8
         have bq8 : ((kind : Int) == 8) = false := by simp; omega
         clear hk8
         go_wp2_with fail
         go_end0
         rw [TK.out]
         simp only [if_true]
         rw [if_neg K8.out]
         exact ⟨rfl, F668, HN671.out, SN672.out⟩
     · have b4 : decide ((kind : Int) <= 4) = false := by simp; omega
       have i4 : ¬ (kind : Int) <= 4 := by omega
       cases hadd : added
       · by_cases h6 : kind = 6
         · have bq6 : ((kind : Int) == 6) = true := by simp; omega
           obtain ⟨z, ok, hz⟩ : ∃ z ok, x.take 0 = (z, ok) := ⟨_, _, rfl⟩
           have TK := Ad (show x.inFrame t 0 = if ok then (if kind = 8 then z.ends t place else (z, t)) else z.fail t 5 true from by rw [GE.out, Pl.Nd.within]; rw [if_neg (fun h => h.elim h4 (fun h => by rw [hadd] at h; exact absurd h (by decide)))]; rw [if_pos h6, if_neg (by simp)]; unfold Pl.Nd.taken; simp only [hz])
           have ZE := Ad (fun h8 : x.kind = 8 => Pl.take_end x x 0 (by first | exact YR.out | rfl) h8)
           rw [hz] at ZE
           have TC680 := Ad (take_calls H2.out 0 (by simp) YB.out.1 YB.out.2)
           rw [hz] at TC680
           clear hz
           go_wp2_with fail
           refine TC680.out.mono ?_
           rintro e w681 ⟨rfl, F682, h683, s684⟩
           have HN685 := Ad h683
           have SN686 := Ad (St.trans S2.out s684)
           clear h683 s684 TC680
           cases ok
           · have TC687 := Ad (fail_calls HN685.out 5 true (by have := YK.out; omega))
             go_wp2_with fail
             refine TC687.out.mono ?_
             rintro e w688 ⟨rfl, F689, h690, s691⟩
             have HN692 := Ad h690
             have SN693 := Ad (St.trans SN686.out s691)
             clear h690 s691 TC687
             go_wp2_with fail
             go_end0
             rw [TK.out]
             simp only [Bool.false_eq_true, if_false]
             exact ⟨rfl, F689, HN692.out, SN693.out⟩
           · have hk8 : ¬ kind = 8 := by omega
             have K8 := Ad hk8
             have bq8 : ((kind : Int) == 8) = false := by simp; omega
             clear hk8
             go_wp2_with fail
             go_end0
             rw [TK.out]
             simp only [if_true]
             rw [if_neg K8.out]
             exact ⟨rfl, F682, HN685.out, SN686.out⟩
         · have bq6 : ((kind : Int) == 6) = false := by simp; omega
           by_cases ho : kind = 8 /\ place = 6
           · have RES := Ad (show x.inFrame t 0 = x.over t from by rw [GE.out, Pl.Nd.within]; rw [if_neg (fun h => h.elim h4 (fun h => by rw [hadd] at h; exact absurd h (by decide)))]; rw [if_neg h6, if_pos ⟨ho.1, ho.2, rfl⟩])
             have e8 := ho.1
             have e6 := ho.2
             have bq8 : ((kind : Int) == 8) = true := by simp; omega
             have bp6 : ((place : Int) == 6) = true := by simp; omega
             clear ho e8 e6 h6 h4
             have TC694 := Ad (over_calls H2.out (by have := YK.out; omega))
             go_wp2_with fail
             refine TC694.out.mono ?_
             rintro e w695 ⟨rfl, F696, h697, s698⟩
             have HN699 := Ad h697
             have SN700 := Ad (St.trans S2.out s698)
             clear h697 s698 TC694
             go_wp2_with fail
             go_end0
             rw [RES.out]
             exact ⟨rfl, F696, HN699.out, SN700.out⟩
           · have RES := Ad (show x.inFrame t 0 = x.fail t 7 true from by rw [GE.out, Pl.Nd.within]; rw [if_neg (fun h => h.elim h4 (fun h => by rw [hadd] at h; exact absurd h (by decide)))]; rw [if_neg h6, if_neg (fun h => ho ⟨h.1, h.2.1⟩), if_pos rfl])
             by_cases hk8 : kind = 8
             · have bq8 : ((kind : Int) == 8) = true := by simp; omega
               have bp6 : ((place : Int) == 6) = false := by simp; omega
               clear hk8 ho h6
               have TC701 := Ad (fail_calls H2.out 7 true (by have := YK.out; omega))
               go_wp2_with fail
               refine TC701.out.mono ?_
               rintro e w702 ⟨rfl, F703, h704, s705⟩
               have HN706 := Ad h704
               have SN707 := Ad (St.trans S2.out s705)
               clear h704 s705 TC701
               go_wp2_with fail
               go_end0
               rw [RES.out]
               exact ⟨rfl, F703, HN706.out, SN707.out⟩
             · have bq8 : ((kind : Int) == 8) = false := by simp; omega
               clear hk8 ho h6
               have TC708 := Ad (fail_calls H2.out 7 true (by have := YK.out; omega))
               go_wp2_with fail
               refine TC708.out.mono ?_
               rintro e w709 ⟨rfl, F710, h711, s712⟩
               have HN713 := Ad h711
               have SN714 := Ad (St.trans S2.out s712)
               clear h711 s712 TC708
               go_wp2_with fail
               go_end0
               rw [RES.out]
               exact ⟨rfl, F710, HN713.out, SN714.out⟩
       · have wp := hadd
         obtain ⟨z, ok, hz⟩ : ∃ z ok, x.take 0 = (z, ok) := ⟨_, _, rfl⟩
         have TK := Ad (show x.inFrame t 0 = if ok then (if kind = 8 then z.ends t place else (z, t)) else z.fail t 5 true from by rw [GE.out, Pl.Nd.within]; rw [if_pos (.inr wp)]; unfold Pl.Nd.taken; simp only [hz])
         have ZE := Ad (fun h8 : x.kind = 8 => Pl.take_end x x 0 (by first | exact YR.out | rfl) h8)
         rw [hz] at ZE
         have TC715 := Ad (take_calls H2.out 0 (by simp) YB.out.1 YB.out.2)
         rw [hz] at TC715
         clear hz
         go_wp2_with fail
         refine TC715.out.mono ?_
         rintro e w716 ⟨rfl, F717, h718, s719⟩
         have HN720 := Ad h718
         have SN721 := Ad (St.trans S2.out s719)
         clear h718 s719 TC715
         cases ok
         · have TC722 := Ad (fail_calls HN720.out 5 true (by have := YK.out; omega))
           go_wp2_with fail
           refine TC722.out.mono ?_
           rintro e w723 ⟨rfl, F724, h725, s726⟩
           have HN727 := Ad h725
           have SN728 := Ad (St.trans SN721.out s726)
           clear h725 s726 TC722
           go_wp2_with fail
           go_end0
           rw [TK.out]
           simp only [Bool.false_eq_true, if_false]
           exact ⟨rfl, F724, HN727.out, SN728.out⟩
         · by_cases hk8 : kind = 8
           · have K8 := Ad hk8
             have bq8 : ((kind : Int) == 8) = true := by simp; omega
             clear hk8
             have TC729 := Ad (ends_calls HN720.out place (by have := YK.out; omega) (fun _ _ => ZE.out (by rw [KD.out]; exact K8.out)))
             go_wp2_with fail
             refine TC729.out.mono ?_
             rintro e w730 ⟨rfl, F731, h732, s733⟩
             have HN734 := Ad h732
             have SN735 := Ad (St.trans SN721.out s733)
             clear h732 s733 TC729
             go_wp2_with fail
             go_end0
             rw [TK.out]
             simp only [if_true]
             rw [if_pos K8.out]
             exact ⟨rfl, F731, HN734.out, SN735.out⟩
           · have K8 := Ad hk8
             have bq8 : ((kind : Int) == 8) = false := by simp; omega
             clear hk8
             go_wp2_with fail
             go_end0
             rw [TK.out]
             simp only [if_true]
             rw [if_neg K8.out]
             exact ⟨rfl, F717, HN720.out, SN721.out⟩
   · have bf : ((0 : Int) == fr) = false := by simpa using hf
     have bn : ((0 : Int) != fr) = true := by simpa using hf
     obtain ⟨y, t2, ok, hd⟩ : ∃ y t2 ok, x.differs t 0 = (y, t2, ok) := ⟨_, _, _, rfl⟩
     have DC := Ad (differs_calls H2.out 0 (by simp) (by omega))
     have DK := Pl.differs_keep x t 0
     rw [hd] at DC IF DK
     simp only [] at DC DK
     have IG := Ad (show x.inFrame t 0 = if ok then y.within t2 0 kind place added else (y, t2) from by rw [IF.out, if_pos ⟨by first | rfl | trivial, hf⟩])
     clear hd IF hf
     go_wp2_with fail
     refine DC.out.mono ?_
     rintro e w3 ⟨rfl, F3, h3, s3⟩
     have H3 := Ad h3
     have S3 := Ad (St.trans S2.out s3)
     clear h3 s3 DC
     cases ok
     · go_wp2_with fail
       go_end0
       rw [IG.out]
       simp only [Bool.false_eq_true, if_false]
       exact ⟨rfl, F3, H3.out, S3.out⟩
     · obtain ⟨k1, k2, k3, k4⟩ := DK rfl
       have YR := Ad k1
       have YB := Ad (show y.raw.length <= 1000000 /\ 0 <= y.run /\ y.run <= 1000 from by rw [k1, k2]; exact BD.out)
       have YK := Ad (show t2.kinds.length <= 76 from by omega)
       have GE := Ad (show x.inFrame t 0 = y.within t2 0 kind place added from by rw [IG.out, if_pos (by rfl)])
       clear k1 k2 k3 k4 DK IG BD hs
       obtain ⟨L736, hL737⟩ := NT.node H3.out
       have c738 : w3.cell? ⟨g, 8, none⟩ = some (.bool y.sends) := hL737.cs.cell (by rfl)
       have f739 := hL737.cs.free 8
       have c740 : w3.cell? ⟨g, 11, none⟩ = some (.int .i64 y.t) := hL737.cs.cell (by rfl)
       have f741 := hL737.cs.free 11
       have c742 : w3.cell? ⟨g, 12, none⟩ = some (.int .i64 y.r) := hL737.cs.cell (by rfl)
       have f743 := hL737.cs.free 12
       have c744 : w3.cell? ⟨g, 13, none⟩ = some (.bool y.off) := hL737.cs.cell (by rfl)
       have f745 := hL737.cs.free 13
       clear hL737
       by_cases h4 : kind <= 4
       · have wp := h4
         have b4 : decide ((kind : Int) <= 4) = true := by simp; omega
         have i4 : (kind : Int) <= 4 := by omega
         obtain ⟨z, ok, hz⟩ : ∃ z ok, y.take 0 = (z, ok) := ⟨_, _, rfl⟩
         have TK := Ad (show x.inFrame t 0 = if ok then (if kind = 8 then z.ends t2 place else (z, t2)) else z.fail t2 5 true from by rw [GE.out, Pl.Nd.within]; rw [if_pos (.inl wp)]; unfold Pl.Nd.taken; simp only [hz])
         have ZE := Ad (fun h8 : x.kind = 8 => Pl.take_end x y 0 (by first | exact YR.out | rfl) h8)
         rw [hz] at ZE
         have TC746 := Ad (take_calls H3.out 0 (by simp) YB.out.1 YB.out.2)
         rw [hz] at TC746
         clear hz
         go_wp2_with fail
         refine TC746.out.mono ?_
         rintro e w747 ⟨rfl, F748, h749, s750⟩
         have HN751 := Ad h749
         have SN752 := Ad (St.trans S3.out s750)
         clear h749 s750 TC746
         cases ok
         · have TC753 := Ad (fail_calls HN751.out 5 true (by have := YK.out; omega))
           go_wp2_with fail
           refine TC753.out.mono ?_
           rintro e w754 ⟨rfl, F755, h756, s757⟩
           have HN758 := Ad h756
           have SN759 := Ad (St.trans SN752.out s757)
           clear h756 s757 TC753
           go_wp2_with fail
           go_end0
           rw [TK.out]
           simp only [Bool.false_eq_true, if_false]
           exact ⟨rfl, F755, HN758.out, SN759.out⟩
         · have hk8 : ¬ kind = 8 := by omega
           have K8 := Ad hk8
           have bq8 : ((kind : Int) == 8) = false := by simp; omega
           clear hk8
           go_wp2_with fail
           go_end0
           rw [TK.out]
           simp only [if_true]
           rw [if_neg K8.out]
           exact ⟨rfl, F748, HN751.out, SN752.out⟩
       · have b4 : decide ((kind : Int) <= 4) = false := by simp; omega
         have i4 : ¬ (kind : Int) <= 4 := by omega
         cases hadd : added
         · by_cases h6 : kind = 6
           · have bq6 : ((kind : Int) == 6) = true := by simp; omega
             cases hs : y.sends
             · rw [hs] at c738
               clear hs
               obtain ⟨z, ok, hz⟩ : ∃ z ok, y.take 0 = (z, ok) := ⟨_, _, rfl⟩
               have TK := Ad (show x.inFrame t 0 = if ok then (if kind = 8 then z.ends t2 place else (z, t2)) else z.fail t2 5 true from by rw [GE.out, Pl.Nd.within]; rw [if_neg (fun h => h.elim h4 (fun h => by rw [hadd] at h; exact absurd h (by decide)))]; rw [if_pos h6, if_neg (by simp)]; unfold Pl.Nd.taken; simp only [hz])
               have ZE := Ad (fun h8 : x.kind = 8 => Pl.take_end x y 0 (by first | exact YR.out | rfl) h8)
               rw [hz] at ZE
               have TC760 := Ad (take_calls H3.out 0 (by simp) YB.out.1 YB.out.2)
               rw [hz] at TC760
               clear hz
               go_wp2_with fail
               refine TC760.out.mono ?_
               rintro e w761 ⟨rfl, F762, h763, s764⟩
               have HN765 := Ad h763
               have SN766 := Ad (St.trans S3.out s764)
               clear h763 s764 TC760
               cases ok
               · have TC767 := Ad (fail_calls HN765.out 5 true (by have := YK.out; omega))
                 go_wp2_with fail
                 refine TC767.out.mono ?_
                 rintro e w768 ⟨rfl, F769, h770, s771⟩
                 have HN772 := Ad h770
                 have SN773 := Ad (St.trans SN766.out s771)
                 clear h770 s771 TC767
                 go_wp2_with fail
                 go_end0
                 rw [TK.out]
                 simp only [Bool.false_eq_true, if_false]
                 exact ⟨rfl, F769, HN772.out, SN773.out⟩
               · have hk8 : ¬ kind = 8 := by omega
                 have K8 := Ad hk8
                 have bq8 : ((kind : Int) == 8) = false := by simp; omega
                 clear hk8
                 go_wp2_with fail
                 go_end0
                 rw [TK.out]
                 simp only [if_true]
                 rw [if_neg K8.out]
                 exact ⟨rfl, F762, HN765.out, SN766.out⟩
             · rw [hs] at c738
               clear hs
               obtain ⟨z, ok, hz⟩ : ∃ z ok, y.take 0 = (z, ok) := ⟨_, _, rfl⟩
               have TK := Ad (show x.inFrame t 0 = if ok then (if kind = 8 then z.ends t2 place else (z, t2)) else z.fail t2 5 true from by rw [GE.out, Pl.Nd.within]; rw [if_neg (fun h => h.elim h4 (fun h => by rw [hadd] at h; exact absurd h (by decide)))]; rw [if_pos h6, if_neg (by simp)]; unfold Pl.Nd.taken; simp only [hz])
               have ZE := Ad (fun h8 : x.kind = 8 => Pl.take_end x y 0 (by first | exact YR.out | rfl) h8)
               rw [hz] at ZE
               have TC774 := Ad (take_calls H3.out 0 (by simp) YB.out.1 YB.out.2)
               rw [hz] at TC774
               clear hz
               go_wp2_with fail
               refine TC774.out.mono ?_
               rintro e w775 ⟨rfl, F776, h777, s778⟩
               have HN779 := Ad h777
               have SN780 := Ad (St.trans S3.out s778)
               clear h777 s778 TC774
               cases ok
               · have TC781 := Ad (fail_calls HN779.out 5 true (by have := YK.out; omega))
                 go_wp2_with fail
                 refine TC781.out.mono ?_
                 rintro e w782 ⟨rfl, F783, h784, s785⟩
                 have HN786 := Ad h784
                 have SN787 := Ad (St.trans SN780.out s785)
                 clear h784 s785 TC781
                 go_wp2_with fail
                 go_end0
                 rw [TK.out]
                 simp only [Bool.false_eq_true, if_false]
                 exact ⟨rfl, F783, HN786.out, SN787.out⟩
               · have hk8 : ¬ kind = 8 := by omega
                 have K8 := Ad hk8
                 have bq8 : ((kind : Int) == 8) = false := by simp; omega
                 clear hk8
                 go_wp2_with fail
                 go_end0
                 rw [TK.out]
                 simp only [if_true]
                 rw [if_neg K8.out]
                 exact ⟨rfl, F776, HN779.out, SN780.out⟩
           · have bq6 : ((kind : Int) == 6) = false := by simp; omega
             by_cases ho : kind = 8 /\ place = 6
             · have RES := Ad (show x.inFrame t 0 = y.over t2 from by rw [GE.out, Pl.Nd.within]; rw [if_neg (fun h => h.elim h4 (fun h => by rw [hadd] at h; exact absurd h (by decide)))]; rw [if_neg h6, if_pos ⟨ho.1, ho.2, rfl⟩])
               have e8 := ho.1
               have e6 := ho.2
               have bq8 : ((kind : Int) == 8) = true := by simp; omega
               have bp6 : ((place : Int) == 6) = true := by simp; omega
               clear ho e8 e6 h6 h4
               have TC788 := Ad (over_calls H3.out (by have := YK.out; omega))
               go_wp2_with fail
               refine TC788.out.mono ?_
               rintro e w789 ⟨rfl, F790, h791, s792⟩
               have HN793 := Ad h791
               have SN794 := Ad (St.trans S3.out s792)
               clear h791 s792 TC788
               go_wp2_with fail
               go_end0
               rw [RES.out]
               exact ⟨rfl, F790, HN793.out, SN794.out⟩
             · have RES := Ad (show x.inFrame t 0 = y.fail t2 7 true from by rw [GE.out, Pl.Nd.within]; rw [if_neg (fun h => h.elim h4 (fun h => by rw [hadd] at h; exact absurd h (by decide)))]; rw [if_neg h6, if_neg (fun h => ho ⟨h.1, h.2.1⟩), if_pos rfl])
               by_cases hk8 : kind = 8
               · have bq8 : ((kind : Int) == 8) = true := by simp; omega
                 have bp6 : ((place : Int) == 6) = false := by simp; omega
                 clear hk8 ho h6
                 have TC795 := Ad (fail_calls H3.out 7 true (by have := YK.out; omega))
                 go_wp2_with fail
                 refine TC795.out.mono ?_
                 rintro e w796 ⟨rfl, F797, h798, s799⟩
                 have HN800 := Ad h798
                 have SN801 := Ad (St.trans S3.out s799)
                 clear h798 s799 TC795
                 go_wp2_with fail
                 go_end0
                 rw [RES.out]
                 exact ⟨rfl, F797, HN800.out, SN801.out⟩
               · have bq8 : ((kind : Int) == 8) = false := by simp; omega
                 clear hk8 ho h6
                 have TC802 := Ad (fail_calls H3.out 7 true (by have := YK.out; omega))
                 go_wp2_with fail
                 refine TC802.out.mono ?_
                 rintro e w803 ⟨rfl, F804, h805, s806⟩
                 have HN807 := Ad h805
                 have SN808 := Ad (St.trans S3.out s806)
                 clear h805 s806 TC802
                 go_wp2_with fail
                 go_end0
                 rw [RES.out]
                 exact ⟨rfl, F804, HN807.out, SN808.out⟩
         · have wp := hadd
           obtain ⟨z, ok, hz⟩ : ∃ z ok, y.take 0 = (z, ok) := ⟨_, _, rfl⟩
           have TK := Ad (show x.inFrame t 0 = if ok then (if kind = 8 then z.ends t2 place else (z, t2)) else z.fail t2 5 true from by rw [GE.out, Pl.Nd.within]; rw [if_pos (.inr wp)]; unfold Pl.Nd.taken; simp only [hz])
           have ZE := Ad (fun h8 : x.kind = 8 => Pl.take_end x y 0 (by first | exact YR.out | rfl) h8)
           rw [hz] at ZE
           have TC809 := Ad (take_calls H3.out 0 (by simp) YB.out.1 YB.out.2)
           rw [hz] at TC809
           clear hz
           go_wp2_with fail
           refine TC809.out.mono ?_
           rintro e w810 ⟨rfl, F811, h812, s813⟩
           have HN814 := Ad h812
           have SN815 := Ad (St.trans S3.out s813)
           clear h812 s813 TC809
           cases ok
           · have TC816 := Ad (fail_calls HN814.out 5 true (by have := YK.out; omega))
             go_wp2_with fail
             refine TC816.out.mono ?_
             rintro e w817 ⟨rfl, F818, h819, s820⟩
             have HN821 := Ad h819
             have SN822 := Ad (St.trans SN815.out s820)
             clear h819 s820 TC816
             go_wp2_with fail
             go_end0
             rw [TK.out]
             simp only [Bool.false_eq_true, if_false]
             exact ⟨rfl, F818, HN821.out, SN822.out⟩
           · by_cases hk8 : kind = 8
             · have K8 := Ad hk8
               have bq8 : ((kind : Int) == 8) = true := by simp; omega
               clear hk8
               have TC823 := Ad (ends_calls HN814.out place (by have := YK.out; omega) (fun _ _ => ZE.out (by rw [KD.out]; exact K8.out)))
               go_wp2_with fail
               refine TC823.out.mono ?_
               rintro e w824 ⟨rfl, F825, h826, s827⟩
               have HN828 := Ad h826
               have SN829 := Ad (St.trans SN815.out s827)
               clear h826 s827 TC823
               go_wp2_with fail
               go_end0
               rw [TK.out]
               simp only [if_true]
               rw [if_pos K8.out]
               exact ⟨rfl, F825, HN828.out, SN829.out⟩
             · have K8 := Ad hk8
               have bq8 : ((kind : Int) == 8) = false := by simp; omega
               clear hk8
               go_wp2_with fail
               go_end0
               rw [TK.out]
               simp only [if_true]
               rw [if_neg K8.out]
               exact ⟨rfl, F811, HN814.out, SN815.out⟩
end
end
end Go.Proofs.YtjoehjclaonneaaGreat
