/- A part of the proof of TopReplay (no condition of its own). -/
import Derived.Test.YtjoehjclaonneaaGreatMG
import Derived.Test.YtjoehjclaonneaaGreatMA
namespace Go.Proofs.YtjoehjclaonneaaGreat
open Go.RowKit Go.Proofs.YtjoehjclaonneaaGreatW.PrintWords
set_option maxHeartbeats 8000000
set_option linter.unusedVariables false
set_option linter.unusedSimpArgs false
section
section
variable {w w1 : World} {b g gt : Nat} {F F1 : List Nat} {x x' : Pl.Nd} {t t' : Pl.Td} {v : Value} {e : Ending}
set_option maxRecDepth 100000 in
theorem inFrame_one (h : NT w b g gt F x t) (hreach : x.reach) (hlevel : x.level = 0 ∨ x.level = 1) (hlen : x.raw.length <= 1000000) (hrun : 0 <= x.run /\ x.run <= 1000) (ht : t.kinds.length <= 70) :
   Calls Tryz.prog 102 #[.pointer (some ⟨g, 0, none⟩), .pointer (some ⟨gt, 0, none⟩), .int .i64 1] w (Res w b g gt F (x.inFrame t 1).1 (x.inFrame t 1).2 (.tuple #[])) := by
 obtain ⟨L0, hL0⟩ := NT.node h
 have NX := Ad (nnext_calls w hL0)
 have NF := Ad (fun (w1 : World) (hc : Ch [] w w1) => nframe_calls w1 (hL0.on hc) hreach hlevel)
 have c8 : w.cell? ⟨g, 8, none⟩ = some (.bool x.sends) := hL0.cs.cell (by rfl)
 have hgl := hL0.cs.lt
 have HL0 := Ad hL0
 clear hL0
 have H := Ad h
 have BD := Ad (And.intro hlen hrun)
 clear h hreach hlen hrun
 have IF := Ad (show x.inFrame t 1 = if x.sends = true /\ (1 : Int) ≠ x.frame then (if (x.differs t 1).2.2 then (x.differs t 1).1.within (x.differs t 1).2.1 1 x.kind x.place x.added else ((x.differs t 1).1, (x.differs t 1).2.1)) else if (1 : Int) ≠ x.frame /\ x.frame = 0 then x.fail t 4 true else x.within t 1 x.kind x.place x.added from rfl)
 generalize hkd : x.kind = kind at *
 generalize hpl : x.place = place at *
 generalize had : x.added = added at *
 generalize hfr : x.frame = fr at *
 have KD := Ad hkd
 clear hkd hpl had hfr
 go_enter Tryz.func102, Tryz.ntmps102
 go_wp2_with fail
 refine NX.out.mono ?_
 rintro e w1 ⟨rfl, hC1⟩
 have NF1 := Ad (NF.out w1 hC1)
 have C1 := Ad hC1
 clear hC1 NX NF
 go_wp2_with fail
 refine NF1.out.mono ?_
 rintro e w2 ⟨rfl, hC2⟩
 have C2 := Ad (C1.out.then hC2)
 have H2 := Ad (NT.on H.out C2.out)
 have S2 := Ad (St.of (F := F) C2.out)
 have d8 : w2.cell? ⟨g, 8, none⟩ = some (.bool x.sends) := C2.out.cell c8 (by simp)
 clear hC2 NF1 C1 c8 hgl
 have hgl := (HL0.out.on C2.out).cs.lt
 clear HL0
 cases hs : x.sends
 · rw [hs] at d8 IF
   by_cases hf : (1 : Int) = fr
   · have HS := Ad hs
     have YR := Ad (show x.raw = x.raw from rfl)
     have YB := BD
     have YK := Ad ht
     have GE := Ad (show x.inFrame t 1 = x.within t 1 kind place added from by rw [IF.out]; rw [if_neg (fun h => absurd h.1 (by decide)), if_neg (fun h => h.1 hf)])
     have bf : ((1 : Int) == fr) = true := by simpa using hf
     have bn : ((1 : Int) != fr) = false := by simpa using hf
     clear hf
     clear IF BD ht hs
     obtain ⟨L830, hL831⟩ := NT.node H2.out
     have c832 : w2.cell? ⟨g, 8, none⟩ = some (.bool x.sends) := hL831.cs.cell (by rfl)
     have f833 := hL831.cs.free 8
     have c834 : w2.cell? ⟨g, 11, none⟩ = some (.int .i64 x.t) := hL831.cs.cell (by rfl)
     have f835 := hL831.cs.free 11
     have c836 : w2.cell? ⟨g, 12, none⟩ = some (.int .i64 x.r) := hL831.cs.cell (by rfl)
     have f837 := hL831.cs.free 12
     have c838 : w2.cell? ⟨g, 13, none⟩ = some (.bool x.off) := hL831.cs.cell (by rfl)
     have f839 := hL831.cs.free 13
     clear hL831
     rw [HS.out] at c832
     by_cases h4 : kind <= 4
     · have wp := h4
       have b4 : decide ((kind : Int) <= 4) = true := by simp; omega
       have i4 : (kind : Int) <= 4 := by omega
       obtain ⟨z, ok, hz⟩ : ∃ z ok, x.take 1 = (z, ok) := ⟨_, _, rfl⟩
       have TK := Ad (show x.inFrame t 1 = if ok then (if kind = 8 then z.ends t place else (z, t)) else z.fail t 5 true from by rw [GE.out, Pl.Nd.within]; rw [if_pos (.inl wp)]; unfold Pl.Nd.taken; simp only [hz])
       have ZE := Ad (fun h8 : x.kind = 8 => Pl.take_end x x 1 (by first | exact YR.out | rfl) h8)
       rw [hz] at ZE
       have TC840 := Ad (take_calls H2.out 1 (by simp) YB.out.1 YB.out.2)
       rw [hz] at TC840
       clear hz
       go_wp2_with fail
       refine TC840.out.mono ?_
       rintro e w841 ⟨rfl, F842, h843, s844⟩
       have HN845 := Ad h843
       have SN846 := Ad (St.trans S2.out s844)
       clear h843 s844 TC840
       cases ok
       · have TC847 := Ad (fail_calls HN845.out 5 true (by have := YK.out; omega))
         go_wp2_with fail
         refine TC847.out.mono ?_
         rintro e w848 ⟨rfl, F849, h850, s851⟩
         have HN852 := Ad h850
         have SN853 := Ad (St.trans SN846.out s851)
         clear h850 s851 TC847
         go_wp2_with fail
         go_end0
         rw [TK.out]
         simp only [Bool.false_eq_true, if_false]
         exact ⟨rfl, F849, HN852.out, SN853.out⟩
       · have hk8 : ¬ kind = 8 := by omega
         have K8 := Ad hk8
         have bq8 : ((kind : Int) == 8) = false := by simp; omega
         clear hk8
         go_wp2_with fail
         go_end0
         rw [TK.out]
         simp only [if_true]
         rw [if_neg K8.out]
         exact ⟨rfl, F842, HN845.out, SN846.out⟩
     · have b4 : decide ((kind : Int) <= 4) = false := by simp; omega
       have i4 : ¬ (kind : Int) <= 4 := by omega
       cases hadd : added
       · by_cases h6 : kind = 6
         · have bq6 : ((kind : Int) == 6) = true := by simp; omega
           obtain ⟨z, ok, hz⟩ : ∃ z ok, x.take 1 = (z, ok) := ⟨_, _, rfl⟩
           have TK := Ad (show x.inFrame t 1 = if ok then (if kind = 8 then z.ends t place else (z, t)) else z.fail t 5 true from by rw [GE.out, Pl.Nd.within]; rw [if_neg (fun h => h.elim h4 (fun h => by rw [hadd] at h; exact absurd h (by decide)))]; rw [if_pos h6, if_neg (by rw [HS.out]; decide)]; unfold Pl.Nd.taken; simp only [hz])
           have ZE := Ad (fun h8 : x.kind = 8 => Pl.take_end x x 1 (by first | exact YR.out | rfl) h8)
           rw [hz] at ZE
           have TC854 := Ad (take_calls H2.out 1 (by simp) YB.out.1 YB.out.2)
           rw [hz] at TC854
           clear hz
           go_wp2_with fail
           refine TC854.out.mono ?_
           rintro e w855 ⟨rfl, F856, h857, s858⟩
           have HN859 := Ad h857
           have SN860 := Ad (St.trans S2.out s858)
           clear h857 s858 TC854
           cases ok
           · have TC861 := Ad (fail_calls HN859.out 5 true (by have := YK.out; omega))
             go_wp2_with fail
             refine TC861.out.mono ?_
             rintro e w862 ⟨rfl, F863, h864, s865⟩
             have HN866 := Ad h864
             have SN867 := Ad (St.trans SN860.out s865)
             clear h864 s865 TC861
             go_wp2_with fail
             go_end0
             rw [TK.out]
             simp only [Bool.false_eq_true, if_false]
             exact ⟨rfl, F863, HN866.out, SN867.out⟩
           · have hk8 : ¬ kind = 8 := by omega
             have K8 := Ad hk8
             have bq8 : ((kind : Int) == 8) = false := by simp; omega
             clear hk8
             go_wp2_with fail
             go_end0
             rw [TK.out]
             simp only [if_true]
             rw [if_neg K8.out]
             exact ⟨rfl, F856, HN859.out, SN860.out⟩
         · have bq6 : ((kind : Int) == 6) = false := by simp; omega
           by_cases h7 : kind = 7
           · have bq8 : ((kind : Int) == 8) = false := by simp; omega
             have bq7 : ((kind : Int) == 7) = true := by simp; omega
             obtain ⟨L9, hL9⟩ := NT.node H2.out
             have RC := Ad (nright_calls w2 hL9)
             clear hL9
             cases hrt : Pl.rt x.raw
             · rw [hrt] at RC
               have RES := Ad (show x.inFrame t 1 = x.fail t 6 true from by rw [GE.out, Pl.Nd.within]; rw [if_neg (fun h => h.elim h4 (fun h => by rw [hadd] at h; exact absurd h (by decide)))]; rw [if_neg h6, if_neg (fun h => absurd h.2.2 (by decide)), if_neg (by decide), if_pos ⟨h7, HS.out, hrt⟩])
               clear hrt
               go_wp2_with fail
               refine RC.out.mono ?_
               rintro e w7 ⟨rfl, hC⟩
               have H7 := Ad (NT.on H2.out hC)
               have S7 := Ad (St.trans S2.out (St.of hC))
               clear hC RC
               have TC868 := Ad (fail_calls H7.out 6 true (by have := YK.out; omega))
               go_wp2_with fail
               refine TC868.out.mono ?_
               rintro e w869 ⟨rfl, F870, h871, s872⟩
               have HN873 := Ad h871
               have SN874 := Ad (St.trans S7.out s872)
               clear h871 s872 TC868
               go_wp2_with fail
               go_end0
               rw [RES.out]
               exact ⟨rfl, F870, HN873.out, SN874.out⟩
             · rw [hrt] at RC
               have HRT := Ad hrt
               clear hrt
               go_wp2_with fail
               refine RC.out.mono ?_
               rintro e w7 ⟨rfl, hC⟩
               have H7 := Ad (NT.on H2.out hC)
               have S7 := Ad (St.trans S2.out (St.of hC))
               clear hC RC
               obtain ⟨z, ok, hz⟩ : ∃ z ok, x.take 1 = (z, ok) := ⟨_, _, rfl⟩
               have TK := Ad (show x.inFrame t 1 = if ok then (if kind = 8 then z.ends t place else (z, t)) else z.fail t 5 true from by rw [GE.out, Pl.Nd.within]; rw [if_neg (fun h => h.elim h4 (fun h => by rw [hadd] at h; exact absurd h (by decide)))]; rw [if_neg h6, if_neg (fun h => absurd h.2.2 (by decide)), if_neg (by decide), if_neg (fun h => by rw [HRT.out] at h; exact absurd h.2.2 (by decide))]; unfold Pl.Nd.taken; simp only [hz])
               have ZE := Ad (fun h8 : x.kind = 8 => Pl.take_end x x 1 (by first | exact YR.out | rfl) h8)
               rw [hz] at ZE
               have TC875 := Ad (take_calls H7.out 1 (by simp) YB.out.1 YB.out.2)
               rw [hz] at TC875
               clear hz
               go_wp2_with fail
               refine TC875.out.mono ?_
               rintro e w876 ⟨rfl, F877, h878, s879⟩
               have HN880 := Ad h878
               have SN881 := Ad (St.trans S7.out s879)
               clear h878 s879 TC875
               cases ok
               · have TC882 := Ad (fail_calls HN880.out 5 true (by have := YK.out; omega))
                 go_wp2_with fail
                 refine TC882.out.mono ?_
                 rintro e w883 ⟨rfl, F884, h885, s886⟩
                 have HN887 := Ad h885
                 have SN888 := Ad (St.trans SN881.out s886)
                 clear h885 s886 TC882
                 go_wp2_with fail
                 go_end0
                 rw [TK.out]
                 simp only [Bool.false_eq_true, if_false]
                 exact ⟨rfl, F884, HN887.out, SN888.out⟩
               · have hk8 : ¬ kind = 8 := by omega
                 have K8 := Ad hk8
                 have bq8 : ((kind : Int) == 8) = false := by simp; omega
                 clear hk8
                 go_wp2_with fail
                 go_end0
                 rw [TK.out]
                 simp only [if_true]
                 rw [if_neg K8.out]
                 exact ⟨rfl, F877, HN880.out, SN881.out⟩
           · have bq7 : ((kind : Int) == 7) = false := by simp; omega
             by_cases hp8 : kind = 8
             · have bq8 : ((kind : Int) == 8) = true := by simp; omega
               have HP8 := Ad hp8
               have HP7 := Ad h7
               have HP4 := Ad h6
               clear hp8 h7 h6
               cases hp6 : ((place : Int) == 6)
               · obtain ⟨z, ok, hz⟩ : ∃ z ok, x.take 1 = (z, ok) := ⟨_, _, rfl⟩
                 have TK := Ad (show x.inFrame t 1 = if ok then (if kind = 8 then z.ends t place else (z, t)) else z.fail t 5 true from by rw [GE.out, Pl.Nd.within]; rw [if_neg (fun h => h.elim h4 (fun h => by rw [hadd] at h; exact absurd h (by decide)))]; rw [if_neg HP4.out, if_neg (fun h => absurd h.2.2 (by decide)), if_neg (by decide), if_neg (fun h => HP7.out h.1)]; unfold Pl.Nd.taken; simp only [hz])
                 have ZE := Ad (fun h8 : x.kind = 8 => Pl.take_end x x 1 (by first | exact YR.out | rfl) h8)
                 rw [hz] at ZE
                 have TC889 := Ad (take_calls H2.out 1 (by simp) YB.out.1 YB.out.2)
                 rw [hz] at TC889
                 clear hz
                 go_wp2_with fail
                 refine TC889.out.mono ?_
                 rintro e w890 ⟨rfl, F891, h892, s893⟩
                 have HN894 := Ad h892
                 have SN895 := Ad (St.trans S2.out s893)
                 clear h892 s893 TC889
                 cases ok
                 · have TC896 := Ad (fail_calls HN894.out 5 true (by have := YK.out; omega))
                   go_wp2_with fail
                   refine TC896.out.mono ?_
                   rintro e w897 ⟨rfl, F898, h899, s900⟩
                   have HN901 := Ad h899
                   have SN902 := Ad (St.trans SN895.out s900)
                   clear h899 s900 TC896
                   go_wp2_with fail
                   go_end0
                   rw [TK.out]
                   simp only [Bool.false_eq_true, if_false]
                   exact ⟨rfl, F898, HN901.out, SN902.out⟩
                 · have hk8 : kind = 8 := HP8.out
                   have K8 := Ad hk8
                   have bq8 : ((kind : Int) == 8) = true := by simp; omega
                   clear hk8
                   have TC903 := Ad (ends_calls HN894.out place (by have := YK.out; omega) (fun _ _ => ZE.out (by rw [KD.out]; exact K8.out)))
                   go_wp2_with fail
                   refine TC903.out.mono ?_
                   rintro e w904 ⟨rfl, F905, h906, s907⟩
                   have HN908 := Ad h906
                   have SN909 := Ad (St.trans SN895.out s907)
                   clear h906 s907 TC903
                   go_wp2_with fail
                   go_end0
                   rw [TK.out]
                   simp only [if_true]
                   rw [if_pos K8.out]
                   exact ⟨rfl, F905, HN908.out, SN909.out⟩
               · obtain ⟨z, ok, hz⟩ : ∃ z ok, x.take 1 = (z, ok) := ⟨_, _, rfl⟩
                 have TK := Ad (show x.inFrame t 1 = if ok then (if kind = 8 then z.ends t place else (z, t)) else z.fail t 5 true from by rw [GE.out, Pl.Nd.within]; rw [if_neg (fun h => h.elim h4 (fun h => by rw [hadd] at h; exact absurd h (by decide)))]; rw [if_neg HP4.out, if_neg (fun h => absurd h.2.2 (by decide)), if_neg (by decide), if_neg (fun h => HP7.out h.1)]; unfold Pl.Nd.taken; simp only [hz])
                 have ZE := Ad (fun h8 : x.kind = 8 => Pl.take_end x x 1 (by first | exact YR.out | rfl) h8)
                 rw [hz] at ZE
                 have TC910 := Ad (take_calls H2.out 1 (by simp) YB.out.1 YB.out.2)
                 rw [hz] at TC910
                 clear hz
                 go_wp2_with fail
                 refine TC910.out.mono ?_
                 rintro e w911 ⟨rfl, F912, h913, s914⟩
                 have HN915 := Ad h913
                 have SN916 := Ad (St.trans S2.out s914)
                 clear h913 s914 TC910
                 cases ok
                 · have TC917 := Ad (fail_calls HN915.out 5 true (by have := YK.out; omega))
                   go_wp2_with fail
                   refine TC917.out.mono ?_
                   rintro e w918 ⟨rfl, F919, h920, s921⟩
                   have HN922 := Ad h920
                   have SN923 := Ad (St.trans SN916.out s921)
                   clear h920 s921 TC917
                   go_wp2_with fail
                   go_end0
                   rw [TK.out]
                   simp only [Bool.false_eq_true, if_false]
                   exact ⟨rfl, F919, HN922.out, SN923.out⟩
                 · have hk8 : kind = 8 := HP8.out
                   have K8 := Ad hk8
                   have bq8 : ((kind : Int) == 8) = true := by simp; omega
                   clear hk8
                   have TC924 := Ad (ends_calls HN915.out place (by have := YK.out; omega) (fun _ _ => ZE.out (by rw [KD.out]; exact K8.out)))
                   go_wp2_with fail
                   refine TC924.out.mono ?_
                   rintro e w925 ⟨rfl, F926, h927, s928⟩
                   have HN929 := Ad h927
                   have SN930 := Ad (St.trans SN916.out s928)
                   clear h927 s928 TC924
                   go_wp2_with fail
                   go_end0
                   rw [TK.out]
                   simp only [if_true]
                   rw [if_pos K8.out]
                   exact ⟨rfl, F926, HN929.out, SN930.out⟩
             · have bq8 : ((kind : Int) == 8) = false := by simp; omega
               have HP8 := Ad hp8
               have HP7 := Ad h7
               have HP4 := Ad h6
               clear hp8 h7 h6
               obtain ⟨z, ok, hz⟩ : ∃ z ok, x.take 1 = (z, ok) := ⟨_, _, rfl⟩
               have TK := Ad (show x.inFrame t 1 = if ok then (if kind = 8 then z.ends t place else (z, t)) else z.fail t 5 true from by rw [GE.out, Pl.Nd.within]; rw [if_neg (fun h => h.elim h4 (fun h => by rw [hadd] at h; exact absurd h (by decide)))]; rw [if_neg HP4.out, if_neg (fun h => absurd h.2.2 (by decide)), if_neg (by decide), if_neg (fun h => HP7.out h.1)]; unfold Pl.Nd.taken; simp only [hz])
               have ZE := Ad (fun h8 : x.kind = 8 => Pl.take_end x x 1 (by first | exact YR.out | rfl) h8)
               rw [hz] at ZE
               have TC931 := Ad (take_calls H2.out 1 (by simp) YB.out.1 YB.out.2)
               rw [hz] at TC931
               clear hz
               go_wp2_with fail
               refine TC931.out.mono ?_
               rintro e w932 ⟨rfl, F933, h934, s935⟩
               have HN936 := Ad h934
               have SN937 := Ad (St.trans S2.out s935)
               clear h934 s935 TC931
               cases ok
               · have TC938 := Ad (fail_calls HN936.out 5 true (by have := YK.out; omega))
                 go_wp2_with fail
                 refine TC938.out.mono ?_
                 rintro e w939 ⟨rfl, F940, h941, s942⟩
                 have HN943 := Ad h941
                 have SN944 := Ad (St.trans SN937.out s942)
                 clear h941 s942 TC938
                 go_wp2_with fail
                 go_end0
                 rw [TK.out]
                 simp only [Bool.false_eq_true, if_false]
                 exact ⟨rfl, F940, HN943.out, SN944.out⟩
               · have hk8 : ¬ kind = 8 := HP8.out
                 have K8 := Ad hk8
                 have bq8 : ((kind : Int) == 8) = false := by simp; omega
                 clear hk8
                 go_wp2_with fail
                 go_end0
                 rw [TK.out]
                 simp only [if_true]
                 rw [if_neg K8.out]
                 exact ⟨rfl, F933, HN936.out, SN937.out⟩
       · have wp := hadd
         obtain ⟨z, ok, hz⟩ : ∃ z ok, x.take 1 = (z, ok) := ⟨_, _, rfl⟩
         have TK := Ad (show x.inFrame t 1 = if ok then (if kind = 8 then z.ends t place else (z, t)) else z.fail t 5 true from by rw [GE.out, Pl.Nd.within]; rw [if_pos (.inr wp)]; unfold Pl.Nd.taken; simp only [hz])
         have ZE := Ad (fun h8 : x.kind = 8 => Pl.take_end x x 1 (by first | exact YR.out | rfl) h8)
         rw [hz] at ZE
         have TC945 := Ad (take_calls H2.out 1 (by simp) YB.out.1 YB.out.2)
         rw [hz] at TC945
         clear hz
         go_wp2_with fail
         refine TC945.out.mono ?_
         rintro e w946 ⟨rfl, F947, h948, s949⟩
         have HN950 := Ad h948
         have SN951 := Ad (St.trans S2.out s949)
         clear h948 s949 TC945
         cases ok
         · have TC952 := Ad (fail_calls HN950.out 5 true (by have := YK.out; omega))
           go_wp2_with fail
           refine TC952.out.mono ?_
           rintro e w953 ⟨rfl, F954, h955, s956⟩
           have HN957 := Ad h955
           have SN958 := Ad (St.trans SN951.out s956)
           clear h955 s956 TC952
           go_wp2_with fail
           go_end0
           rw [TK.out]
           simp only [Bool.false_eq_true, if_false]
           exact ⟨rfl, F954, HN957.out, SN958.out⟩
         · by_cases hk8 : kind = 8
           · have K8 := Ad hk8
             have bq8 : ((kind : Int) == 8) = true := by simp; omega
             clear hk8
             have TC959 := Ad (ends_calls HN950.out place (by have := YK.out; omega) (fun _ _ => ZE.out (by rw [KD.out]; exact K8.out)))
             go_wp2_with fail
             refine TC959.out.mono ?_
             rintro e w960 ⟨rfl, F961, h962, s963⟩
             have HN964 := Ad h962
             have SN965 := Ad (St.trans SN951.out s963)
             clear h962 s963 TC959
             go_wp2_with fail
             go_end0
             rw [TK.out]
             simp only [if_true]
             rw [if_pos K8.out]
             exact ⟨rfl, F961, HN964.out, SN965.out⟩
           · have K8 := Ad hk8
             have bq8 : ((kind : Int) == 8) = false := by simp; omega
             clear hk8
             go_wp2_with fail
             go_end0
             rw [TK.out]
             simp only [if_true]
             rw [if_neg K8.out]
             exact ⟨rfl, F947, HN950.out, SN951.out⟩
   · have bf : ((1 : Int) == fr) = false := by simpa using hf
     have bn : ((1 : Int) != fr) = true := by simpa using hf
     by_cases h0 : fr = 0
     · have RES := Ad (show x.inFrame t 1 = x.fail t 4 true from by rw [IF.out, if_neg (fun h => absurd h.1 (by decide)), if_pos ⟨hf, h0⟩])
       have b0 : (fr == 0) = true := by simpa using h0
       clear h0 hf
       have TC966 := Ad (fail_calls H2.out 4 true (by omega))
       go_wp2_with fail
       refine TC966.out.mono ?_
       rintro e w967 ⟨rfl, F968, h969, s970⟩
       have HN971 := Ad h969
       have SN972 := Ad (St.trans S2.out s970)
       clear h969 s970 TC966
       go_wp2_with fail
       go_end0
       rw [RES.out]
       exact ⟨rfl, F968, HN971.out, SN972.out⟩
     · have HS := Ad hs
       have YR := Ad (show x.raw = x.raw from rfl)
       have YB := BD
       have YK := Ad ht
       have GE := Ad (show x.inFrame t 1 = x.within t 1 kind place added from by rw [IF.out]; rw [if_neg (fun h => absurd h.1 (by decide)), if_neg (fun h => h0 h.2)])
       have b0 : (fr == 0) = false := by simpa using h0
       clear h0 hf
       clear IF BD ht hs
       obtain ⟨L973, hL974⟩ := NT.node H2.out
       have c975 : w2.cell? ⟨g, 8, none⟩ = some (.bool x.sends) := hL974.cs.cell (by rfl)
       have f976 := hL974.cs.free 8
       have c977 : w2.cell? ⟨g, 11, none⟩ = some (.int .i64 x.t) := hL974.cs.cell (by rfl)
       have f978 := hL974.cs.free 11
       have c979 : w2.cell? ⟨g, 12, none⟩ = some (.int .i64 x.r) := hL974.cs.cell (by rfl)
       have f980 := hL974.cs.free 12
       have c981 : w2.cell? ⟨g, 13, none⟩ = some (.bool x.off) := hL974.cs.cell (by rfl)
       have f982 := hL974.cs.free 13
       clear hL974
       rw [HS.out] at c975
       by_cases h4 : kind <= 4
       · have wp := h4
         have b4 : decide ((kind : Int) <= 4) = true := by simp; omega
         have i4 : (kind : Int) <= 4 := by omega
         obtain ⟨z, ok, hz⟩ : ∃ z ok, x.take 1 = (z, ok) := ⟨_, _, rfl⟩
         have TK := Ad (show x.inFrame t 1 = if ok then (if kind = 8 then z.ends t place else (z, t)) else z.fail t 5 true from by rw [GE.out, Pl.Nd.within]; rw [if_pos (.inl wp)]; unfold Pl.Nd.taken; simp only [hz])
         have ZE := Ad (fun h8 : x.kind = 8 => Pl.take_end x x 1 (by first | exact YR.out | rfl) h8)
         rw [hz] at ZE
         have TC983 := Ad (take_calls H2.out 1 (by simp) YB.out.1 YB.out.2)
         rw [hz] at TC983
         clear hz
         go_wp2_with fail
         refine TC983.out.mono ?_
         rintro e w984 ⟨rfl, F985, h986, s987⟩
         have HN988 := Ad h986
         have SN989 := Ad (St.trans S2.out s987)
         clear h986 s987 TC983
         cases ok
         · have TC990 := Ad (fail_calls HN988.out 5 true (by have := YK.out; omega))
           go_wp2_with fail
           refine TC990.out.mono ?_
           rintro e w991 ⟨rfl, F992, h993, s994⟩
           have HN995 := Ad h993
           have SN996 := Ad (St.trans SN989.out s994)
           clear h993 s994 TC990
           go_wp2_with fail
           go_end0
           rw [TK.out]
           simp only [Bool.false_eq_true, if_false]
           exact ⟨rfl, F992, HN995.out, SN996.out⟩
         · have hk8 : ¬ kind = 8 := by omega
           have K8 := Ad hk8
           have bq8 : ((kind : Int) == 8) = false := by simp; omega
           clear hk8
           go_wp2_with fail
           go_end0
           rw [TK.out]
           simp only [if_true]
           rw [if_neg K8.out]
           exact ⟨rfl, F985, HN988.out, SN989.out⟩
       · have b4 : decide ((kind : Int) <= 4) = false := by simp; omega
         have i4 : ¬ (kind : Int) <= 4 := by omega
         cases hadd : added
         · by_cases h6 : kind = 6
           · have bq6 : ((kind : Int) == 6) = true := by simp; omega
             obtain ⟨z, ok, hz⟩ : ∃ z ok, x.take 1 = (z, ok) := ⟨_, _, rfl⟩
             have TK := Ad (show x.inFrame t 1 = if ok then (if kind = 8 then z.ends t place else (z, t)) else z.fail t 5 true from by rw [GE.out, Pl.Nd.within]; rw [if_neg (fun h => h.elim h4 (fun h => by rw [hadd] at h; exact absurd h (by decide)))]; rw [if_pos h6, if_neg (by rw [HS.out]; decide)]; unfold Pl.Nd.taken; simp only [hz])
             have ZE := Ad (fun h8 : x.kind = 8 => Pl.take_end x x 1 (by first | exact YR.out | rfl) h8)
             rw [hz] at ZE
             have TC997 := Ad (take_calls H2.out 1 (by simp) YB.out.1 YB.out.2)
             rw [hz] at TC997
             clear hz
             go_wp2_with fail
             refine TC997.out.mono ?_
             rintro e w998 ⟨rfl, F999, h1000, s1001⟩
             have HN1002 := Ad h1000
             have SN1003 := Ad (St.trans S2.out s1001)
             clear h1000 s1001 TC997
             cases ok
             · have TC1004 := Ad (fail_calls HN1002.out 5 true (by have := YK.out; omega))
               go_wp2_with fail
               refine TC1004.out.mono ?_
               rintro e w1005 ⟨rfl, F1006, h1007, s1008⟩
               have HN1009 := Ad h1007
               have SN1010 := Ad (St.trans SN1003.out s1008)
               clear h1007 s1008 TC1004
               go_wp2_with fail
               go_end0
               rw [TK.out]
               simp only [Bool.false_eq_true, if_false]
               exact ⟨rfl, F1006, HN1009.out, SN1010.out⟩
             · have hk8 : ¬ kind = 8 := by omega
               have K8 := Ad hk8
               have bq8 : ((kind : Int) == 8) = false := by simp; omega
               clear hk8
               go_wp2_with fail
               go_end0
               rw [TK.out]
               simp only [if_true]
               rw [if_neg K8.out]
               exact ⟨rfl, F999, HN1002.out, SN1003.out⟩
           · have bq6 : ((kind : Int) == 6) = false := by simp; omega
             by_cases h7 : kind = 7
             · have bq8 : ((kind : Int) == 8) = false := by simp; omega
               have bq7 : ((kind : Int) == 7) = true := by simp; omega
               obtain ⟨L9, hL9⟩ := NT.node H2.out
               have RC := Ad (nright_calls w2 hL9)
               clear hL9
               cases hrt : Pl.rt x.raw
               · rw [hrt] at RC
                 have RES := Ad (show x.inFrame t 1 = x.fail t 6 true from by rw [GE.out, Pl.Nd.within]; rw [if_neg (fun h => h.elim h4 (fun h => by rw [hadd] at h; exact absurd h (by decide)))]; rw [if_neg h6, if_neg (fun h => absurd h.2.2 (by decide)), if_neg (by decide), if_pos ⟨h7, HS.out, hrt⟩])
                 clear hrt
                 go_wp2_with fail
                 refine RC.out.mono ?_
                 rintro e w7 ⟨rfl, hC⟩
                 have H7 := Ad (NT.on H2.out hC)
                 have S7 := Ad (St.trans S2.out (St.of hC))
                 clear hC RC
                 have TC1011 := Ad (fail_calls H7.out 6 true (by have := YK.out; omega))
                 go_wp2_with fail
                 refine TC1011.out.mono ?_
                 rintro e w1012 ⟨rfl, F1013, h1014, s1015⟩
                 have HN1016 := Ad h1014
                 have SN1017 := Ad (St.trans S7.out s1015)
                 clear h1014 s1015 TC1011
                 go_wp2_with fail
                 go_end0
                 rw [RES.out]
                 exact ⟨rfl, F1013, HN1016.out, SN1017.out⟩
               · rw [hrt] at RC
                 have HRT := Ad hrt
                 clear hrt
                 go_wp2_with fail
                 refine RC.out.mono ?_
                 rintro e w7 ⟨rfl, hC⟩
                 have H7 := Ad (NT.on H2.out hC)
                 have S7 := Ad (St.trans S2.out (St.of hC))
                 clear hC RC
                 obtain ⟨z, ok, hz⟩ : ∃ z ok, x.take 1 = (z, ok) := ⟨_, _, rfl⟩
                 have TK := Ad (show x.inFrame t 1 = if ok then (if kind = 8 then z.ends t place else (z, t)) else z.fail t 5 true from by rw [GE.out, Pl.Nd.within]; rw [if_neg (fun h => h.elim h4 (fun h => by rw [hadd] at h; exact absurd h (by decide)))]; rw [if_neg h6, if_neg (fun h => absurd h.2.2 (by decide)), if_neg (by decide), if_neg (fun h => by rw [HRT.out] at h; exact absurd h.2.2 (by decide))]; unfold Pl.Nd.taken; simp only [hz])
                 have ZE := Ad (fun h8 : x.kind = 8 => Pl.take_end x x 1 (by first | exact YR.out | rfl) h8)
                 rw [hz] at ZE
                 have TC1018 := Ad (take_calls H7.out 1 (by simp) YB.out.1 YB.out.2)
                 rw [hz] at TC1018
                 clear hz
                 go_wp2_with fail
                 refine TC1018.out.mono ?_
                 rintro e w1019 ⟨rfl, F1020, h1021, s1022⟩
                 have HN1023 := Ad h1021
                 have SN1024 := Ad (St.trans S7.out s1022)
                 clear h1021 s1022 TC1018
                 cases ok
                 · have TC1025 := Ad (fail_calls HN1023.out 5 true (by have := YK.out; omega))
                   go_wp2_with fail
                   refine TC1025.out.mono ?_
                   rintro e w1026 ⟨rfl, F1027, h1028, s1029⟩
                   have HN1030 := Ad h1028
                   have SN1031 := Ad (St.trans SN1024.out s1029)
                   clear h1028 s1029 TC1025
                   go_wp2_with fail
                   go_end0
                   rw [TK.out]
                   simp only [Bool.false_eq_true, if_false]
                   exact ⟨rfl, F1027, HN1030.out, SN1031.out⟩
                 · have hk8 : ¬ kind = 8 := by omega
                   have K8 := Ad hk8
                   have bq8 : ((kind : Int) == 8) = false := by simp; omega
                   clear hk8
                   go_wp2_with fail
                   go_end0
                   rw [TK.out]
                   simp only [if_true]
                   rw [if_neg K8.out]
                   exact ⟨rfl, F1020, HN1023.out, SN1024.out⟩
             · have bq7 : ((kind : Int) == 7) = false := by simp; omega
               by_cases hp8 : kind = 8
               · have bq8 : ((kind : Int) == 8) = true := by simp; omega
                 have HP8 := Ad hp8
                 have HP7 := Ad h7
                 have HP4 := Ad h6
                 clear hp8 h7 h6
                 cases hp6 : ((place : Int) == 6)
                 · obtain ⟨z, ok, hz⟩ : ∃ z ok, x.take 1 = (z, ok) := ⟨_, _, rfl⟩
                   have TK := Ad (show x.inFrame t 1 = if ok then (if kind = 8 then z.ends t place else (z, t)) else z.fail t 5 true from by rw [GE.out, Pl.Nd.within]; rw [if_neg (fun h => h.elim h4 (fun h => by rw [hadd] at h; exact absurd h (by decide)))]; rw [if_neg HP4.out, if_neg (fun h => absurd h.2.2 (by decide)), if_neg (by decide), if_neg (fun h => HP7.out h.1)]; unfold Pl.Nd.taken; simp only [hz])
                   have ZE := Ad (fun h8 : x.kind = 8 => Pl.take_end x x 1 (by first | exact YR.out | rfl) h8)
                   rw [hz] at ZE
                   have TC1032 := Ad (take_calls H2.out 1 (by simp) YB.out.1 YB.out.2)
                   rw [hz] at TC1032
                   clear hz
                   go_wp2_with fail
                   refine TC1032.out.mono ?_
                   rintro e w1033 ⟨rfl, F1034, h1035, s1036⟩
                   have HN1037 := Ad h1035
                   have SN1038 := Ad (St.trans S2.out s1036)
                   clear h1035 s1036 TC1032
                   cases ok
                   · have TC1039 := Ad (fail_calls HN1037.out 5 true (by have := YK.out; omega))
                     go_wp2_with fail
                     refine TC1039.out.mono ?_
                     rintro e w1040 ⟨rfl, F1041, h1042, s1043⟩
                     have HN1044 := Ad h1042
                     have SN1045 := Ad (St.trans SN1038.out s1043)
                     clear h1042 s1043 TC1039
                     go_wp2_with fail
                     go_end0
                     rw [TK.out]
                     simp only [Bool.false_eq_true, if_false]
                     exact ⟨rfl, F1041, HN1044.out, SN1045.out⟩
                   · have hk8 : kind = 8 := HP8.out
                     have K8 := Ad hk8
                     have bq8 : ((kind : Int) == 8) = true := by simp; omega
                     clear hk8
                     have TC1046 := Ad (ends_calls HN1037.out place (by have := YK.out; omega) (fun _ _ => ZE.out (by rw [KD.out]; exact K8.out)))
                     go_wp2_with fail
                     refine TC1046.out.mono ?_
                     rintro e w1047 ⟨rfl, F1048, h1049, s1050⟩
                     have HN1051 := Ad h1049
                     have SN1052 := Ad (St.trans SN1038.out s1050)
                     clear h1049 s1050 TC1046
                     go_wp2_with fail
                     go_end0
                     rw [TK.out]
                     simp only [if_true]
                     rw [if_pos K8.out]
                     exact ⟨rfl, F1048, HN1051.out, SN1052.out⟩
                 · obtain ⟨z, ok, hz⟩ : ∃ z ok, x.take 1 = (z, ok) := ⟨_, _, rfl⟩
                   have TK := Ad (show x.inFrame t 1 = if ok then (if kind = 8 then z.ends t place else (z, t)) else z.fail t 5 true from by rw [GE.out, Pl.Nd.within]; rw [if_neg (fun h => h.elim h4 (fun h => by rw [hadd] at h; exact absurd h (by decide)))]; rw [if_neg HP4.out, if_neg (fun h => absurd h.2.2 (by decide)), if_neg (by decide), if_neg (fun h => HP7.out h.1)]; unfold Pl.Nd.taken; simp only [hz])
                   have ZE := Ad (fun h8 : x.kind = 8 => Pl.take_end x x 1 (by first | exact YR.out | rfl) h8)
                   rw [hz] at ZE
                   have TC1053 := Ad (take_calls H2.out 1 (by simp) YB.out.1 YB.out.2)
                   rw [hz] at TC1053
                   clear hz
                   go_wp2_with fail
                   refine TC1053.out.mono ?_
                   rintro e w1054 ⟨rfl, F1055, h1056, s1057⟩
                   have HN1058 := Ad h1056
                   have SN1059 := Ad (St.trans S2.out s1057)
                   clear h1056 s1057 TC1053
                   cases ok
                   · have TC1060 := Ad (fail_calls HN1058.out 5 true (by have := YK.out; omega))
                     go_wp2_with fail
                     refine TC1060.out.mono ?_
                     rintro e w1061 ⟨rfl, F1062, h1063, s1064⟩
                     have HN1065 := Ad h1063
                     have SN1066 := Ad (St.trans SN1059.out s1064)
                     clear h1063 s1064 TC1060
                     go_wp2_with fail
                     go_end0
                     rw [TK.out]
                     simp only [Bool.false_eq_true, if_false]
                     exact ⟨rfl, F1062, HN1065.out, SN1066.out⟩
                   · have hk8 : kind = 8 := HP8.out
                     have K8 := Ad hk8
                     have bq8 : ((kind : Int) == 8) = true := by simp; omega
                     clear hk8
                     have TC1067 := Ad (ends_calls HN1058.out place (by have := YK.out; omega) (fun _ _ => ZE.out (by rw [KD.out]; exact K8.out)))
                     go_wp2_with fail
                     refine TC1067.out.mono ?_
                     rintro e w1068 ⟨rfl, F1069, h1070, s1071⟩
                     have HN1072 := Ad h1070
                     have SN1073 := Ad (St.trans SN1059.out s1071)
                     clear h1070 s1071 TC1067
                     go_wp2_with fail
                     go_end0
                     rw [TK.out]
                     simp only [if_true]
                     rw [if_pos K8.out]
                     exact ⟨rfl, F1069, HN1072.out, SN1073.out⟩
               · have bq8 : ((kind : Int) == 8) = false := by simp; omega
                 have HP8 := Ad hp8
                 have HP7 := Ad h7
                 have HP4 := Ad h6
                 clear hp8 h7 h6
                 obtain ⟨z, ok, hz⟩ : ∃ z ok, x.take 1 = (z, ok) := ⟨_, _, rfl⟩
                 have TK := Ad (show x.inFrame t 1 = if ok then (if kind = 8 then z.ends t place else (z, t)) else z.fail t 5 true from by rw [GE.out, Pl.Nd.within]; rw [if_neg (fun h => h.elim h4 (fun h => by rw [hadd] at h; exact absurd h (by decide)))]; rw [if_neg HP4.out, if_neg (fun h => absurd h.2.2 (by decide)), if_neg (by decide), if_neg (fun h => HP7.out h.1)]; unfold Pl.Nd.taken; simp only [hz])
                 have ZE := Ad (fun h8 : x.kind = 8 => Pl.take_end x x 1 (by first | exact YR.out | rfl) h8)
                 rw [hz] at ZE
                 have TC1074 := Ad (take_calls H2.out 1 (by simp) YB.out.1 YB.out.2)
                 rw [hz] at TC1074
                 clear hz
                 go_wp2_with fail
                 refine TC1074.out.mono ?_
                 rintro e w1075 ⟨rfl, F1076, h1077, s1078⟩
                 have HN1079 := Ad h1077
                 have SN1080 := Ad (St.trans S2.out s1078)
                 clear h1077 s1078 TC1074
                 cases ok
                 · have TC1081 := Ad (fail_calls HN1079.out 5 true (by have := YK.out; omega))
                   go_wp2_with fail
                   refine TC1081.out.mono ?_
                   rintro e w1082 ⟨rfl, F1083, h1084, s1085⟩
                   have HN1086 := Ad h1084
                   have SN1087 := Ad (St.trans SN1080.out s1085)
                   clear h1084 s1085 TC1081
                   go_wp2_with fail
                   go_end0
                   rw [TK.out]
                   simp only [Bool.false_eq_true, if_false]
                   exact ⟨rfl, F1083, HN1086.out, SN1087.out⟩
                 · have hk8 : ¬ kind = 8 := HP8.out
                   have K8 := Ad hk8
                   have bq8 : ((kind : Int) == 8) = false := by simp; omega
                   clear hk8
                   go_wp2_with fail
                   go_end0
                   rw [TK.out]
                   simp only [if_true]
                   rw [if_neg K8.out]
                   exact ⟨rfl, F1076, HN1079.out, SN1080.out⟩
         · have wp := hadd
           obtain ⟨z, ok, hz⟩ : ∃ z ok, x.take 1 = (z, ok) := ⟨_, _, rfl⟩
           have TK := Ad (show x.inFrame t 1 = if ok then (if kind = 8 then z.ends t place else (z, t)) else z.fail t 5 true from by rw [GE.out, Pl.Nd.within]; rw [if_pos (.inr wp)]; unfold Pl.Nd.taken; simp only [hz])
           have ZE := Ad (fun h8 : x.kind = 8 => Pl.take_end x x 1 (by first | exact YR.out | rfl) h8)
           rw [hz] at ZE
           have TC1088 := Ad (take_calls H2.out 1 (by simp) YB.out.1 YB.out.2)
           rw [hz] at TC1088
           clear hz
           go_wp2_with fail
           refine TC1088.out.mono ?_
           rintro e w1089 ⟨rfl, F1090, h1091, s1092⟩
           have HN1093 := Ad h1091
           have SN1094 := Ad (St.trans S2.out s1092)
           clear h1091 s1092 TC1088
           cases ok
           · have TC1095 := Ad (fail_calls HN1093.out 5 true (by have := YK.out; omega))
             go_wp2_with fail
             refine TC1095.out.mono ?_
             rintro e w1096 ⟨rfl, F1097, h1098, s1099⟩
             have HN1100 := Ad h1098
             have SN1101 := Ad (St.trans SN1094.out s1099)
             clear h1098 s1099 TC1095
             go_wp2_with fail
             go_end0
             rw [TK.out]
             simp only [Bool.false_eq_true, if_false]
             exact ⟨rfl, F1097, HN1100.out, SN1101.out⟩
           · by_cases hk8 : kind = 8
             · have K8 := Ad hk8
               have bq8 : ((kind : Int) == 8) = true := by simp; omega
               clear hk8
               have TC1102 := Ad (ends_calls HN1093.out place (by have := YK.out; omega) (fun _ _ => ZE.out (by rw [KD.out]; exact K8.out)))
               go_wp2_with fail
               refine TC1102.out.mono ?_
               rintro e w1103 ⟨rfl, F1104, h1105, s1106⟩
               have HN1107 := Ad h1105
               have SN1108 := Ad (St.trans SN1094.out s1106)
               clear h1105 s1106 TC1102
               go_wp2_with fail
               go_end0
               rw [TK.out]
               simp only [if_true]
               rw [if_pos K8.out]
               exact ⟨rfl, F1104, HN1107.out, SN1108.out⟩
             · have K8 := Ad hk8
               have bq8 : ((kind : Int) == 8) = false := by simp; omega
               clear hk8
               go_wp2_with fail
               go_end0
               rw [TK.out]
               simp only [if_true]
               rw [if_neg K8.out]
               exact ⟨rfl, F1090, HN1093.out, SN1094.out⟩
 · rw [hs] at d8 IF
   by_cases hf : (1 : Int) = fr
   · have HS := Ad hs
     have YR := Ad (show x.raw = x.raw from rfl)
     have YB := BD
     have YK := Ad ht
     have GE := Ad (show x.inFrame t 1 = x.within t 1 kind place added from by rw [IF.out]; rw [if_neg (fun h => h.2 hf), if_neg (fun h => h.1 hf)])
     have bf : ((1 : Int) == fr) = true := by simpa using hf
     have bn : ((1 : Int) != fr) = false := by simpa using hf
     clear hf
     clear IF BD ht hs
     obtain ⟨L1109, hL1110⟩ := NT.node H2.out
     have c1111 : w2.cell? ⟨g, 8, none⟩ = some (.bool x.sends) := hL1110.cs.cell (by rfl)
     have f1112 := hL1110.cs.free 8
     have c1113 : w2.cell? ⟨g, 11, none⟩ = some (.int .i64 x.t) := hL1110.cs.cell (by rfl)
     have f1114 := hL1110.cs.free 11
     have c1115 : w2.cell? ⟨g, 12, none⟩ = some (.int .i64 x.r) := hL1110.cs.cell (by rfl)
     have f1116 := hL1110.cs.free 12
     have c1117 : w2.cell? ⟨g, 13, none⟩ = some (.bool x.off) := hL1110.cs.cell (by rfl)
     have f1118 := hL1110.cs.free 13
     clear hL1110
     rw [HS.out] at c1111
     by_cases h4 : kind <= 4
     · have wp := h4
       have b4 : decide ((kind : Int) <= 4) = true := by simp; omega
       have i4 : (kind : Int) <= 4 := by omega
       obtain ⟨z, ok, hz⟩ : ∃ z ok, x.take 1 = (z, ok) := ⟨_, _, rfl⟩
       have TK := Ad (show x.inFrame t 1 = if ok then (if kind = 8 then z.ends t place else (z, t)) else z.fail t 5 true from by rw [GE.out, Pl.Nd.within]; rw [if_pos (.inl wp)]; unfold Pl.Nd.taken; simp only [hz])
       have ZE := Ad (fun h8 : x.kind = 8 => Pl.take_end x x 1 (by first | exact YR.out | rfl) h8)
       rw [hz] at ZE
       have TC1119 := Ad (take_calls H2.out 1 (by simp) YB.out.1 YB.out.2)
       rw [hz] at TC1119
       clear hz
       go_wp2_with fail
       refine TC1119.out.mono ?_
       rintro e w1120 ⟨rfl, F1121, h1122, s1123⟩
       have HN1124 := Ad h1122
       have SN1125 := Ad (St.trans S2.out s1123)
       clear h1122 s1123 TC1119
       cases ok
       · have TC1126 := Ad (fail_calls HN1124.out 5 true (by have := YK.out; omega))
         go_wp2_with fail
         refine TC1126.out.mono ?_
         rintro e w1127 ⟨rfl, F1128, h1129, s1130⟩
         have HN1131 := Ad h1129
         have SN1132 := Ad (St.trans SN1125.out s1130)
         clear h1129 s1130 TC1126
         go_wp2_with fail
         go_end0
         rw [TK.out]
         simp only [Bool.false_eq_true, if_false]
         exact ⟨rfl, F1128, HN1131.out, SN1132.out⟩
       · have hk8 : ¬ kind = 8 := by omega
         have K8 := Ad hk8
         have bq8 : ((kind : Int) == 8) = false := by simp; omega
         clear hk8
         go_wp2_with fail
         go_end0
         rw [TK.out]
         simp only [if_true]
         rw [if_neg K8.out]
         exact ⟨rfl, F1121, HN1124.out, SN1125.out⟩
     · have b4 : decide ((kind : Int) <= 4) = false := by simp; omega
       have i4 : ¬ (kind : Int) <= 4 := by omega
       cases hadd : added
       · by_cases h6 : kind = 6
         · have bq6 : ((kind : Int) == 6) = true := by simp; omega
           have SC := Ad (Ct.state_calls x.t x.r x.off x.state rfl w2)
           unfold Ct.cv at SC
           generalize hst : x.state = st at *
           have TK := Ad (show x.inFrame t 1 = ({ (x.fail t 8 (!decide (st = 1))).1 with owed := decide (st = 1) }, (x.fail t 8 (!decide (st = 1))).2) from by rw [GE.out, Pl.Nd.within]; rw [if_neg (fun h => h.elim h4 (fun h => by rw [hadd] at h; exact absurd h (by decide)))]; rw [if_pos h6, if_pos (by rw [HS.out]; rfl)]; simp only []; rw [hst])
           clear h6
           by_cases hp : st = 1
           · have RES := Ad (show x.inFrame t 1 = ({ (x.fail t 8 false).1 with owed := true }, (x.fail t 8 false).2) from by rw [TK.out]; simp [hp])
             have bp : (st == 1) = true := by simpa using hp
             clear hp TK
             go_wp2_with fail
             refine SC.out.mono ?_
             rintro e w7 ⟨rfl, hB⟩
             have H7 := Ad (NT.on H2.out (Ch.of_below hB))
             have S7 := Ad (St.trans S2.out (St.of (Ch.of_below hB)))
             clear hB SC
             have TC1133 := Ad (fail_calls H7.out 8 false (by have := YK.out; omega))
             go_wp2_with fail
             refine TC1133.out.mono ?_
             rintro e w1134 ⟨rfl, F1135, h1136, s1137⟩
             have HN1138 := Ad h1136
             have SN1139 := Ad (St.trans S7.out s1137)
             clear h1136 s1137 TC1133
             obtain ⟨L1140, hL1141⟩ := NT.node HN1138.out
             have c1142 : w1134.cell? ⟨g, 9, none⟩ = some (.bool (x.fail t 8 false).1.owed) := hL1141.cs.cell (by rfl)
             have f1143 := hL1141.cs.free 9
             clear hL1141
             have h1144 := NT.set HN1138.out 9 (.bool true) { (x.fail t 8 false).1 with owed := true } (fun _ => rfl) rfl rfl rfl
             have HN1145 := Ad h1144.1
             have SN1146 := Ad (St.trans SN1139.out h1144.2)
             clear h1144
             go_wp2_with fail
             go_end0
             rw [RES.out]
             exact ⟨rfl, F1135, HN1145.out, SN1146.out⟩
           · have RES := Ad (show x.inFrame t 1 = ({ (x.fail t 8 true).1 with owed := false }, (x.fail t 8 true).2) from by rw [TK.out]; simp [hp])
             have bp : (st == 1) = false := by simpa using hp
             clear hp TK
             go_wp2_with fail
             refine SC.out.mono ?_
             rintro e w7 ⟨rfl, hB⟩
             have H7 := Ad (NT.on H2.out (Ch.of_below hB))
             have S7 := Ad (St.trans S2.out (St.of (Ch.of_below hB)))
             clear hB SC
             have TC1147 := Ad (fail_calls H7.out 8 true (by have := YK.out; omega))
             go_wp2_with fail
             refine TC1147.out.mono ?_
             rintro e w1148 ⟨rfl, F1149, h1150, s1151⟩
             have HN1152 := Ad h1150
             have SN1153 := Ad (St.trans S7.out s1151)
             clear h1150 s1151 TC1147
             obtain ⟨L1154, hL1155⟩ := NT.node HN1152.out
             have c1156 : w1148.cell? ⟨g, 9, none⟩ = some (.bool (x.fail t 8 true).1.owed) := hL1155.cs.cell (by rfl)
             have f1157 := hL1155.cs.free 9
             clear hL1155
             have h1158 := NT.set HN1152.out 9 (.bool false) { (x.fail t 8 true).1 with owed := false } (fun _ => rfl) rfl rfl rfl
             have HN1159 := Ad h1158.1
             have SN1160 := Ad (St.trans SN1153.out h1158.2)
             clear h1158
             go_wp2_with fail
             go_end0
             rw [RES.out]
             exact ⟨rfl, F1149, HN1159.out, SN1160.out⟩
         · have bq6 : ((kind : Int) == 6) = false := by simp; omega
           by_cases h7 : kind = 7
           · have bq8 : ((kind : Int) == 8) = false := by simp; omega
             have bq7 : ((kind : Int) == 7) = true := by simp; omega
             obtain ⟨z, ok, hz⟩ : ∃ z ok, x.take 1 = (z, ok) := ⟨_, _, rfl⟩
             have TK := Ad (show x.inFrame t 1 = if ok then (if kind = 8 then z.ends t place else (z, t)) else z.fail t 5 true from by rw [GE.out, Pl.Nd.within]; rw [if_neg (fun h => h.elim h4 (fun h => by rw [hadd] at h; exact absurd h (by decide)))]; rw [if_neg h6, if_neg (fun h => absurd h.2.2 (by decide)), if_neg (by decide), if_neg (fun h => by rw [HS.out] at h; exact absurd h.2.1 (by decide))]; unfold Pl.Nd.taken; simp only [hz])
             have ZE := Ad (fun h8 : x.kind = 8 => Pl.take_end x x 1 (by first | exact YR.out | rfl) h8)
             rw [hz] at ZE
             have TC1161 := Ad (take_calls H2.out 1 (by simp) YB.out.1 YB.out.2)
             rw [hz] at TC1161
             clear hz
             go_wp2_with fail
             refine TC1161.out.mono ?_
             rintro e w1162 ⟨rfl, F1163, h1164, s1165⟩
             have HN1166 := Ad h1164
             have SN1167 := Ad (St.trans S2.out s1165)
             clear h1164 s1165 TC1161
             cases ok
             · have TC1168 := Ad (fail_calls HN1166.out 5 true (by have := YK.out; omega))
               go_wp2_with fail
               refine TC1168.out.mono ?_
               rintro e w1169 ⟨rfl, F1170, h1171, s1172⟩
               have HN1173 := Ad h1171
               have SN1174 := Ad (St.trans SN1167.out s1172)
               clear h1171 s1172 TC1168
               go_wp2_with fail
               go_end0
               rw [TK.out]
               simp only [Bool.false_eq_true, if_false]
               exact ⟨rfl, F1170, HN1173.out, SN1174.out⟩
             · have hk8 : ¬ kind = 8 := by omega
               have K8 := Ad hk8
               have bq8 : ((kind : Int) == 8) = false := by simp; omega
               clear hk8
               go_wp2_with fail
               go_end0
               rw [TK.out]
               simp only [if_true]
               rw [if_neg K8.out]
               exact ⟨rfl, F1163, HN1166.out, SN1167.out⟩
           · have bq7 : ((kind : Int) == 7) = false := by simp; omega
             by_cases hp8 : kind = 8
             · have bq8 : ((kind : Int) == 8) = true := by simp; omega
               have HP8 := Ad hp8
               have HP7 := Ad h7
               have HP4 := Ad h6
               clear hp8 h7 h6
               cases hp6 : ((place : Int) == 6)
               · obtain ⟨z, ok, hz⟩ : ∃ z ok, x.take 1 = (z, ok) := ⟨_, _, rfl⟩
                 have TK := Ad (show x.inFrame t 1 = if ok then (if kind = 8 then z.ends t place else (z, t)) else z.fail t 5 true from by rw [GE.out, Pl.Nd.within]; rw [if_neg (fun h => h.elim h4 (fun h => by rw [hadd] at h; exact absurd h (by decide)))]; rw [if_neg HP4.out, if_neg (fun h => absurd h.2.2 (by decide)), if_neg (by decide), if_neg (fun h => HP7.out h.1)]; unfold Pl.Nd.taken; simp only [hz])
                 have ZE := Ad (fun h8 : x.kind = 8 => Pl.take_end x x 1 (by first | exact YR.out | rfl) h8)
                 rw [hz] at ZE
                 have TC1175 := Ad (take_calls H2.out 1 (by simp) YB.out.1 YB.out.2)
                 rw [hz] at TC1175
                 clear hz
                 go_wp2_with fail
                 refine TC1175.out.mono ?_
                 rintro e w1176 ⟨rfl, F1177, h1178, s1179⟩
                 have HN1180 := Ad h1178
                 have SN1181 := Ad (St.trans S2.out s1179)
                 clear h1178 s1179 TC1175
                 cases ok
                 · have TC1182 := Ad (fail_calls HN1180.out 5 true (by have := YK.out; omega))
                   go_wp2_with fail
                   refine TC1182.out.mono ?_
                   rintro e w1183 ⟨rfl, F1184, h1185, s1186⟩
                   have HN1187 := Ad h1185
                   have SN1188 := Ad (St.trans SN1181.out s1186)
                   clear h1185 s1186 TC1182
                   go_wp2_with fail
                   go_end0
                   rw [TK.out]
                   simp only [Bool.false_eq_true, if_false]
                   exact ⟨rfl, F1184, HN1187.out, SN1188.out⟩
                 · have hk8 : kind = 8 := HP8.out
                   have K8 := Ad hk8
                   have bq8 : ((kind : Int) == 8) = true := by simp; omega
                   clear hk8
                   have TC1189 := Ad (ends_calls HN1180.out place (by have := YK.out; omega) (fun _ _ => ZE.out (by rw [KD.out]; exact K8.out)))
                   go_wp2_with fail
                   refine TC1189.out.mono ?_
                   rintro e w1190 ⟨rfl, F1191, h1192, s1193⟩
                   have HN1194 := Ad h1192
                   have SN1195 := Ad (St.trans SN1181.out s1193)
                   clear h1192 s1193 TC1189
                   go_wp2_with fail
                   go_end0
                   rw [TK.out]
                   simp only [if_true]
                   rw [if_pos K8.out]
                   exact ⟨rfl, F1191, HN1194.out, SN1195.out⟩
               · obtain ⟨z, ok, hz⟩ : ∃ z ok, x.take 1 = (z, ok) := ⟨_, _, rfl⟩
                 have TK := Ad (show x.inFrame t 1 = if ok then (if kind = 8 then z.ends t place else (z, t)) else z.fail t 5 true from by rw [GE.out, Pl.Nd.within]; rw [if_neg (fun h => h.elim h4 (fun h => by rw [hadd] at h; exact absurd h (by decide)))]; rw [if_neg HP4.out, if_neg (fun h => absurd h.2.2 (by decide)), if_neg (by decide), if_neg (fun h => HP7.out h.1)]; unfold Pl.Nd.taken; simp only [hz])
                 have ZE := Ad (fun h8 : x.kind = 8 => Pl.take_end x x 1 (by first | exact YR.out | rfl) h8)
                 rw [hz] at ZE
                 have TC1196 := Ad (take_calls H2.out 1 (by simp) YB.out.1 YB.out.2)
                 rw [hz] at TC1196
                 clear hz
                 go_wp2_with fail
                 refine TC1196.out.mono ?_
                 rintro e w1197 ⟨rfl, F1198, h1199, s1200⟩
                 have HN1201 := Ad h1199
                 have SN1202 := Ad (St.trans S2.out s1200)
                 clear h1199 s1200 TC1196
                 cases ok
                 · have TC1203 := Ad (fail_calls HN1201.out 5 true (by have := YK.out; omega))
                   go_wp2_with fail
                   refine TC1203.out.mono ?_
                   rintro e w1204 ⟨rfl, F1205, h1206, s1207⟩
                   have HN1208 := Ad h1206
                   have SN1209 := Ad (St.trans SN1202.out s1207)
                   clear h1206 s1207 TC1203
                   go_wp2_with fail
                   go_end0
                   rw [TK.out]
                   simp only [Bool.false_eq_true, if_false]
                   exact ⟨rfl, F1205, HN1208.out, SN1209.out⟩
                 · have hk8 : kind = 8 := HP8.out
                   have K8 := Ad hk8
                   have bq8 : ((kind : Int) == 8) = true := by simp; omega
                   clear hk8
                   have TC1210 := Ad (ends_calls HN1201.out place (by have := YK.out; omega) (fun _ _ => ZE.out (by rw [KD.out]; exact K8.out)))
                   go_wp2_with fail
                   refine TC1210.out.mono ?_
                   rintro e w1211 ⟨rfl, F1212, h1213, s1214⟩
                   have HN1215 := Ad h1213
                   have SN1216 := Ad (St.trans SN1202.out s1214)
                   clear h1213 s1214 TC1210
                   go_wp2_with fail
                   go_end0
                   rw [TK.out]
                   simp only [if_true]
                   rw [if_pos K8.out]
                   exact ⟨rfl, F1212, HN1215.out, SN1216.out⟩
             · have bq8 : ((kind : Int) == 8) = false := by simp; omega
               have HP8 := Ad hp8
               have HP7 := Ad h7
               have HP4 := Ad h6
               clear hp8 h7 h6
               obtain ⟨z, ok, hz⟩ : ∃ z ok, x.take 1 = (z, ok) := ⟨_, _, rfl⟩
               have TK := Ad (show x.inFrame t 1 = if ok then (if kind = 8 then z.ends t place else (z, t)) else z.fail t 5 true from by rw [GE.out, Pl.Nd.within]; rw [if_neg (fun h => h.elim h4 (fun h => by rw [hadd] at h; exact absurd h (by decide)))]; rw [if_neg HP4.out, if_neg (fun h => absurd h.2.2 (by decide)), if_neg (by decide), if_neg (fun h => HP7.out h.1)]; unfold Pl.Nd.taken; simp only [hz])
               have ZE := Ad (fun h8 : x.kind = 8 => Pl.take_end x x 1 (by first | exact YR.out | rfl) h8)
               rw [hz] at ZE
               have TC1217 := Ad (take_calls H2.out 1 (by simp) YB.out.1 YB.out.2)
               rw [hz] at TC1217
               clear hz
               go_wp2_with fail
               refine TC1217.out.mono ?_
               rintro e w1218 ⟨rfl, F1219, h1220, s1221⟩
               have HN1222 := Ad h1220
               have SN1223 := Ad (St.trans S2.out s1221)
               clear h1220 s1221 TC1217
               cases ok
               · have TC1224 := Ad (fail_calls HN1222.out 5 true (by have := YK.out; omega))
                 go_wp2_with fail
                 refine TC1224.out.mono ?_
                 rintro e w1225 ⟨rfl, F1226, h1227, s1228⟩
                 have HN1229 := Ad h1227
                 have SN1230 := Ad (St.trans SN1223.out s1228)
                 clear h1227 s1228 TC1224
                 go_wp2_with fail
                 go_end0
                 rw [TK.out]
                 simp only [Bool.false_eq_true, if_false]
                 exact ⟨rfl, F1226, HN1229.out, SN1230.out⟩
               · have hk8 : ¬ kind = 8 := HP8.out
                 have K8 := Ad hk8
                 have bq8 : ((kind : Int) == 8) = false := by simp; omega
                 clear hk8
                 go_wp2_with fail
                 go_end0
                 rw [TK.out]
                 simp only [if_true]
                 rw [if_neg K8.out]
                 exact ⟨rfl, F1219, HN1222.out, SN1223.out⟩
       · have wp := hadd
         obtain ⟨z, ok, hz⟩ : ∃ z ok, x.take 1 = (z, ok) := ⟨_, _, rfl⟩
         have TK := Ad (show x.inFrame t 1 = if ok then (if kind = 8 then z.ends t place else (z, t)) else z.fail t 5 true from by rw [GE.out, Pl.Nd.within]; rw [if_pos (.inr wp)]; unfold Pl.Nd.taken; simp only [hz])
         have ZE := Ad (fun h8 : x.kind = 8 => Pl.take_end x x 1 (by first | exact YR.out | rfl) h8)
         rw [hz] at ZE
         have TC1231 := Ad (take_calls H2.out 1 (by simp) YB.out.1 YB.out.2)
         rw [hz] at TC1231
         clear hz
         go_wp2_with fail
         refine TC1231.out.mono ?_
         rintro e w1232 ⟨rfl, F1233, h1234, s1235⟩
         have HN1236 := Ad h1234
         have SN1237 := Ad (St.trans S2.out s1235)
         clear h1234 s1235 TC1231
         cases ok
         · have TC1238 := Ad (fail_calls HN1236.out 5 true (by have := YK.out; omega))
           go_wp2_with fail
           refine TC1238.out.mono ?_
           rintro e w1239 ⟨rfl, F1240, h1241, s1242⟩
           have HN1243 := Ad h1241
           have SN1244 := Ad (St.trans SN1237.out s1242)
           clear h1241 s1242 TC1238
           go_wp2_with fail
           go_end0
           rw [TK.out]
           simp only [Bool.false_eq_true, if_false]
           exact ⟨rfl, F1240, HN1243.out, SN1244.out⟩
         · by_cases hk8 : kind = 8
           · have K8 := Ad hk8
             have bq8 : ((kind : Int) == 8) = true := by simp; omega
             clear hk8
             have TC1245 := Ad (ends_calls HN1236.out place (by have := YK.out; omega) (fun _ _ => ZE.out (by rw [KD.out]; exact K8.out)))
             go_wp2_with fail
             refine TC1245.out.mono ?_
             rintro e w1246 ⟨rfl, F1247, h1248, s1249⟩
             have HN1250 := Ad h1248
             have SN1251 := Ad (St.trans SN1237.out s1249)
             clear h1248 s1249 TC1245
             go_wp2_with fail
             go_end0
             rw [TK.out]
             simp only [if_true]
             rw [if_pos K8.out]
             exact ⟨rfl, F1247, HN1250.out, SN1251.out⟩
           · have K8 := Ad hk8
             have bq8 : ((kind : Int) == 8) = false := by simp; omega
             clear hk8
             go_wp2_with fail
             go_end0
             rw [TK.out]
             simp only [if_true]
             rw [if_neg K8.out]
             exact ⟨rfl, F1233, HN1236.out, SN1237.out⟩
   · have bf : ((1 : Int) == fr) = false := by simpa using hf
     have bn : ((1 : Int) != fr) = true := by simpa using hf
     obtain ⟨y, t2, ok, hd⟩ : ∃ y t2 ok, x.differs t 1 = (y, t2, ok) := ⟨_, _, _, rfl⟩
     have DC := Ad (differs_calls H2.out 1 (by simp) (by omega))
     have DK := Pl.differs_keep x t 1
     rw [hd] at DC IF DK
     simp only [] at DC DK
     have IG := Ad (show x.inFrame t 1 = if ok then y.within t2 1 kind place added else (y, t2) from by rw [IF.out, if_pos ⟨by first | rfl | trivial, hf⟩])
     clear hd IF hf
     go_wp2_with fail
     refine DC.out.mono ?_
     rintro e w3 ⟨rfl, F3, h3, s3⟩
     have H3 := Ad h3
     have S3 := Ad (St.trans S2.out s3)
     clear h3 s3 DC
     cases ok
     · go_wp2_with fail
       go_end0
       rw [IG.out]
       simp only [Bool.false_eq_true, if_false]
       exact ⟨rfl, F3, H3.out, S3.out⟩
     · obtain ⟨k1, k2, k3, k4⟩ := DK rfl
       have YR := Ad k1
       have YB := Ad (show y.raw.length <= 1000000 /\ 0 <= y.run /\ y.run <= 1000 from by rw [k1, k2]; exact BD.out)
       have YK := Ad (show t2.kinds.length <= 76 from by omega)
       have GE := Ad (show x.inFrame t 1 = y.within t2 1 kind place added from by rw [IG.out, if_pos (by rfl)])
       clear k1 k2 k3 k4 DK IG BD hs
       obtain ⟨L1252, hL1253⟩ := NT.node H3.out
       have c1254 : w3.cell? ⟨g, 8, none⟩ = some (.bool y.sends) := hL1253.cs.cell (by rfl)
       have f1255 := hL1253.cs.free 8
       have c1256 : w3.cell? ⟨g, 11, none⟩ = some (.int .i64 y.t) := hL1253.cs.cell (by rfl)
       have f1257 := hL1253.cs.free 11
       have c1258 : w3.cell? ⟨g, 12, none⟩ = some (.int .i64 y.r) := hL1253.cs.cell (by rfl)
       have f1259 := hL1253.cs.free 12
       have c1260 : w3.cell? ⟨g, 13, none⟩ = some (.bool y.off) := hL1253.cs.cell (by rfl)
       have f1261 := hL1253.cs.free 13
       clear hL1253
       by_cases h4 : kind <= 4
       · have wp := h4
         have b4 : decide ((kind : Int) <= 4) = true := by simp; omega
         have i4 : (kind : Int) <= 4 := by omega
         obtain ⟨z, ok, hz⟩ : ∃ z ok, y.take 1 = (z, ok) := ⟨_, _, rfl⟩
         have TK := Ad (show x.inFrame t 1 = if ok then (if kind = 8 then z.ends t2 place else (z, t2)) else z.fail t2 5 true from by rw [GE.out, Pl.Nd.within]; rw [if_pos (.inl wp)]; unfold Pl.Nd.taken; simp only [hz])
         have ZE := Ad (fun h8 : x.kind = 8 => Pl.take_end x y 1 (by first | exact YR.out | rfl) h8)
         rw [hz] at ZE
         have TC1262 := Ad (take_calls H3.out 1 (by simp) YB.out.1 YB.out.2)
         rw [hz] at TC1262
         clear hz
         go_wp2_with fail
         refine TC1262.out.mono ?_
         rintro e w1263 ⟨rfl, F1264, h1265, s1266⟩
         have HN1267 := Ad h1265
         have SN1268 := Ad (St.trans S3.out s1266)
         clear h1265 s1266 TC1262
         cases ok
         · have TC1269 := Ad (fail_calls HN1267.out 5 true (by have := YK.out; omega))
           go_wp2_with fail
           refine TC1269.out.mono ?_
           rintro e w1270 ⟨rfl, F1271, h1272, s1273⟩
           have HN1274 := Ad h1272
           have SN1275 := Ad (St.trans SN1268.out s1273)
           clear h1272 s1273 TC1269
           go_wp2_with fail
           go_end0
           rw [TK.out]
           simp only [Bool.false_eq_true, if_false]
           exact ⟨rfl, F1271, HN1274.out, SN1275.out⟩
         · have hk8 : ¬ kind = 8 := by omega
           have K8 := Ad hk8
           have bq8 : ((kind : Int) == 8) = false := by simp; omega
           clear hk8
           go_wp2_with fail
           go_end0
           rw [TK.out]
           simp only [if_true]
           rw [if_neg K8.out]
           exact ⟨rfl, F1264, HN1267.out, SN1268.out⟩
       · have b4 : decide ((kind : Int) <= 4) = false := by simp; omega
         have i4 : ¬ (kind : Int) <= 4 := by omega
         cases hadd : added
         · by_cases h6 : kind = 6
           · have bq6 : ((kind : Int) == 6) = true := by simp; omega
             cases hs : y.sends
             · have HS := Ad hs
               rw [hs] at c1254
               obtain ⟨z, ok, hz⟩ : ∃ z ok, y.take 1 = (z, ok) := ⟨_, _, rfl⟩
               have TK := Ad (show x.inFrame t 1 = if ok then (if kind = 8 then z.ends t2 place else (z, t2)) else z.fail t2 5 true from by rw [GE.out, Pl.Nd.within]; rw [if_neg (fun h => h.elim h4 (fun h => by rw [hadd] at h; exact absurd h (by decide)))]; rw [if_pos h6, if_neg (by rw [HS.out]; decide)]; unfold Pl.Nd.taken; simp only [hz])
               have ZE := Ad (fun h8 : x.kind = 8 => Pl.take_end x y 1 (by first | exact YR.out | rfl) h8)
               rw [hz] at ZE
               have TC1276 := Ad (take_calls H3.out 1 (by simp) YB.out.1 YB.out.2)
               rw [hz] at TC1276
               clear hz
               go_wp2_with fail
               refine TC1276.out.mono ?_
               rintro e w1277 ⟨rfl, F1278, h1279, s1280⟩
               have HN1281 := Ad h1279
               have SN1282 := Ad (St.trans S3.out s1280)
               clear h1279 s1280 TC1276
               cases ok
               · have TC1283 := Ad (fail_calls HN1281.out 5 true (by have := YK.out; omega))
                 go_wp2_with fail
                 refine TC1283.out.mono ?_
                 rintro e w1284 ⟨rfl, F1285, h1286, s1287⟩
                 have HN1288 := Ad h1286
                 have SN1289 := Ad (St.trans SN1282.out s1287)
                 clear h1286 s1287 TC1283
                 go_wp2_with fail
                 go_end0
                 rw [TK.out]
                 simp only [Bool.false_eq_true, if_false]
                 exact ⟨rfl, F1285, HN1288.out, SN1289.out⟩
               · have hk8 : ¬ kind = 8 := by omega
                 have K8 := Ad hk8
                 have bq8 : ((kind : Int) == 8) = false := by simp; omega
                 clear hk8
                 go_wp2_with fail
                 go_end0
                 rw [TK.out]
                 simp only [if_true]
                 rw [if_neg K8.out]
                 exact ⟨rfl, F1278, HN1281.out, SN1282.out⟩
             · have HS := Ad hs
               rw [hs] at c1254
               have SC := Ad (Ct.state_calls y.t y.r y.off y.state rfl w3)
               unfold Ct.cv at SC
               generalize hst : y.state = st at *
               have TK := Ad (show x.inFrame t 1 = ({ (y.fail t2 8 (!decide (st = 1))).1 with owed := decide (st = 1) }, (y.fail t2 8 (!decide (st = 1))).2) from by rw [GE.out, Pl.Nd.within]; rw [if_neg (fun h => h.elim h4 (fun h => by rw [hadd] at h; exact absurd h (by decide)))]; rw [if_pos h6, if_pos (by rw [HS.out]; rfl)]; simp only []; rw [hst])
               clear h6
               by_cases hp : st = 1
               · have RES := Ad (show x.inFrame t 1 = ({ (y.fail t2 8 false).1 with owed := true }, (y.fail t2 8 false).2) from by rw [TK.out]; simp [hp])
                 have bp : (st == 1) = true := by simpa using hp
                 clear hp TK
                 go_wp2_with fail
                 refine SC.out.mono ?_
                 rintro e w7 ⟨rfl, hB⟩
                 have H7 := Ad (NT.on H3.out (Ch.of_below hB))
                 have S7 := Ad (St.trans S3.out (St.of (Ch.of_below hB)))
                 clear hB SC
                 have TC1290 := Ad (fail_calls H7.out 8 false (by have := YK.out; omega))
                 go_wp2_with fail
                 refine TC1290.out.mono ?_
                 rintro e w1291 ⟨rfl, F1292, h1293, s1294⟩
                 have HN1295 := Ad h1293
                 have SN1296 := Ad (St.trans S7.out s1294)
                 clear h1293 s1294 TC1290
                 obtain ⟨L1297, hL1298⟩ := NT.node HN1295.out
                 have c1299 : w1291.cell? ⟨g, 9, none⟩ = some (.bool (y.fail t2 8 false).1.owed) := hL1298.cs.cell (by rfl)
                 have f1300 := hL1298.cs.free 9
                 clear hL1298
                 have h1301 := NT.set HN1295.out 9 (.bool true) { (y.fail t2 8 false).1 with owed := true } (fun _ => rfl) rfl rfl rfl
                 have HN1302 := Ad h1301.1
                 have SN1303 := Ad (St.trans SN1296.out h1301.2)
                 clear h1301
                 go_wp2_with fail
                 go_end0
                 rw [RES.out]
                 exact ⟨rfl, F1292, HN1302.out, SN1303.out⟩
               · have RES := Ad (show x.inFrame t 1 = ({ (y.fail t2 8 true).1 with owed := false }, (y.fail t2 8 true).2) from by rw [TK.out]; simp [hp])
                 have bp : (st == 1) = false := by simpa using hp
                 clear hp TK
                 go_wp2_with fail
                 refine SC.out.mono ?_
                 rintro e w7 ⟨rfl, hB⟩
                 have H7 := Ad (NT.on H3.out (Ch.of_below hB))
                 have S7 := Ad (St.trans S3.out (St.of (Ch.of_below hB)))
                 clear hB SC
                 have TC1304 := Ad (fail_calls H7.out 8 true (by have := YK.out; omega))
                 go_wp2_with fail
                 refine TC1304.out.mono ?_
                 rintro e w1305 ⟨rfl, F1306, h1307, s1308⟩
                 have HN1309 := Ad h1307
                 have SN1310 := Ad (St.trans S7.out s1308)
                 clear h1307 s1308 TC1304
                 obtain ⟨L1311, hL1312⟩ := NT.node HN1309.out
                 have c1313 : w1305.cell? ⟨g, 9, none⟩ = some (.bool (y.fail t2 8 true).1.owed) := hL1312.cs.cell (by rfl)
                 have f1314 := hL1312.cs.free 9
                 clear hL1312
                 have h1315 := NT.set HN1309.out 9 (.bool false) { (y.fail t2 8 true).1 with owed := false } (fun _ => rfl) rfl rfl rfl
                 have HN1316 := Ad h1315.1
                 have SN1317 := Ad (St.trans SN1310.out h1315.2)
                 clear h1315
                 go_wp2_with fail
                 go_end0
                 rw [RES.out]
                 exact ⟨rfl, F1306, HN1316.out, SN1317.out⟩
           · have bq6 : ((kind : Int) == 6) = false := by simp; omega
             by_cases h7 : kind = 7
             · cases hs : y.sends
               · have HS := Ad hs
                 rw [hs] at c1254
                 have bq8 : ((kind : Int) == 8) = false := by simp; omega
                 have bq7 : ((kind : Int) == 7) = true := by simp; omega
                 obtain ⟨L9, hL9⟩ := NT.node H3.out
                 have RC := Ad (nright_calls w3 hL9)
                 clear hL9
                 cases hrt : Pl.rt y.raw
                 · rw [hrt] at RC
                   have RES := Ad (show x.inFrame t 1 = y.fail t2 6 true from by rw [GE.out, Pl.Nd.within]; rw [if_neg (fun h => h.elim h4 (fun h => by rw [hadd] at h; exact absurd h (by decide)))]; rw [if_neg h6, if_neg (fun h => absurd h.2.2 (by decide)), if_neg (by decide), if_pos ⟨h7, HS.out, hrt⟩])
                   clear hrt
                   go_wp2_with fail
                   refine RC.out.mono ?_
                   rintro e w7 ⟨rfl, hC⟩
                   have H7 := Ad (NT.on H3.out hC)
                   have S7 := Ad (St.trans S3.out (St.of hC))
                   clear hC RC
                   have TC1318 := Ad (fail_calls H7.out 6 true (by have := YK.out; omega))
                   go_wp2_with fail
                   refine TC1318.out.mono ?_
                   rintro e w1319 ⟨rfl, F1320, h1321, s1322⟩
                   have HN1323 := Ad h1321
                   have SN1324 := Ad (St.trans S7.out s1322)
                   clear h1321 s1322 TC1318
                   go_wp2_with fail
                   go_end0
                   rw [RES.out]
                   exact ⟨rfl, F1320, HN1323.out, SN1324.out⟩
                 · rw [hrt] at RC
                   have HRT := Ad hrt
                   clear hrt
                   go_wp2_with fail
                   refine RC.out.mono ?_
                   rintro e w7 ⟨rfl, hC⟩
                   have H7 := Ad (NT.on H3.out hC)
                   have S7 := Ad (St.trans S3.out (St.of hC))
                   clear hC RC
                   obtain ⟨z, ok, hz⟩ : ∃ z ok, y.take 1 = (z, ok) := ⟨_, _, rfl⟩
                   have TK := Ad (show x.inFrame t 1 = if ok then (if kind = 8 then z.ends t2 place else (z, t2)) else z.fail t2 5 true from by rw [GE.out, Pl.Nd.within]; rw [if_neg (fun h => h.elim h4 (fun h => by rw [hadd] at h; exact absurd h (by decide)))]; rw [if_neg h6, if_neg (fun h => absurd h.2.2 (by decide)), if_neg (by decide), if_neg (fun h => by rw [HRT.out] at h; exact absurd h.2.2 (by decide))]; unfold Pl.Nd.taken; simp only [hz])
                   have ZE := Ad (fun h8 : x.kind = 8 => Pl.take_end x y 1 (by first | exact YR.out | rfl) h8)
                   rw [hz] at ZE
                   have TC1325 := Ad (take_calls H7.out 1 (by simp) YB.out.1 YB.out.2)
                   rw [hz] at TC1325
                   clear hz
                   go_wp2_with fail
                   refine TC1325.out.mono ?_
                   rintro e w1326 ⟨rfl, F1327, h1328, s1329⟩
                   have HN1330 := Ad h1328
                   have SN1331 := Ad (St.trans S7.out s1329)
                   clear h1328 s1329 TC1325
                   cases ok
                   · have TC1332 := Ad (fail_calls HN1330.out 5 true (by have := YK.out; omega))
                     go_wp2_with fail
                     refine TC1332.out.mono ?_
                     rintro e w1333 ⟨rfl, F1334, h1335, s1336⟩
                     have HN1337 := Ad h1335
                     have SN1338 := Ad (St.trans SN1331.out s1336)
                     clear h1335 s1336 TC1332
                     go_wp2_with fail
                     go_end0
                     rw [TK.out]
                     simp only [Bool.false_eq_true, if_false]
                     exact ⟨rfl, F1334, HN1337.out, SN1338.out⟩
                   · have hk8 : ¬ kind = 8 := by omega
                     have K8 := Ad hk8
                     have bq8 : ((kind : Int) == 8) = false := by simp; omega
                     clear hk8
                     go_wp2_with fail
                     go_end0
                     rw [TK.out]
                     simp only [if_true]
                     rw [if_neg K8.out]
                     exact ⟨rfl, F1327, HN1330.out, SN1331.out⟩
               · have HS := Ad hs
                 rw [hs] at c1254
                 have bq8 : ((kind : Int) == 8) = false := by simp; omega
                 have bq7 : ((kind : Int) == 7) = true := by simp; omega
                 obtain ⟨z, ok, hz⟩ : ∃ z ok, y.take 1 = (z, ok) := ⟨_, _, rfl⟩
                 have TK := Ad (show x.inFrame t 1 = if ok then (if kind = 8 then z.ends t2 place else (z, t2)) else z.fail t2 5 true from by rw [GE.out, Pl.Nd.within]; rw [if_neg (fun h => h.elim h4 (fun h => by rw [hadd] at h; exact absurd h (by decide)))]; rw [if_neg h6, if_neg (fun h => absurd h.2.2 (by decide)), if_neg (by decide), if_neg (fun h => by rw [HS.out] at h; exact absurd h.2.1 (by decide))]; unfold Pl.Nd.taken; simp only [hz])
                 have ZE := Ad (fun h8 : x.kind = 8 => Pl.take_end x y 1 (by first | exact YR.out | rfl) h8)
                 rw [hz] at ZE
                 have TC1339 := Ad (take_calls H3.out 1 (by simp) YB.out.1 YB.out.2)
                 rw [hz] at TC1339
                 clear hz
                 go_wp2_with fail
                 refine TC1339.out.mono ?_
                 rintro e w1340 ⟨rfl, F1341, h1342, s1343⟩
                 have HN1344 := Ad h1342
                 have SN1345 := Ad (St.trans S3.out s1343)
                 clear h1342 s1343 TC1339
                 cases ok
                 · have TC1346 := Ad (fail_calls HN1344.out 5 true (by have := YK.out; omega))
                   go_wp2_with fail
                   refine TC1346.out.mono ?_
                   rintro e w1347 ⟨rfl, F1348, h1349, s1350⟩
                   have HN1351 := Ad h1349
                   have SN1352 := Ad (St.trans SN1345.out s1350)
                   clear h1349 s1350 TC1346
                   go_wp2_with fail
                   go_end0
                   rw [TK.out]
                   simp only [Bool.false_eq_true, if_false]
                   exact ⟨rfl, F1348, HN1351.out, SN1352.out⟩
                 · have hk8 : ¬ kind = 8 := by omega
                   have K8 := Ad hk8
                   have bq8 : ((kind : Int) == 8) = false := by simp; omega
                   clear hk8
                   go_wp2_with fail
                   go_end0
                   rw [TK.out]
                   simp only [if_true]
                   rw [if_neg K8.out]
                   exact ⟨rfl, F1341, HN1344.out, SN1345.out⟩
             · have bq7 : ((kind : Int) == 7) = false := by simp; omega
               by_cases hp8 : kind = 8
               · have bq8 : ((kind : Int) == 8) = true := by simp; omega
                 have HP8 := Ad hp8
                 have HP7 := Ad h7
                 have HP4 := Ad h6
                 clear hp8 h7 h6
                 cases hp6 : ((place : Int) == 6)
                 · obtain ⟨z, ok, hz⟩ : ∃ z ok, y.take 1 = (z, ok) := ⟨_, _, rfl⟩
                   have TK := Ad (show x.inFrame t 1 = if ok then (if kind = 8 then z.ends t2 place else (z, t2)) else z.fail t2 5 true from by rw [GE.out, Pl.Nd.within]; rw [if_neg (fun h => h.elim h4 (fun h => by rw [hadd] at h; exact absurd h (by decide)))]; rw [if_neg HP4.out, if_neg (fun h => absurd h.2.2 (by decide)), if_neg (by decide), if_neg (fun h => HP7.out h.1)]; unfold Pl.Nd.taken; simp only [hz])
                   have ZE := Ad (fun h8 : x.kind = 8 => Pl.take_end x y 1 (by first | exact YR.out | rfl) h8)
                   rw [hz] at ZE
                   have TC1353 := Ad (take_calls H3.out 1 (by simp) YB.out.1 YB.out.2)
                   rw [hz] at TC1353
                   clear hz
                   go_wp2_with fail
                   refine TC1353.out.mono ?_
                   rintro e w1354 ⟨rfl, F1355, h1356, s1357⟩
                   have HN1358 := Ad h1356
                   have SN1359 := Ad (St.trans S3.out s1357)
                   clear h1356 s1357 TC1353
                   cases ok
                   · have TC1360 := Ad (fail_calls HN1358.out 5 true (by have := YK.out; omega))
                     go_wp2_with fail
                     refine TC1360.out.mono ?_
                     rintro e w1361 ⟨rfl, F1362, h1363, s1364⟩
                     have HN1365 := Ad h1363
                     have SN1366 := Ad (St.trans SN1359.out s1364)
                     clear h1363 s1364 TC1360
                     go_wp2_with fail
                     go_end0
                     rw [TK.out]
                     simp only [Bool.false_eq_true, if_false]
                     exact ⟨rfl, F1362, HN1365.out, SN1366.out⟩
                   · have hk8 : kind = 8 := HP8.out
                     have K8 := Ad hk8
                     have bq8 : ((kind : Int) == 8) = true := by simp; omega
                     clear hk8
                     have TC1367 := Ad (ends_calls HN1358.out place (by have := YK.out; omega) (fun _ _ => ZE.out (by rw [KD.out]; exact K8.out)))
                     go_wp2_with fail
                     refine TC1367.out.mono ?_
                     rintro e w1368 ⟨rfl, F1369, h1370, s1371⟩
                     have HN1372 := Ad h1370
                     have SN1373 := Ad (St.trans SN1359.out s1371)
                     clear h1370 s1371 TC1367
                     go_wp2_with fail
                     go_end0
                     rw [TK.out]
                     simp only [if_true]
                     rw [if_pos K8.out]
                     exact ⟨rfl, F1369, HN1372.out, SN1373.out⟩
                 · obtain ⟨z, ok, hz⟩ : ∃ z ok, y.take 1 = (z, ok) := ⟨_, _, rfl⟩
                   have TK := Ad (show x.inFrame t 1 = if ok then (if kind = 8 then z.ends t2 place else (z, t2)) else z.fail t2 5 true from by rw [GE.out, Pl.Nd.within]; rw [if_neg (fun h => h.elim h4 (fun h => by rw [hadd] at h; exact absurd h (by decide)))]; rw [if_neg HP4.out, if_neg (fun h => absurd h.2.2 (by decide)), if_neg (by decide), if_neg (fun h => HP7.out h.1)]; unfold Pl.Nd.taken; simp only [hz])
                   have ZE := Ad (fun h8 : x.kind = 8 => Pl.take_end x y 1 (by first | exact YR.out | rfl) h8)
                   rw [hz] at ZE
                   have TC1374 := Ad (take_calls H3.out 1 (by simp) YB.out.1 YB.out.2)
                   rw [hz] at TC1374
                   clear hz
                   go_wp2_with fail
                   refine TC1374.out.mono ?_
                   rintro e w1375 ⟨rfl, F1376, h1377, s1378⟩
                   have HN1379 := Ad h1377
                   have SN1380 := Ad (St.trans S3.out s1378)
                   clear h1377 s1378 TC1374
                   cases ok
                   · have TC1381 := Ad (fail_calls HN1379.out 5 true (by have := YK.out; omega))
                     go_wp2_with fail
                     refine TC1381.out.mono ?_
                     rintro e w1382 ⟨rfl, F1383, h1384, s1385⟩
                     have HN1386 := Ad h1384
                     have SN1387 := Ad (St.trans SN1380.out s1385)
                     clear h1384 s1385 TC1381
                     go_wp2_with fail
                     go_end0
                     rw [TK.out]
                     simp only [Bool.false_eq_true, if_false]
                     exact ⟨rfl, F1383, HN1386.out, SN1387.out⟩
                   · have hk8 : kind = 8 := HP8.out
                     have K8 := Ad hk8
                     have bq8 : ((kind : Int) == 8) = true := by simp; omega
                     clear hk8
                     have TC1388 := Ad (ends_calls HN1379.out place (by have := YK.out; omega) (fun _ _ => ZE.out (by rw [KD.out]; exact K8.out)))
                     go_wp2_with fail
                     refine TC1388.out.mono ?_
                     rintro e w1389 ⟨rfl, F1390, h1391, s1392⟩
                     have HN1393 := Ad h1391
                     have SN1394 := Ad (St.trans SN1380.out s1392)
                     clear h1391 s1392 TC1388
                     go_wp2_with fail
                     go_end0
                     rw [TK.out]
                     simp only [if_true]
                     rw [if_pos K8.out]
                     exact ⟨rfl, F1390, HN1393.out, SN1394.out⟩
               · have bq8 : ((kind : Int) == 8) = false := by simp; omega
                 have HP8 := Ad hp8
                 have HP7 := Ad h7
                 have HP4 := Ad h6
                 clear hp8 h7 h6
                 obtain ⟨z, ok, hz⟩ : ∃ z ok, y.take 1 = (z, ok) := ⟨_, _, rfl⟩
                 have TK := Ad (show x.inFrame t 1 = if ok then (if kind = 8 then z.ends t2 place else (z, t2)) else z.fail t2 5 true from by rw [GE.out, Pl.Nd.within]; rw [if_neg (fun h => h.elim h4 (fun h => by rw [hadd] at h; exact absurd h (by decide)))]; rw [if_neg HP4.out, if_neg (fun h => absurd h.2.2 (by decide)), if_neg (by decide), if_neg (fun h => HP7.out h.1)]; unfold Pl.Nd.taken; simp only [hz])
                 have ZE := Ad (fun h8 : x.kind = 8 => Pl.take_end x y 1 (by first | exact YR.out | rfl) h8)
                 rw [hz] at ZE
                 have TC1395 := Ad (take_calls H3.out 1 (by simp) YB.out.1 YB.out.2)
                 rw [hz] at TC1395
                 clear hz
                 go_wp2_with fail
                 refine TC1395.out.mono ?_
                 rintro e w1396 ⟨rfl, F1397, h1398, s1399⟩
                 have HN1400 := Ad h1398
                 have SN1401 := Ad (St.trans S3.out s1399)
                 clear h1398 s1399 TC1395
                 cases ok
                 · have TC1402 := Ad (fail_calls HN1400.out 5 true (by have := YK.out; omega))
                   go_wp2_with fail
                   refine TC1402.out.mono ?_
                   rintro e w1403 ⟨rfl, F1404, h1405, s1406⟩
                   have HN1407 := Ad h1405
                   have SN1408 := Ad (St.trans SN1401.out s1406)
                   clear h1405 s1406 TC1402
                   go_wp2_with fail
                   go_end0
                   rw [TK.out]
                   simp only [Bool.false_eq_true, if_false]
                   exact ⟨rfl, F1404, HN1407.out, SN1408.out⟩
                 · have hk8 : ¬ kind = 8 := HP8.out
                   have K8 := Ad hk8
                   have bq8 : ((kind : Int) == 8) = false := by simp; omega
                   clear hk8
                   go_wp2_with fail
                   go_end0
                   rw [TK.out]
                   simp only [if_true]
                   rw [if_neg K8.out]
                   exact ⟨rfl, F1397, HN1400.out, SN1401.out⟩
         · have wp := hadd
           obtain ⟨z, ok, hz⟩ : ∃ z ok, y.take 1 = (z, ok) := ⟨_, _, rfl⟩
           have TK := Ad (show x.inFrame t 1 = if ok then (if kind = 8 then z.ends t2 place else (z, t2)) else z.fail t2 5 true from by rw [GE.out, Pl.Nd.within]; rw [if_pos (.inr wp)]; unfold Pl.Nd.taken; simp only [hz])
           have ZE := Ad (fun h8 : x.kind = 8 => Pl.take_end x y 1 (by first | exact YR.out | rfl) h8)
           rw [hz] at ZE
           have TC1409 := Ad (take_calls H3.out 1 (by simp) YB.out.1 YB.out.2)
           rw [hz] at TC1409
           clear hz
           go_wp2_with fail
           refine TC1409.out.mono ?_
           rintro e w1410 ⟨rfl, F1411, h1412, s1413⟩
           have HN1414 := Ad h1412
           have SN1415 := Ad (St.trans S3.out s1413)
           clear h1412 s1413 TC1409
           cases ok
           · have TC1416 := Ad (fail_calls HN1414.out 5 true (by have := YK.out; omega))
             go_wp2_with fail
             refine TC1416.out.mono ?_
             rintro e w1417 ⟨rfl, F1418, h1419, s1420⟩
             have HN1421 := Ad h1419
             have SN1422 := Ad (St.trans SN1415.out s1420)
             clear h1419 s1420 TC1416
             go_wp2_with fail
             go_end0
             rw [TK.out]
             simp only [Bool.false_eq_true, if_false]
             exact ⟨rfl, F1418, HN1421.out, SN1422.out⟩
           · by_cases hk8 : kind = 8
             · have K8 := Ad hk8
               have bq8 : ((kind : Int) == 8) = true := by simp; omega
               clear hk8
               have TC1423 := Ad (ends_calls HN1414.out place (by have := YK.out; omega) (fun _ _ => ZE.out (by rw [KD.out]; exact K8.out)))
               go_wp2_with fail
               refine TC1423.out.mono ?_
               rintro e w1424 ⟨rfl, F1425, h1426, s1427⟩
               have HN1428 := Ad h1426
               have SN1429 := Ad (St.trans SN1415.out s1427)
               clear h1426 s1427 TC1423
               go_wp2_with fail
               go_end0
               rw [TK.out]
               simp only [if_true]
               rw [if_pos K8.out]
               exact ⟨rfl, F1425, HN1428.out, SN1429.out⟩
             · have K8 := Ad hk8
               have bq8 : ((kind : Int) == 8) = false := by simp; omega
               clear hk8
               go_wp2_with fail
               go_end0
               rw [TK.out]
               simp only [if_true]
               rw [if_neg K8.out]
               exact ⟨rfl, F1411, HN1414.out, SN1415.out⟩
end
end
theorem size170 : (Tryz.prog.info? 170).map (·.size) = some 11 := by kernel_rfl
def stepsv : Value := .agg #[.func (.func 100) #[] #[], .func (.func 101) #[] #[], .func (.func 102) #[] #[], .func (.func 103) #[] #[], .func (.func 104) #[] #[], .func (.func 103) #[] #[], .func (.func 105) #[] #[], .func (.func 106) #[] #[], .func (.func 107) #[] #[], .func (.func 108) #[] #[], .func (.func 109) #[] #[]]
theorem steps_calls (w : World) : Calls Tryz.prog 80 #[] w fun e w' => e = .returned stepsv /\ Ch [] w w' := by
 have D0 := Ad (Cs.new w [Value.nilFunc, .nilFunc, .nilFunc, .nilFunc, .nilFunc, .nilFunc, .nilFunc, .nilFunc, .nilFunc, .nilFunc, .nilFunc] 170)
 have C0 := Ad ((Ch.refl [] w).alloc (.cells [Value.nilFunc, .nilFunc, .nilFunc, .nilFunc, .nilFunc, .nilFunc, .nilFunc, .nilFunc, .nilFunc, .nilFunc, .nilFunc].toArray 170))
 unfold stepsv
 go_enter Tryz.func80, Tryz.ntmps80
 go_wp2_with (refine wpList_store_all rfl 170 (.tmp 0) (.tmp 1) rfl [.func (.func 100) #[] #[], .func (.func 101) #[] #[], .func (.func 102) #[] #[], .func (.func 103) #[] #[], .func (.func 104) #[] #[], .func (.func 103) #[] #[], .func (.func 105) #[] #[], .func (.func 106) #[] #[], .func (.func 107) #[] #[], .func (.func 108) #[] #[], .func (.func 109) #[] #[]] (by rfl) (by rfl) D0.out rfl size170 (by simp [Value.oneCell']) ?_; intro w2 hb2 hc2)
 refine bodyPost_ret (v := stepsv) ?_ rfl ⟨rfl, C0.out.trans hc2 (by simp)⟩
 exact results_single (r := .cell 0 170) rfl (.cell w.heap.size 170 _ (0, 0) _ rfl hb2 Tryz.underlying170 rfl size170 .nil)
theorem callFunc_of {f : FuncId} {fn : Func} {c : Code} (hf : Tryz.prog.funcs[f]? = some fn) (hname : (fn.name == "runtime.NumGoroutine") = false) (hb : fn.body = some c) (args : Array Value) (w : World) :
   (callFunc f args).run Tryz.prog w = .ok (.enter f args) w := by
 have h1 : fn.name ≠ "runtime.NumGoroutine" := by simpa using hname
 simp [callFunc, hf, h1, hb]
structure Pl.Nd.fit (x : Pl.Nd) : Prop where
 mode : 0 <= x.mode /\ x.mode <= 10
 k : 0 <= x.k /\ x.k <= 1000000
 rows : 0 <= x.rows /\ x.rows <= 1000000
 run : 0 <= x.run /\ x.run <= 1000
 raw : x.raw.length <= 1000000
 level : x.level = 0 ∨ x.level = 1
 reach : x.mode = 2 -> x.reach
theorem dispatch (b g gt : Nat) (F : List Nat) (x : Pl.Nd) (t : Pl.Td) (lv : Int) (hlv : lv = 0 ∨ lv = 1) (hx : x.fit) (ht : t.kinds.length <= 10) : ∃ fn : Nat, (∀ W : World, (Instr.index 170 stepsv (.int .i64 x.mode)).run Tryz.prog W = .ok (.func (.func fn) #[] #[]) W) /\ (∀ (args : Array Value) (W : World), (callFunc fn args).run Tryz.prog W = .ok (.enter fn args) W) /\
   ∀ w : World, NT w b g gt F x t -> Calls Tryz.prog fn #[.pointer (some ⟨g, 0, none⟩), .pointer (some ⟨gt, 0, none⟩), .int .i64 lv] w (Res w b g gt F (x.step t lv).1 (x.step t lv).2 (.tuple #[])) := by
 have hm := hx.mode
 have key : x.mode = 0 ∨ x.mode = 1 ∨ x.mode = 2 ∨ x.mode = 3 ∨ x.mode = 4 ∨ x.mode = 5 ∨ x.mode = 6 ∨ x.mode = 7 ∨ x.mode = 8 ∨ x.mode = 9 ∨ x.mode = 10 := by omega
 rcases key with h | h | h | h | h | h | h | h | h | h | h
 · refine ⟨100, fun W => by rw [h]; kernel_rfl, callFunc_of Tryz.func100 (by kernel_rfl) rfl, fun w hw => ?_⟩
   rw [show x.step t lv = (x.joining lv, t) by simp [Pl.Nd.step, h]]
   exact joining_calls hw lv hlv hx.k
 · refine ⟨101, fun W => by rw [h]; kernel_rfl, callFunc_of Tryz.func101 (by kernel_rfl) rfl, fun w hw => ?_⟩
   rw [show x.step t lv = x.idle t lv by simp [Pl.Nd.step, h]]
   exact idle_calls hw lv hlv (by omega)
 · refine ⟨102, fun W => by rw [h]; kernel_rfl, callFunc_of Tryz.func102 (by kernel_rfl) rfl, fun w hw => ?_⟩
   rw [show x.step t lv = x.inFrame t lv by simp [Pl.Nd.step, h]]
   rcases hlv with rfl | rfl
   · exact inFrame_zero hw (hx.reach h) hx.level hx.raw hx.run (by omega)
   · exact inFrame_one hw (hx.reach h) hx.level hx.raw hx.run (by omega)
 · refine ⟨103, fun W => by rw [h]; kernel_rfl, callFunc_of Tryz.func103 (by kernel_rfl) rfl, fun w hw => ?_⟩
   rw [show x.step t lv = x.dominant t lv by simp [Pl.Nd.step, h]]
   exact dominant_calls hw lv hlv hx.k (by omega)
 · refine ⟨104, fun W => by rw [h]; kernel_rfl, callFunc_of Tryz.func104 (by kernel_rfl) rfl, fun w hw => ?_⟩
   rw [show x.step t lv = x.passive t lv by simp [Pl.Nd.step, h]]
   exact passive_calls hw lv hlv hx.k (by omega)
 · refine ⟨103, fun W => by rw [h]; kernel_rfl, callFunc_of Tryz.func103 (by kernel_rfl) rfl, fun w hw => ?_⟩
   rw [show x.step t lv = x.dominant t lv by simp [Pl.Nd.step, h]]
   exact dominant_calls hw lv hlv hx.k (by omega)
 · refine ⟨105, fun W => by rw [h]; kernel_rfl, callFunc_of Tryz.func105 (by kernel_rfl) rfl, fun w hw => ?_⟩
   rw [show x.step t lv = x.waiting t lv by simp [Pl.Nd.step, h]]
   exact waiting_calls hw lv hlv hx.k (by omega)
 · refine ⟨106, fun W => by rw [h]; kernel_rfl, callFunc_of Tryz.func106 (by kernel_rfl) rfl, fun w hw => ?_⟩
   rw [show x.step t lv = x.closing t lv by simp [Pl.Nd.step, h]]
   exact closing_calls hw lv hlv hx.k (by omega)
 · refine ⟨107, fun W => by rw [h]; kernel_rfl, callFunc_of Tryz.func107 (by kernel_rfl) rfl, fun w hw => ?_⟩
   rw [show x.step t lv = x.pause t lv by simp [Pl.Nd.step, h]]
   exact pause_calls hw lv hlv hx.k (by omega)
 · refine ⟨108, fun W => by rw [h]; kernel_rfl, callFunc_of Tryz.func108 (by kernel_rfl) rfl, fun w hw => ?_⟩
   rw [show x.step t lv = (x.suspend lv, t) by simp [Pl.Nd.step, h]]
   exact suspend_calls hw lv hlv hx.k
 · refine ⟨109, fun W => by rw [h]; kernel_rfl, callFunc_of Tryz.func109 (by kernel_rfl) rfl, fun w hw => ?_⟩
   rw [show x.step t lv = x.busOff t lv by simp [Pl.Nd.step, h]]
   exact busOff_calls hw lv hlv hx.k hx.rows (by omega)
namespace Pl
def Nd.pass2 (y : Nd) (t : Td) (lv : Int) : Nd × Td :=
 let c := if y.owed && decide (lv = 0) then { y with owed := false }.charge t 8 else (y, t, true)
 if c.2.2 then (if c.1.k = 6 then c.1.turn 6 else c.1, c.2.1) else (c.1, c.2.1)
theorem passive_eq (x : Nd) (t : Td) (lv : Int) : x.passive t lv = Nd.pass2 { x with k := (if 0 < x.k /\ lv ≠ x.level then 0 else x.k) + 1, level := lv } t lv := rfl
def Nd.wait2 (y : Nd) (t : Td) : Nd × Td :=
 let c := if y.k = 1 /\ y.wrong = true /\ y.tx = false then ((y.charge t 8).1, (y.charge t 8).2.1) else (y, t)
 if c.1.k.tmod 8 = 0 then ((c.1.charge c.2 8).1, (c.1.charge c.2 8).2.1) else c
theorem waiting_eq (x : Nd) (t : Td) (lv : Int) : x.waiting t lv = if lv = 1 then ({ x.turn 7 with k := 1 }, t) else Nd.wait2 { x with k := x.k + 1 } t := rfl
theorem charge_kn (x : Nd) (t : Td) (n : Int) : (x.charge t n).2.1.kinds.length <= t.kinds.length + 1 := by
 unfold Nd.charge
 generalize x.count (if x.tx = true then Ct.txC x.ct else Ct.rxC x.ct n) = y
 simp only []
 by_cases h : y.state ≠ 2
 · rw [if_pos h]; exact Nat.le_succ _
 · rw [if_neg h]; simp [Td.tell]
theorem fail_kn (x : Nd) (t : Td) (kind : Int) (c : Bool) : (x.fail t kind c).2.kinds.length <= t.kinds.length + 2 := by
 unfold Nd.fail
 have h := charge_kn x (t.tell kind) 1
 have ht : (t.tell kind).kinds.length = t.kinds.length + 1 := by simp [Td.tell]
 simp only []
 split
 · split <;> simp only [] <;> omega
 · simp only []; omega
theorem over_kn (x : Nd) (t : Td) : (x.over t).2.kinds.length <= t.kinds.length + 2 := by
 simp [Nd.over, Td.tell]
theorem ends_kn (x : Nd) (t : Td) (k : Nat) : (x.ends t k).2.kinds.length <= t.kinds.length + 2 := by
 unfold Nd.ends
 split
 · simp [Td.tell]
 · split
   · split <;> simp [Td.tell]
   · simp
theorem taken_kn (x : Nd) (t : Td) (lv : Int) (kind k : Nat) : (x.taken t lv kind k).2.kinds.length <= t.kinds.length + 2 := by
 unfold Nd.taken
 simp only []
 split
 · split
   · exact ends_kn _ _ _
   · simp
 · exact fail_kn _ _ _ _
theorem within_kn (x : Nd) (t : Td) (lv : Int) (kind k : Nat) (a : Bool) : (x.within t lv kind k a).2.kinds.length <= t.kinds.length + 2 := by
 unfold Nd.within
 split
 · exact taken_kn _ _ _ _ _
 split
 · split
   · exact fail_kn _ _ _ _
   · exact taken_kn _ _ _ _ _
 split
 · exact over_kn _ _
 split
 · exact fail_kn _ _ _ _
 split
 · exact fail_kn _ _ _ _
 · exact taken_kn _ _ _ _ _
theorem differs_kn (x : Nd) (t : Td) (lv : Int) : (x.differs t lv).2.1.kinds.length <= t.kinds.length + 2 := by
 unfold Nd.differs
 split
 · simp [Td.tell]
 split
 · exact fail_kn _ _ _ _
 split
 · simp
 · exact fail_kn _ _ _ _
theorem inFrame_kn (x : Nd) (t : Td) (lv : Int) : (x.inFrame t lv).2.kinds.length <= t.kinds.length + 4 := by
 unfold Nd.inFrame
 have h := differs_kn x t lv
 split
 · simp only []
   split
   · exact Nat.le_trans (within_kn _ _ _ _ _ _) (by omega)
   · simp only []; omega
 split
 · exact Nat.le_trans (fail_kn _ _ _ _) (by omega)
 · exact Nat.le_trans (within_kn _ _ _ _ _ _) (by omega)
theorem step_kn (x : Nd) (t : Td) (lv : Int) : (x.step t lv).2.kinds.length <= t.kinds.length + 4 := by
 unfold Nd.step
 split
 · simp
 split
 · unfold Nd.idle
   split
   · simp
   split
   · exact Nat.le_trans (fail_kn _ _ _ _) (by omega)
   · simp
 split
 · exact inFrame_kn _ _ _
 have dom : (x.dominant t lv).2.kinds.length <= t.kinds.length + 4 := by
   unfold Nd.dominant
   simp only []
   have h := charge_kn x (t.tell 4) 8
   have ht : (t.tell 4).kinds.length = t.kinds.length + 1 := by simp [Td.tell]
   by_cases hl : lv = 1
   · simp only [if_pos hl]
     split <;> simp only [] <;> omega
   · simp only [if_neg hl]
     simp
 split
 · exact dom
 split
 · rw [passive_eq]
   generalize ({ x with k := (if 0 < x.k /\ lv ≠ x.level then 0 else x.k) + 1, level := lv } : Nd) = y
   unfold Nd.pass2
   have hc : (if (y.owed && decide (lv = 0)) = true then Nd.charge { y with owed := false } t 8 else (y, t, true)).2.1.kinds.length <= t.kinds.length + 1 := by
     split
     · exact charge_kn _ _ _
     · exact Nat.le_succ _
   generalize (if (y.owed && decide (lv = 0)) = true then Nd.charge { y with owed := false } t 8 else (y, t, true)) = c at *
   simp only []
   split <;> (simp only []; omega)
 split
 · exact dom
 split
 · rw [waiting_eq]
   split
   · exact Nat.le_add_right _ _
   · generalize ({ x with k := x.k + 1 } : Nd) = y
     unfold Nd.wait2
     have hc : (if y.k = 1 /\ y.wrong = true /\ y.tx = false then ((y.charge t 8).1, (y.charge t 8).2.1) else (y, t)).2.kinds.length <= t.kinds.length + 1 := by
       split
       · exact charge_kn _ _ _
       · exact Nat.le_succ _
     generalize (if y.k = 1 /\ y.wrong = true /\ y.tx = false then ((y.charge t 8).1, (y.charge t 8).2.1) else (y, t)) = c at *
     simp only []
     split
     · have := charge_kn c.1 c.2 8
       simp only []
       omega
     · omega
 split
 · unfold Nd.closing
   split
   · simp
   split
   · exact Nat.le_trans (over_kn _ _) (by omega)
   · exact Nat.le_trans (fail_kn _ _ _ _) (by omega)
 split
 · unfold Nd.pause
   split
   · exact Nat.le_trans (over_kn _ _) (by omega)
   split
   · simp
   split
   · simp
   split <;> simp
 split
 · simp
 · unfold Nd.busOff
   simp only []
   generalize (if (if lv = 0 then (0 : Int) else x.k + 1) = 11 then { x with k := 0, rows := x.rows + 1 } else { x with k := if lv = 0 then (0 : Int) else x.k + 1 }) = y
   split <;> simp [Td.tell]
end Pl
namespace Pl
structure Nd.base (m : Nat) (x : Nd) : Prop where
 mode : 0 <= x.mode /\ x.mode <= 10
 k : 0 <= x.k /\ x.k <= m
 rows : 0 <= x.rows /\ x.rows <= m
 run : 0 <= x.run /\ x.run <= 5
 raw : x.raw.length <= m
 level : x.level = 0 ∨ x.level = 1
 queue : ∀ f ∈ x.queue, f.ok = true
def Nd.own' (x : Nd) (f : Fr) : Prop := f.ok = true /\ x.row = fall f /\ x.raw.length < x.row.length /\ ∀ j, j < x.raw.length -> j < (fbits f).length -> gi x.raw j = gi x.row j
structure Nd.good (m : Nat) (x : Nd) : Prop extends Nd.base m x where
 sent : x.mode = 2 -> x.sends = true -> ∃ f, x.own' f
theorem Nd.good.fit {m : Nat} {x : Nd} (h : x.good m) (hm : m <= 1000000) : x.fit := by
 refine ⟨h.mode, ⟨h.k.1, ?_⟩, ⟨h.rows.1, ?_⟩, ⟨h.run.1, ?_⟩, Nat.le_trans h.raw hm, h.level, fun h1 => ?_⟩
 · have := h.k.2; omega
 · have := h.rows.2; omega
 · have := h.run.2; omega
 · intro h2 _
   obtain ⟨f, _, _, h3, _⟩ := h.sent h1 h2
   exact h3
theorem Nd.base.off {m : Nat} {x : Nd} (h : x.base m) (hm : x.mode ≠ 2) : x.good m := ⟨h, fun e => absurd e hm⟩
theorem Nd.base.more {m n : Nat} {x : Nd} (h : x.base m) (hn : m <= n) : x.base n :=
 ⟨h.mode, ⟨h.k.1, by have := h.k.2; omega⟩, ⟨h.rows.1, by have := h.rows.2; omega⟩, h.run, Nat.le_trans h.raw hn, h.level, h.queue⟩
theorem good_new : Nd.new.good 0 := by
 refine ⟨⟨by decide, by decide, by decide, by decide, by decide, .inl rfl, by simp [Nd.new]⟩, fun h => ?_⟩
 simp [Nd.new] at h
theorem charge_base {m : Nat} {x : Nd} (h : x.base m) (t : Td) (g : Int) : (x.charge t g).1.base m /\ ((x.charge t g).2.2 = false -> (x.charge t g).1.mode = 10) /\ ((x.charge t g).2.2 = true -> (x.charge t g).1.mode = x.mode /\ (x.charge t g).1.k = x.k) := by
 unfold Nd.charge
 generalize (if x.tx = true then Ct.txC x.ct else Ct.rxC x.ct g) = c
 simp only []
 split
 · exact ⟨⟨h.mode, h.k, h.rows, h.run, h.raw, h.level, h.queue⟩, by simp, fun _ => ⟨rfl, rfl⟩⟩
 · exact ⟨⟨by show (0 : Int) <= 10 /\ (10 : Int) <= 10; omega, by show (0 : Int) <= 0 /\ (0 : Int) <= m; omega, by show (0 : Int) <= 0 /\ (0 : Int) <= m; omega, h.run, h.raw, h.level, h.queue⟩, fun _ => rfl, by simp⟩
theorem fin_good {m : Nat} {x : Nd} (h : x.base m) (s : Int) : (x.fin s).good m := by
 unfold Nd.fin Nd.turn
 refine Nd.base.off ⟨?_, by show (0 : Int) <= 0 /\ (0 : Int) <= m; omega, h.rows, h.run, h.raw, h.level, h.queue⟩ ?_
 · show 0 <= (if s = 0 then (3 : Int) else 4) /\ (if s = 0 then (3 : Int) else 4) <= 10
   split <;> omega
 · show (if s = 0 then (3 : Int) else 4) ≠ 2
   split <;> omega
theorem fail_good {m : Nat} {x : Nd} (h : x.base m) (t : Td) (kind : Int) (c : Bool) : (x.fail t kind c).1.good m := by
 unfold Nd.fail
 obtain ⟨h1, h2, h3⟩ := charge_base h (t.tell kind) 1
 split
 · simp only []
   split
   · exact fin_good h1 _
   · rename_i h4
     exact h1.off (by rw [h2 (by simpa using h4)]; decide)
 · exact fin_good h _
theorem over_good {m : Nat} {x : Nd} (h : x.base m) (t : Td) : (x.over t).1.good m := by
 unfold Nd.over Nd.turn
 exact Nd.base.off ⟨by show (0 : Int) <= 5 /\ (5 : Int) <= 10; omega, by show (0 : Int) <= 0 /\ (0 : Int) <= m; omega, h.rows, h.run, h.raw, h.level, h.queue⟩ (by show (5 : Int) ≠ 2; decide)
theorem turn_good {m : Nat} {x : Nd} (h : x.base m) (n : Int) (hn : 0 <= n /\ n <= 10) (h2 : n ≠ 2) : (x.turn n).good m := by
 unfold Nd.turn
 exact Nd.base.off ⟨hn, by show (0 : Int) <= 0 /\ (0 : Int) <= m; omega, h.rows, h.run, h.raw, h.level, h.queue⟩ h2
theorem start_good {m : Nat} {x : Nd} (h : x.base m) (s : Bool) (hs : s = true -> x.queue ≠ []) (hm : 1 <= m) : (x.start s).good m := by
 unfold Nd.start
 cases s
 · refine ⟨⟨by show (0 : Int) <= 2 /\ (2 : Int) <= 10; omega, by show (0 : Int) <= 0 /\ (0 : Int) <= m; omega, h.rows, by show (0 : Int) <= 1 /\ (1 : Int) <= 5; omega, hm, .inl rfl, h.queue⟩, fun _ h2 => ?_⟩
   simp [Nd.begun] at h2
 · rw [if_pos rfl]
   refine ⟨⟨by show (0 : Int) <= 2 /\ (2 : Int) <= 10; omega, by show (0 : Int) <= 0 /\ (0 : Int) <= m; omega, h.rows, by show (0 : Int) <= 1 /\ (1 : Int) <= 5; omega, hm, .inl rfl, h.queue⟩, fun _ _ => ⟨x.queue.headD Fr.zero, ?_, rfl, ?_, ?_⟩⟩
   · have hq := hs rfl
     cases hc : x.queue with
     | nil => exact absurd hc hq
     | cons f l => exact h.queue f (by rw [hc]; simp)
   · show 1 < (fall (x.queue.headD Fr.zero)).length
     rw [fall_length]
     omega
   · intro j hj _
     have hj0 : j = 0 := by
       have : j < [(0 : Int)].length := hj
       simpa using this
     subst hj0
     exact (gi_zero _).symm
theorem take_base {m : Nat} {x : Nd} (h : x.base m) (lv : Int) (hlv : lv = 0 ∨ lv = 1) : (x.take lv).1.base (m + 1) /\ (x.take lv).1.mode = x.mode /\ (x.take lv).1.sends = x.sends /\ (x.take lv).1.row = x.row /\ (x.take lv).1.queue = x.queue /\
   ((x.take lv).1.raw = x.raw /\ x.added = true ∨ (x.take lv).1.raw = x.raw ++ [lv] /\ x.added = false) := by
 have hm := h.more (Nat.le_succ m)
 have hr := h.run
 have hl := h.raw
 unfold Nd.take
 cases ha : x.added
 · have ha5 : x.run ≠ 5 := by simpa [Nd.added] using ha
   simp only [Bool.false_eq_true, false_and, if_false]
   split
   · exact ⟨⟨hm.mode, hm.k, hm.rows, by show (0 : Int) <= 0 /\ (0 : Int) <= 5; omega, by simp; omega, hm.level, hm.queue⟩, rfl, rfl, rfl, rfl, .inr ⟨rfl, trivial⟩⟩
   split
   · exact ⟨⟨hm.mode, hm.k, hm.rows, by show (0 : Int) <= x.run + 1 /\ x.run + 1 <= 5; omega, by simp; omega, hm.level, hm.queue⟩, rfl, rfl, rfl, rfl, .inr ⟨rfl, trivial⟩⟩
   · exact ⟨⟨hm.mode, hm.k, hm.rows, by show (0 : Int) <= 1 /\ (1 : Int) <= 5; omega, by simp; omega, hlv, hm.queue⟩, rfl, rfl, rfl, rfl, .inr ⟨rfl, trivial⟩⟩
 · simp only [true_and, if_true]
   split
   · exact ⟨hm, rfl, rfl, rfl, rfl, .inl ⟨rfl, trivial⟩⟩
   · exact ⟨⟨hm.mode, hm.k, hm.rows, by show (0 : Int) <= 1 /\ (1 : Int) <= 5; omega, hm.raw, hlv, hm.queue⟩, rfl, rfl, rfl, rfl, .inl ⟨rfl, trivial⟩⟩
theorem qdrop_mem (f g : Fr) : ∀ l : List Fr, g ∈ qdrop f l -> g ∈ l
 | [], h => h
 | y :: l, h => by
   unfold qdrop at h
   split at h
   · exact List.mem_cons_of_mem _ h
   · rcases List.mem_cons.1 h with rfl | h
     · simp
     · exact List.mem_cons_of_mem _ (qdrop_mem f g l h)
theorem qput_mem (f g : Fr) : ∀ l : List Fr, g ∈ qput f l -> g = f ∨ g ∈ l
 | [], h => by simp [qput] at h; exact .inl h
 | y :: l, h => by
   unfold qput at h
   split at h
   · rcases List.mem_cons.1 h with rfl | h
     · exact .inl rfl
     · exact .inr h
   · rcases List.mem_cons.1 h with rfl | h
     · exact .inr (by simp)
     · rcases qput_mem f g l h with h | h
       · exact .inl h
       · exact .inr (List.mem_cons_of_mem _ h)
theorem put_good {m : Nat} {x : Nd} (h : x.good m) (f : Fr) : Nd.good m { x with queue := pput f x.queue } := by
 refine ⟨⟨h.mode, h.k, h.rows, h.run, h.raw, h.level, ?_⟩, h.sent⟩
 intro g hg
 simp only at hg
 unfold pput at hg
 split at hg
 · rename_i hf
   rcases qput_mem f g _ hg with rfl | hg
   · exact hf.1
   · exact h.queue g hg
 · exact h.queue g hg
def Nd.goes (x : Nd) (lv : Int) : Prop := x.sends = true -> ∃ f, x.own' f /\ (x.added = false -> lv = gi x.row x.raw.length ∨ x.kind = 6)
theorem taken_good {m : Nat} {x : Nd} (h : x.base m) (h2 : x.mode = 2) (lv : Int) (hlv : lv = 0 ∨ lv = 1) (hs : x.goes lv) (t : Td) : (x.taken t lv x.kind x.place).1.good (m + 1) := by
 obtain ⟨hb, hmode, hsends, hrow, hqueue, hraw⟩ := take_base h lv hlv
 unfold Nd.taken
 simp only []
 have key : ¬ (x.kind = 8 /\ x.place = 6) -> (x.take lv).1.good (m + 1) := by
   intro hk
   refine ⟨hb, fun _ h3 => ?_⟩
   rw [hsends] at h3
   obtain ⟨f, ⟨o1, o2, o3, o4⟩, o5⟩ := hs h3
   rcases hraw with ⟨hr, ha⟩ | ⟨hr, ha⟩
   · exact ⟨f, o1, by rw [hrow]; exact o2, by rw [hrow, hr]; exact o3, by rw [hr, hrow]; exact o4⟩
   · have o4' : ∀ j, j < x.raw.length -> j < (fbits f).length -> gi x.raw j = gi (fall f) j := by rw [<- o2]; exact o4
     obtain ⟨n6, n8⟩ := next_own f o1 x.raw o4'
     have hl := fall_length f
     rw [<- o2] at hl
     refine ⟨f, o1, by rw [hrow]; exact o2, ?_, ?_⟩
     · rw [hrow, hr, List.length_append]
       by_cases e : x.raw.length = (fbits f).length + 24
       · have := n8 e
         exact absurd ⟨by unfold Nd.kind; rw [this], by unfold Nd.place; rw [this]⟩ hk
       · show x.raw.length + 1 < x.row.length
         omega
     · rw [hr, hrow]
       intro j hj hj2
       rw [List.length_append] at hj
       by_cases e : j < x.raw.length
       · rw [gi_snoc _ _ _ e]; exact o4 j e hj2
       · have hj3 : j = x.raw.length := by simp at hj; omega
         subst hj3
         have hg : gi (x.raw ++ [lv]) x.raw.length = lv := by
           unfold gi
           rw [List.getD_eq_getElem?_getD, List.getElem?_append_right (Nat.le_refl _), Nat.sub_self]
           rfl
         rw [hg]
         rcases o5 ha with e | e
         · exact e
         · have := n6 e
           omega
 split
 · by_cases hk8 : x.kind = 8
   · rw [if_pos hk8]
     unfold Nd.ends
     by_cases h5 : x.place = 5 /\ (x.take lv).1.sends = false
     · rw [if_pos h5]
       have hg := key (by omega)
       exact ⟨⟨hg.mode, hg.k, hg.rows, hg.run, hg.raw, hg.level, hg.queue⟩, hg.sent⟩
     · rw [if_neg h5]
       by_cases h6 : x.place = 6
       · rw [if_pos h6]
         split
         · have hb2 : Nd.base (m + 1) { (x.take lv).1.count (Ct.sentC (x.take lv).1.ct) with queue := qdrop (x.take lv).1.own (x.take lv).1.queue } :=
             ⟨hb.mode, hb.k, hb.rows, hb.run, hb.raw, hb.level, fun f hf => hb.queue f (qdrop_mem _ _ _ hf)⟩
           exact turn_good hb2 8 (by decide) (by decide)
         · exact turn_good hb 8 (by decide) (by decide)
       · rw [if_neg h6]
         exact key (by omega)
   · rw [if_neg hk8]
     exact key (fun h => hk8 h.1)
 · exact fail_good hb _ _ _
theorem within_good {m : Nat} {x : Nd} (h : x.base m) (h2 : x.mode = 2) (lv : Int) (hlv : lv = 0 ∨ lv = 1) (hs : x.goes lv) (t : Td) : (x.within t lv x.kind x.place x.added).1.good (m + 1) := by
 have hm := h.more (Nat.le_succ m)
 unfold Nd.within
 split
 · exact taken_good h h2 lv hlv hs t
 split
 · split
   · have hg := fail_good hm t 8 (!decide (x.state = 1))
     exact ⟨⟨hg.mode, hg.k, hg.rows, hg.run, hg.raw, hg.level, hg.queue⟩, hg.sent⟩
   · exact taken_good h h2 lv hlv hs t
 split
 · exact over_good hm t
 split
 · exact fail_good hm _ _ _
 split
 · exact fail_good hm _ _ _
 · exact taken_good h h2 lv hlv hs t
theorem inFrame_good {m : Nat} {x : Nd} (h : x.good m) (h2 : x.mode = 2) (lv : Int) (hlv : lv = 0 ∨ lv = 1) (t : Td) : (x.inFrame t lv).1.good (m + 1) := by
 have hb := h.tobase
 have hm := hb.more (Nat.le_succ m)
 unfold Nd.inFrame
 split
 · rename_i h1
   obtain ⟨hs, hd⟩ := h1
   obtain ⟨f, hf⟩ := h.sent h2 hs
   unfold Nd.differs
   split
   · rename_i h3
     simp only [if_true]
     exact within_good (x := { x with tx := false, sends := false }) ⟨hb.mode, hb.k, hb.rows, hb.run, hb.raw, hb.level, hb.queue⟩ h2 lv hlv (fun e => by simp at e) _
   split
   · exact fail_good hm _ _ _
   split
   · rename_i h5
     simp only [if_true]
     exact within_good hb h2 lv hlv (fun _ => ⟨f, hf, fun _ => .inr h5.2⟩) _
   · exact fail_good hm _ _ _
 · rename_i h1
   split
   · exact fail_good hm _ _ _
   · refine within_good hb h2 lv hlv (fun hs => ?_) _
     obtain ⟨f, hf⟩ := h.sent h2 hs
     refine ⟨f, hf, fun ha => .inl ?_⟩
     have e : lv = x.frame := Classical.byContradiction (fun hn => h1 ⟨hs, hn⟩)
     rw [e]
     unfold Nd.frame
     rw [hs, ha]
     rfl
theorem step_good {m : Nat} {x : Nd} (h : x.good m) (lv : Int) (hlv : lv = 0 ∨ lv = 1) (t : Td) : (x.step t lv).1.good (m + 1) := by
 have hb := h.tobase
 have hm := hb.more (Nat.le_succ m)
 have hk := h.k
 have hrw := h.rows
 have pend : x.pending = true -> x.queue ≠ [] := by
   intro hp e
   simp [Nd.pending, e] at hp
 unfold Nd.step
 split
 · rename_i h0
   unfold Nd.joining
   have hkk : 0 <= (if lv = 0 then (0 : Int) else x.k + 1) /\ (if lv = 0 then (0 : Int) else x.k + 1) <= (m + 1 : Nat) := by split <;> omega
   generalize (if lv = 0 then (0 : Int) else x.k + 1) = kk at *
   simp only []
   split
   · exact turn_good hm 1 (by decide) (by decide)
   · exact Nd.base.off ⟨hm.mode, hkk, hm.rows, hm.run, hm.raw, hm.level, hm.queue⟩ (by show x.mode ≠ 2; omega)
 split
 · rename_i h1
   unfold Nd.idle
   split
   · exact start_good hm _ pend (by omega)
   split
   · exact fail_good (x := { x with tx := true }) ⟨hm.mode, hm.k, hm.rows, hm.run, hm.raw, hm.level, hm.queue⟩ _ _ _
   · exact hm.off (by omega)
 split
 · rename_i h2
   exact inFrame_good h h2 lv hlv t
 have dom : x.mode ≠ 2 -> (x.dominant t lv).1.good (m + 1) := by
   intro hne
   unfold Nd.dominant
   simp only []
   have hc : (if lv = 1 then x.charge (t.tell 4) 8 else (x, t, true)).1.base m /\ ((if lv = 1 then x.charge (t.tell 4) 8 else (x, t, true)).2.2 = false -> (if lv = 1 then x.charge (t.tell 4) 8 else (x, t, true)).1.mode = 10) /\ ((if lv = 1 then x.charge (t.tell 4) 8 else (x, t, true)).2.2 = true -> (if lv = 1 then x.charge (t.tell 4) 8 else (x, t, true)).1.mode = x.mode /\ (if lv = 1 then x.charge (t.tell 4) 8 else (x, t, true)).1.k = x.k) := by
     split
     · exact charge_base hb _ _
     · exact ⟨hb, by simp, fun _ => ⟨rfl, rfl⟩⟩
   generalize (if lv = 1 then x.charge (t.tell 4) 8 else (x, t, true)) = c at *
   obtain ⟨c1, c2, c3⟩ := hc
   have cm := c1.more (Nat.le_succ m)
   split
   · rename_i h5
     split
     · exact turn_good cm 6 (by decide) (by decide)
     · have h6 := c3 h5
       refine Nd.base.off ⟨cm.mode, ?_, cm.rows, cm.run, cm.raw, cm.level, cm.queue⟩ (by show c.1.mode ≠ 2; rw [h6.1]; exact hne)
       show 0 <= c.1.k + 1 /\ c.1.k + 1 <= (m + 1 : Nat)
       omega
   · rename_i h5
     exact cm.off (by rw [c2 (by simpa using h5)]; decide)
 split
 · exact dom (by omega)
 split
 · rename_i h4
   rw [passive_eq]
   have hy : Nd.base (m + 1) { x with k := (if 0 < x.k /\ lv ≠ x.level then 0 else x.k) + 1, level := lv } :=
     ⟨hm.mode, by show 0 <= (if 0 < x.k /\ lv ≠ x.level then (0 : Int) else x.k) + 1 /\ (if 0 < x.k /\ lv ≠ x.level then (0 : Int) else x.k) + 1 <= (m + 1 : Nat); split <;> omega, hm.rows, hm.run, hm.raw, hlv, hm.queue⟩
   generalize hyy : ({ x with k := (if 0 < x.k /\ lv ≠ x.level then 0 else x.k) + 1, level := lv } : Nd) = y at *
   have hym : y.mode = x.mode := by rw [<- hyy]
   clear hyy
   unfold Nd.pass2
   have hc : (if (y.owed && decide (lv = 0)) = true then Nd.charge { y with owed := false } t 8 else (y, t, true)).1.base (m + 1) /\ ((if (y.owed && decide (lv = 0)) = true then Nd.charge { y with owed := false } t 8 else (y, t, true)).2.2 = false -> (if (y.owed && decide (lv = 0)) = true then Nd.charge { y with owed := false } t 8 else (y, t, true)).1.mode = 10) /\ ((if (y.owed && decide (lv = 0)) = true then Nd.charge { y with owed := false } t 8 else (y, t, true)).2.2 = true -> (if (y.owed && decide (lv = 0)) = true then Nd.charge { y with owed := false } t 8 else (y, t, true)).1.mode = y.mode) := by
     split
     · obtain ⟨a, b, c⟩ := charge_base (x := { y with owed := false }) ⟨hy.mode, hy.k, hy.rows, hy.run, hy.raw, hy.level, hy.queue⟩ t 8
       exact ⟨a, b, fun h => (c h).1⟩
     · exact ⟨hy, by simp, fun _ => rfl⟩
   generalize (if (y.owed && decide (lv = 0)) = true then Nd.charge { y with owed := false } t 8 else (y, t, true)) = c at *
   obtain ⟨c1, c2, c3⟩ := hc
   simp only []
   split
   · rename_i h5
     split
     · exact turn_good c1 6 (by decide) (by decide)
     · exact c1.off (by rw [c3 h5, hym]; omega)
   · rename_i h5
     exact c1.off (by rw [c2 (by simpa using h5)]; decide)
 split
 · exact dom (by omega)
 split
 · rename_i h6
   rw [waiting_eq]
   split
   · exact Nd.base.off ⟨by show (0 : Int) <= 7 /\ (7 : Int) <= 10; omega, by show (0 : Int) <= 1 /\ (1 : Int) <= (m + 1 : Nat); omega, hm.rows, hm.run, hm.raw, hm.level, hm.queue⟩ (by show (7 : Int) ≠ 2; decide)
   · have hy : Nd.base (m + 1) { x with k := x.k + 1 } := ⟨hm.mode, by show 0 <= x.k + 1 /\ x.k + 1 <= (m + 1 : Nat); omega, hm.rows, hm.run, hm.raw, hm.level, hm.queue⟩
     have hym : ({ x with k := x.k + 1 } : Nd).mode = x.mode := rfl
     generalize ({ x with k := x.k + 1 } : Nd) = y at *
     unfold Nd.wait2
     have hc : (if y.k = 1 /\ y.wrong = true /\ y.tx = false then ((y.charge t 8).1, (y.charge t 8).2.1) else (y, t)).1.base (m + 1) /\ (if y.k = 1 /\ y.wrong = true /\ y.tx = false then ((y.charge t 8).1, (y.charge t 8).2.1) else (y, t)).1.mode ≠ 2 := by
       split
       · obtain ⟨a, b, c⟩ := charge_base hy t 8
         refine ⟨a, ?_⟩
         show (y.charge t 8).1.mode ≠ 2
         cases hz : (y.charge t 8).2.2
         · rw [b hz]; decide
         · rw [(c hz).1]; omega
       · exact ⟨hy, by show y.mode ≠ 2; omega⟩
     generalize (if y.k = 1 /\ y.wrong = true /\ y.tx = false then ((y.charge t 8).1, (y.charge t 8).2.1) else (y, t)) = c at *
     simp only []
     split
     · obtain ⟨a, b, d⟩ := charge_base hc.1 c.2 8
       refine a.off ?_
       cases hz : (c.1.charge c.2 8).2.2
       · rw [b hz]; decide
       · rw [(d hz).1]; exact hc.2
     · exact hc.1.off hc.2
 split
 · unfold Nd.closing
   split
   · simp only []
     split
     · exact turn_good hm 8 (by decide) (by decide)
     · exact Nd.base.off ⟨hm.mode, by show 0 <= x.k + 1 /\ x.k + 1 <= (m + 1 : Nat); omega, hm.rows, hm.run, hm.raw, hm.level, hm.queue⟩ (by show x.mode ≠ 2; omega)
   split
   · exact over_good hm _
   · exact fail_good hm _ _ _
 split
 · unfold Nd.pause
   split
   · exact over_good hm _
   split
   · exact start_good hm _ (fun h => pend (by simp at h; exact h.1)) (by omega)
   split
   · exact Nd.base.off ⟨hm.mode, by show 0 <= x.k + 1 /\ x.k + 1 <= (m + 1 : Nat); omega, hm.rows, hm.run, hm.raw, hm.level, hm.queue⟩ (by show x.mode ≠ 2; omega)
   split
   · exact turn_good hm 9 (by decide) (by decide)
   · exact turn_good hm 1 (by decide) (by decide)
 split
 · unfold Nd.suspend
   split
   · exact start_good hm false (by simp) (by omega)
   split
   · exact turn_good hm 1 (by decide) (by decide)
   · exact Nd.base.off ⟨hm.mode, by show 0 <= x.k + 1 /\ x.k + 1 <= (m + 1 : Nat); omega, hm.rows, hm.run, hm.raw, hm.level, hm.queue⟩ (by show x.mode ≠ 2; omega)
 · unfold Nd.busOff
   have hkk : 0 <= (if lv = 0 then (0 : Int) else x.k + 1) /\ (if lv = 0 then (0 : Int) else x.k + 1) <= (m + 1 : Nat) := by split <;> omega
   generalize (if lv = 0 then (0 : Int) else x.k + 1) = kk at *
   simp only []
   have hy : (if kk = 11 then { x with k := 0, rows := x.rows + 1 } else { x with k := kk }).base (m + 1) /\ (if kk = 11 then { x with k := 0, rows := x.rows + 1 } else { x with k := kk }).mode = x.mode := by
     split
     · exact ⟨⟨hm.mode, by show (0 : Int) <= 0 /\ (0 : Int) <= (m + 1 : Nat); omega, by show 0 <= x.rows + 1 /\ x.rows + 1 <= (m + 1 : Nat); omega, hm.run, hm.raw, hm.level, hm.queue⟩, rfl⟩
     · exact ⟨⟨hm.mode, hkk, hm.rows, hm.run, hm.raw, hm.level, hm.queue⟩, rfl⟩
   generalize (if kk = 11 then ({ x with k := 0, rows := x.rows + 1 } : Nd) else { x with k := kk }) = y at *
   split
   · exact turn_good (x := { y with t := 0, r := 0, off := false, tx := false }) ⟨hy.1.mode, hy.1.k, hy.1.rows, hy.1.run, hy.1.raw, hy.1.level, hy.1.queue⟩ 1 (by decide) (by decide)
   · exact hy.1.off (by rw [hy.2]; omega)
end Pl
end Go.Proofs.YtjoehjclaonneaaGreat
