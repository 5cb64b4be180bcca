/- A part of the proof of TopReplay (no condition of its own). -/
import Derived.Test.YtjoehjclaonneaaGreatMD
namespace Go.Proofs.YtjoehjclaonneaaGreat
open Go.RowKit Go.Proofs.YtjoehjclaonneaaGreatW.PrintWords
set_option maxHeartbeats 8000000
set_option linter.unusedVariables false
set_option linter.unusedSimpArgs false
structure Qu (w : World) (b g : Nat) (q : Option Nat) (l : List Pl.Fr) : Prop where
 is : ∃ A c, Cs w g 200 [.slice A l.length c, .int .i64 16] /\ Ow Fv w b q A c l
 len : l.length <= 16
 oks : Oks l
theorem Qu.on {w w' : World} {b g : Nat} {q : Option Nat} {l : List Pl.Fr} (h : Qu w b g q l) (hc : Ch [] w w') : Qu w' b g q l := by
 obtain ⟨⟨A, c, h1, h2⟩, h3, h4⟩ := h
 exact ⟨⟨A, c, h1.on hc, h2.on hc⟩, h3, h4⟩
theorem Qu.keep {w w' : World} {b g : Nat} {q : Option Nat} {l : List Pl.Fr} (h : Qu w b g q l) {F : List Nat} (hc : Ch F w w') (hg : g ∉ F) (hq : ∀ k, q = some k -> k ∉ F) : Qu w' b g q l := by
 obtain ⟨⟨A, c, h1, h2⟩, h3, h4⟩ := h
 exact ⟨⟨A, c, h1.keep hc hg, h2.keep hc hq⟩, h3, h4⟩
theorem Qu.ne {w : World} {b g : Nat} {q : Option Nat} {l : List Pl.Fr} (h : Qu w b g q l) : ∀ k, q = some k -> g ≠ k := by
 obtain ⟨⟨A, c, h1, h2⟩, h3, h4⟩ := h
 intro k hk
 rcases h2.lies with ⟨_, _, _, h⟩ | ⟨g', cur, h, _, _, hg, _⟩
 · rw [h] at hk; cases hk
 · rw [h] at hk; cases hk
   exact blk_ne h1 hg (by decide)
theorem size_calls (w : World) (g n c : Nat) (A : Option Addr) (x : Value) (h : Cs w g 200 [.slice A n c, x]) (hn : n <= 100) :
   Calls Tryz.prog 95 #[.pointer (some ⟨g, 0, none⟩)] w fun e w' => e = .returned (.int .i64 n) /\ w' = w := by
 have c0 : w.cell? ⟨g, 0, none⟩ = some (.slice A n c) := h.cell (by rfl)
 have hg := h.lt
 clear h
 go_enter Tryz.func95, Tryz.ntmps95
 go_wp2_with fail
 go_ret
 exact ⟨rfl, rfl⟩
theorem len_calls (w : World) (g n c : Nat) (A : Option Addr) (x : Value) (h : Cs w g 200 [.slice A n c, x]) (hn : n <= 100) :
   Calls Tryz.prog 97 #[.pointer (some ⟨g, 0, none⟩)] w fun e w' => e = .returned (.int .i64 n) /\ w' = w := by
 have H := Ad (size_calls w g n c A x h hn)
 clear h
 go_enter Tryz.func97, Tryz.ntmps97
 go_wp2_with fail
 refine H.out.mono ?_
 rintro e w' ⟨rfl, rfl⟩
 go_wp2_with fail
 go_ret
 exact ⟨rfl, rfl⟩
theorem put_at (f : Pl.Fr) (l : List Pl.Fr) : ∃ p : Nat, p <= l.length /\ (Pl.idx (Pl.less f) l 0 = -1 /\ p = l.length ∨ Pl.idx (Pl.less f) l 0 = (p : Int)) /\ Pl.qput f l = l.take p ++ [f] ++ l.drop p := by
 rcases Pl.idx_cases (Pl.less f) l 0 with ⟨h1, h2⟩ | ⟨j, h1, h2, h3, h4⟩
 · refine ⟨l.length, Nat.le_refl _, .inl ⟨h1, rfl⟩, ?_⟩
   rw [Pl.qput_none f l h2]
   simp
 · exact ⟨j, by omega, .inr (by rw [h2]; simp), Pl.qput_at f l j h3 h4⟩
theorem rowPut_calls (f : Pl.Fr) (hf : f.wf) (hf' : f.ok = true) (w : World) (b g : Nat) (q : Option Nat) (l : List Pl.Fr) (h : Qu w b g q l) (hl : l.length < 16) (hbase : b <= w.heap.size) :
   Calls Tryz.prog 96 #[.pointer (some ⟨g, 0, none⟩), frv f] w fun e w' => e = .returned (.tuple #[]) /\ ∃ q', Qu w' b g q' (Pl.qput f l) /\ Ch (g :: q.toList) w w' /\ (q' = q ∨ ∃ k, q' = some k /\ w.heap.size <= k) := by
 have hgq := h.ne
 obtain ⟨⟨A, c, h1, h2⟩, h3, h4⟩ := h
 obtain ⟨n, hn⟩ : ∃ n, l.length = n := ⟨_, rfl⟩
 have HGQ := Ad (show g ∉ q.toList from fun hm => hgq g (by cases q <;> simp at hm ⊢; exact hm.symm) rfl)
 clear hgq
 rw [hn] at h1 h3 hl
 have hg := h1.lt
 have c0 : w.cell? ⟨g, 0, none⟩ = some (.slice A n c) := h1.cell (by rfl)
 have D0 := Ad (Cs.new w (frc f) 49)
 have CH0 := Ad ((Ch.refl [] w).alloc (.cells (frc f).toArray 49))
 have IX := Ad (indexF_calls f hf hf' w.heap.size A c n l hn h4 _ (h2.rd.on CH0.out) D0.out)
 have H1 := Ad h1
 have H2 := Ad h2
 have H4 := Ad h4
 have HN := Ad hn
 have HB := Ad hbase
 have HF := Ad (And.intro hf hf')
 clear h1 h2 h4 hn hbase hf hf'
 unfold frv
 go_enter Tryz.func96, Tryz.ntmps96
 go_wp2_with fail
 refine IX.out.mono ?_
 rintro e w1 ⟨rfl, hC⟩
 obtain ⟨p, hp1, hp2, hp3⟩ := put_at f l
 rw [HN.out] at hp1 hp2
 have C1 := Ad (CH0.out.then hC)
 have D1 := D0.out.on hC
 have c1 : w1.cell? ⟨g, 0, none⟩ = some (.slice A n c) := C1.out.cell c0 (by simp)
 have hbx := D1.lt
 have hg1 : g < w1.heap.size := by omega
 obtain ⟨b0, b1, b2, b3, b4, b5, b6, b7, b8, b9, b10, b11⟩ := cells12 (o := 0) (f := f) (fun j v hv => by rw [Nat.zero_add]; exact D1.cell hv)
 have C2 := Ad (C1.out.drew.alloc (.cells (frc f).toArray 49))
 have V2 := Cs.new w1.drew (frc f) 49
 have IC0 := insert_calls f w1.heap.size A b c n p q l HN.out (by omega) hp1 _ (H2.out.on C2.out) (by have := C2.out.size; have := HB.out; omega) V2 (fun k hk e => by have h1 := (H2.out.size k hk).2; have h2 := C1.out.size; omega)
 have IC : Aside0 (Calls Tryz.prog 120 #[.slice A n c, .int .i64 p, .slice (some ⟨w1.heap.size, 0, none⟩) 1 1] (w1.drew.alloc (.cells (frc f).toArray 49)) (fun e w' => ∃ A' c' q', e = .returned (.slice A' (n + 1) c') /\ w'.cell? ⟨g, 0, none⟩ = some (.slice A n c) /\ w'.frozen? ⟨g, 0, none⟩ = false /\ Aside0 (Cs w' g 200 [.slice A n c, .int .i64 16] /\ Ow Fv w' b q' A' c' (Pl.qput f l) /\ Ch q.toList w w' /\ (q' = q ∨ ∃ k, q' = some k /\ w.heap.size <= k)))) := ⟨IC0.mono (by
   rintro e w' ⟨A', c', q', h1, h2, h3, h4⟩
   have hch := (C2.out.any (F := q.toList)).then h3
   have hgk := H1.out.keep hch HGQ.out
   refine ⟨A', c', q', h1, hgk.cell (by rfl), hgk.free 0, ⟨hgk, by rw [hp3]; exact h2, hch, ?_⟩⟩
   rcases h4 with h4 | h4
   · exact .inl h4
   · exact .inr ⟨_, h4, C2.out.size⟩)⟩
 have HP3 := Ad hp3
 clear hp3 IC0 V2 D1 hC IX D0 CH0
 have fin : ∀ (w4 : World) (A' : Option Addr) (c' : Nat) (q' : Option Nat), Aside0 (Cs w4 g 200 [.slice A n c, .int .i64 16] /\ Ow Fv w4 b q' A' c' (Pl.qput f l) /\ Ch q.toList w w4 /\ (q' = q ∨ ∃ k, q' = some k /\ w.heap.size <= k)) -> Qu (w4.setCell ⟨g, 0, none⟩ (.slice A' (n + 1) c')) b g q' (Pl.qput f l) /\ Ch (g :: q.toList) w (w4.setCell ⟨g, 0, none⟩ (.slice A' (n + 1) c')) /\ (q' = q ∨ ∃ k, q' = some k /\ w.heap.size <= k) := by
   rintro w4 A' c' q' ⟨k1, k2, k3, k4⟩
   have hlq : (Pl.qput f l).length = n + 1 := by
     rw [HP3.out]
     have := HN.out
     simp
     omega
   have hqg : ∀ k, q' = some k -> k ≠ g := by
     rintro k rfl e
     subst e
     rcases k2.lies with ⟨_, _, _, h⟩ | ⟨g', cur, h, _, _, hg', _⟩
     · cases h
     · cases h; exact blk_ne k1 hg' (by decide) rfl
   refine ⟨⟨⟨A', c', ?_, k2.keep ((Ch.refl [g] w4).set _ _ (.inl (by simp))) (fun k hk => by simpa using hqg k hk)⟩, by omega, ?_⟩, ((k3.sub (fun x hx => by simp [hx])).set _ _ (.inl (by simp))), k4⟩
   · have := k1.set 0 (.slice A' (n + 1) c')
     rw [hlq]
     exact this
   · rw [HP3.out]
     intro x hx
     rw [List.mem_append, List.mem_append, List.mem_singleton] at hx
     rcases hx with (hx | rfl) | hx
     · exact H4.out x (List.mem_of_mem_take hx)
     · exact HF.out
     · exact H4.out x (List.mem_of_mem_drop hx)
 have FIN := Ad fin
 clear fin
 rcases hp2 with ⟨hp2, rfl⟩ | hp2
 · rw [hp2]
   clear hp2
   go_wp2_with fail
   go_region_with ((go_at_call 120; refine IC.out.mono ?_; rintro e w4 ⟨A', c', q', rfl, k4, f4, HX⟩))
   all_goals
     go_end0
     exact ⟨rfl, _, FIN.out _ _ _ _ HX⟩
 · rw [hp2]
   clear hp2
   go_wp2_with fail
   go_region_with ((go_at_call 120; refine IC.out.mono ?_; rintro e w4 ⟨A', c', q', rfl, k4, f4, HX⟩))
   all_goals
     go_end0
     exact ⟨rfl, _, FIN.out _ _ _ _ HX⟩
theorem drop_at (f : Pl.Fr) (l : List Pl.Fr) : (Pl.idx (fun x => decide (f = x)) l 0 = -1 /\ Pl.qdrop f l = l) ∨ ∃ p : Nat, p < l.length /\ Pl.idx (fun x => decide (f = x)) l 0 = (p : Int) /\ Pl.qdrop f l = l.take p ++ l.drop (p + 1) := by
 rcases Pl.idx_cases (fun x => decide (f = x)) l 0 with ⟨h1, h2⟩ | ⟨j, h1, h2, h3, h4⟩
 · exact .inl ⟨h1, Pl.qdrop_none f l h2⟩
 · exact .inr ⟨j, h1, by rw [h2]; simp, Pl.qdrop_at f l j h3 h4⟩
theorem rowDrop_calls (f : Pl.Fr) (w : World) (b g : Nat) (q : Option Nat) (l : List Pl.Fr) (h : Qu w b g q l) :
   Calls Tryz.prog 162 #[.pointer (some ⟨g, 0, none⟩), frv f] w fun e w' => ∃ is : Bool, e = .returned (.bool is) /\ Qu w' b g q (Pl.qdrop f l) /\ Ch (g :: q.toList) w w' := by
 have hgq := h.ne
 have H0 := Ad h
 obtain ⟨⟨A, c, h1, h2⟩, h3, h4⟩ := h
 obtain ⟨n, hn⟩ : ∃ n, l.length = n := ⟨_, rfl⟩
 have HGQ := Ad (show g ∉ q.toList from fun hm => hgq g (by cases q <;> simp at hm ⊢; exact hm.symm) rfl)
 clear hgq
 rw [hn] at h1 h3
 have hg := h1.lt
 have c0 : w.cell? ⟨g, 0, none⟩ = some (.slice A n c) := h1.cell (by rfl)
 have D0 := Cs.new w (frc f) 49
 have CH0 := Ad ((Ch.refl [] w).alloc (.cells (frc f).toArray 49))
 have c1 : (w.alloc (.cells (frc f).toArray 49)).cell? ⟨g, 0, none⟩ = some (.slice A n c) := CH0.out.cell c0 (by simp)
 have hbx := D0.lt
 have IX := Ad (index_frame f A c n l hn _ (h2.rd.on CH0.out.drew))
 obtain ⟨b0, b1, b2, b3, b4, b5, b6, b7, b8, b9, b10, b11⟩ := cells12 (o := 0) (f := f) (fun j v hv => by rw [Nat.zero_add]; exact D0.cell hv)
 have H1 := Ad h1
 have H2 := Ad h2
 have H4 := Ad h4
 have HN := Ad hn
 obtain ⟨w0, hw0⟩ : ∃ w0, w.alloc (.cells (frc f).toArray 49) = w0 := ⟨_, rfl⟩
 rw [hw0] at CH0 c1 hbx IX b0 b1 b2 b3 b4 b5 b6 b7 b8 b9 b10 b11
 simp only [frc] at hw0
 have HW := Ad hw0
 clear h1 h2 h4 hn D0 hw0
 unfold frv at *
 go_enter Tryz.func162, Tryz.ntmps162
 go_wp2_with fail
 rw [HW.out]
 go_region_with ((go_at_call 176; refine IX.out.mono ?_; rintro e w1 ⟨rfl, hC⟩))
 all_goals
   have C1 := Ad (CH0.out.drew.then hC)
   clear hC b0 b1 b2 b3 b4 b5 b6 b7 b8 b9 b10 b11 IX
   have c2 : w1.cell? ⟨g, 0, none⟩ = some (.slice A n c) := C1.out.cell c0 (by simp)
   rcases drop_at f l with ⟨hi, hd⟩ | ⟨p, hp, hi, hd⟩
   · rw [hi]
     have HD := Ad hd
     clear hi hd
     go_wp2_with fail
     go_ret
     refine ⟨false, rfl, ?_, C1.out.any⟩
     rw [HD.out]
     exact H0.out.on C1.out
   · rw [hi]
     rw [HN.out] at hp
     have HD := Ad hd
     have DC := Ad (delete_calls A b c n p q l HN.out (by omega) hp w1 (H2.out.on C1.out))
     clear hi hd
     go_wp2_with fail
     refine DC.out.mono ?_
     rintro e w2 ⟨c', rfl, hO, hC⟩
     have C2 := Ad ((C1.out.any (F := q.toList)).then hC)
     have hgk := H1.out.keep C2.out HGQ.out
     have c3 : w2.cell? ⟨g, 0, none⟩ = some (.slice A n c) := hgk.cell (by rfl)
     have f3 : w2.frozen? ⟨g, 0, none⟩ = false := hgk.free 0
     have K := Ad hgk
     have O := Ad hO
     clear hO hC hgk
     go_wp2_with fail
     go_ret
     have hlq : (Pl.qdrop f l).length = n - 1 := by
       rw [HD.out]
       have := HN.out
       simp
       omega
     have hqg : ∀ k, q = some k -> k ≠ g := by
       rintro k rfl e
       exact HGQ.out (by simp [e])
     refine ⟨true, rfl, ⟨⟨A, c', ?_, ?_⟩, by omega, ?_⟩, (C2.out.sub (fun x hx => by simp [hx])).set _ _ (.inl (by simp))⟩
     · have := K.out.set 0 (.slice A (n - 1) c')
       rw [hlq]
       exact this
     · rw [HD.out]
       exact O.out.keep ((Ch.refl [g] w2).set _ _ (.inl (by simp))) (fun k hk => by simpa using hqg k hk)
     · rw [HD.out]
       intro x hx
       rw [List.mem_append] at hx
       rcases hx with hx | hx
       · exact H4.out x (List.mem_of_mem_take hx)
       · exact H4.out x (List.mem_of_mem_drop hx)
def Pl.pput (f : Pl.Fr) (l : List Pl.Fr) : List Pl.Fr := if f.ok = true /\ l.length < 16 then Pl.qput f l else l
theorem Qu.free {w : World} {b g : Nat} {q : Option Nat} {l : List Pl.Fr} (h : Qu w b g q l) : g ∉ q.toList := fun hm => h.ne g (by cases q <;> simp at hm ⊢; exact hm.symm) rfl
theorem put_calls' (f : Pl.Fr) (hf : f.wf) (w : World) (b g : Nat) (q : Option Nat) (l : List Pl.Fr) (h : Qu w b g q l) (hbase : b <= w.heap.size) :
   Calls Tryz.prog 77 #[.pointer (some ⟨g, 0, none⟩), frv f] w fun e w' => ∃ x : Int, e = .returned (.int .i64 x) /\ ∃ q', Qu w' b g q' (Pl.pput f l) /\ Ch (g :: q.toList) w w' /\ (q' = q ∨ ∃ k, q' = some k /\ w.heap.size <= k) := by
 have D0 := Ad (Cs.new w (frc f) 49)
 have C0 := Ad ((Ch.refl [] w).alloc (.cells (frc f).toArray 49))
 obtain ⟨w0, hw0⟩ : ∃ w0, w.alloc (.cells (frc f).toArray 49) = w0 := ⟨_, rfl⟩
 have FC := Ad (fcheck_calls f hf w0)
 have H0 := Ad h
 have HF := Ad hf
 have HB := Ad hbase
 rw [hw0] at C0 D0
 simp only [frc] at hw0
 have HW := Ad hw0
 clear h hf hw0 hbase
 unfold frv at *
 go_enter Tryz.func77, Tryz.ntmps77
 go_wp2_with fail
 rw [HW.out]
 go_wp2_with (refine wpList_load_Cs rfl 49 (.tmp 3) rfl 0 (frc f) (by rfl) D0.out (fun j v hv => by rwa [Nat.zero_add]) Tryz.underlying49 rfl size49 ?_)
 refine FC.out.mono ?_
 rintro e w1 ⟨rfl, hC⟩
 have C1 := Ad (C0.out.then hC)
 have D1 := Ad (D0.out.on hC)
 clear hC FC
 by_cases hok : f.ok = true
 · rw [if_pos hok]
   have HK := Ad hok
   clear hok
   obtain ⟨⟨A, c, h1, h2⟩, h3, h4⟩ := H0.out
   obtain ⟨n, hn⟩ : ∃ n, l.length = n := ⟨_, rfl⟩
   rw [hn] at h1 h3
   have HN := Ad hn
   have h1 := h1.on C1.out
   have SZ := Ad (size_calls w1.drew g n c A _ (h1.on (Ch.refl _ _).drew) (by omega))
   have g1 : w1.cell? ⟨g, 1, none⟩ = some (.int .i64 16) := h1.cell (by rfl)
   have hgl := h1.lt
   have hbl := D1.out.lt
   clear hn h1 h2 h4
   go_wp2_with fail
   go_region_with ((go_at_call 95; refine SZ.out.mono ?_; rintro e w' ⟨rfl, rfl⟩))
   all_goals
     by_cases hl : n < 16
     · obtain ⟨b0, b1, b2, b3, b4, b5, b6, b7, b8, b9, b10, b11⟩ := cells12 (o := 0) (f := f) (fun j v hv => by rw [Nat.zero_add]; exact D1.out.cell hv)
       have RP := Ad (rowPut_calls f HF.out HK.out w1.drew.drew b g q l (H0.out.on C1.out.drew.drew) (by rw [HN.out]; exact hl) (Nat.le_trans HB.out C1.out.drew.drew.size))
       unfold frv at RP
       go_wp2_with fail
       go_region_with ((go_at_call 96; refine RP.out.mono ?_; rintro e w2 ⟨rfl, q', hQ, hC, hq⟩))
       go_wp2_with fail
       go_ret
       refine ⟨0, rfl, q', ?_, (C1.out.drew.drew.any.then hC), ?_⟩
       · rw [Pl.pput, if_pos ⟨HK.out, by rw [HN.out]; exact hl⟩]
         exact hQ
       · rcases hq with hq | ⟨k, hk, hk2⟩
         · exact .inl hq
         · exact .inr ⟨k, hk, Nat.le_trans C1.out.drew.drew.size hk2⟩
     · go_wp2_with fail
       go_ret
       refine ⟨15, rfl, q, ?_, C1.out.drew.any, .inl rfl⟩
       rw [Pl.pput, if_neg (fun h => hl (by rw [<- HN.out]; exact h.2))]
       exact H0.out.on C1.out.drew
 · rw [if_neg hok]
   have HK := Ad hok
   clear hok
   go_wp2_with fail
   go_ret
   refine ⟨14, rfl, q, ?_, C1.out.any, .inl rfl⟩
   rw [Pl.pput, if_neg (fun h => HK.out h.1)]
   exact H0.out.on C1.out
theorem first_calls (w : World) (b g : Nat) (q : Option Nat) (f : Pl.Fr) (l : List Pl.Fr) (h : Qu w b g q (f :: l)) :
   Calls Tryz.prog 140 #[.pointer (some ⟨g, 0, none⟩)] w fun e w' => e = .returned (.tuple #[frv f, .bool true]) /\ Ch [] w w' := by
 have D0 := Ad (Cs.new w zf 49)
 have C0 := Ad ((Ch.refl [] w).alloc (.cells zf.toArray 49))
 obtain ⟨w0, hw0⟩ : ∃ w0, w.alloc (.cells zf.toArray 49) = w0 := ⟨_, rfl⟩
 rw [hw0] at C0 D0
 obtain ⟨⟨A, c, h1, h2⟩, h3, h4⟩ := h
 obtain ⟨n, hn⟩ : ∃ n, (f :: l).length = n := ⟨_, rfl⟩
 rw [hn] at h1 h3
 have h1 := h1.on C0.out
 obtain ⟨g2, o2, rfl, hr⟩ := (h2.rd.on C0.out).range (k := 0) (x := f) (by rfl)
 have R := Ad (show w0.rangeAt g2 o2 (frc f) from by have : w0.rangeAt g2 (o2 + 0 * 12) (frc f) := hr; simpa using this)
 have SZ := Ad (size_calls w0 g n c _ _ h1 (by omega))
 have g0 : w0.cell? ⟨g, 0, none⟩ = some (.slice (some ⟨g2, o2, none⟩) n c) := h1.cell (by rfl)
 have hgl := h1.lt
 have hbl := D0.out.lt
 have hn0 : 0 < n := by rw [<- hn]; simp
 simp only [zf] at hw0
 have HW := Ad hw0
 clear hn h1 h2 h4 hr hw0
 go_enter Tryz.func140, Tryz.ntmps140
 go_wp2_with fail
 rw [HW.out]
 go_wp2_with fail
 refine SZ.out.mono ?_
 rintro e w' ⟨rfl, rfl⟩
 go_wp2_with (first | refine wpList_load_mid rfl 49 (.tmp 19) rfl g2 o2 (by rfl) (frc f) _ R.out Tryz.underlying49 rfl size49 ?_ | (refine wpList_store_all rfl 49 (.tmp 2) (.tmp 20) rfl (frc f) (by rfl) (by rfl) D0.out rfl size49 (frc_one f) ?_; intro w2 hb2 hc2))
 refine bodyPost_ret (v := .tuple #[frv f, .bool true]) ?_ rfl ⟨rfl, C0.out.trans hc2 (by simp)⟩
 exact results_list (rs := [.cell 2 49, .tmp 3]) rfl (by simp) (.cell w.heap.size 49 _ (0, 0) _ rfl hb2 Tryz.underlying49 rfl size49 (.tmp .nil))
theorem qdrop_calls (f : Pl.Fr) (w : World) (b g : Nat) (q : Option Nat) (l : List Pl.Fr) (h : Qu w b g q l) :
   Calls Tryz.prog 144 #[.pointer (some ⟨g, 0, none⟩), frv f] w fun e w' => ∃ x : Int, e = .returned (.int .i64 x) /\ Qu w' b g q (Pl.qdrop f l) /\ Ch (g :: q.toList) w w' := by
 have D0 := Ad (Cs.new w (frc f) 49)
 have C0 := Ad ((Ch.refl [] w).alloc (.cells (frc f).toArray 49))
 obtain ⟨w0, hw0⟩ : ∃ w0, w.alloc (.cells (frc f).toArray 49) = w0 := ⟨_, rfl⟩
 rw [hw0] at C0 D0
 have RD := Ad (rowDrop_calls f w0.drew b g q l (h.on C0.out.drew))
 obtain ⟨b0, b1, b2, b3, b4, b5, b6, b7, b8, b9, b10, b11⟩ := cells12 (o := 0) (f := f) (fun j v hv => by rw [Nat.zero_add]; exact D0.out.cell hv)
 simp only [frc] at hw0
 have HW := Ad hw0
 clear h hw0
 unfold frv at *
 go_enter Tryz.func144, Tryz.ntmps144
 go_wp2_with fail
 rw [HW.out]
 go_wp2_with fail
 go_region_with ((go_at_call 162; refine RD.out.mono ?_; rintro e w1 ⟨is, rfl, hQ, hC⟩))
 have Q1 := Ad hQ
 have C1 := Ad (C0.out.drew.any.then hC)
 clear hQ hC RD b0 b1 b2 b3 b4 b5 b6 b7 b8 b9 b10 b11
 cases is
 · go_wp2_with fail
   go_ret
   exact ⟨_, rfl, Q1.out, C1.out⟩
 · go_wp2_with fail
   go_ret
   exact ⟨_, rfl, Q1.out, C1.out⟩
theorem qnew_calls (w : World) :
   Calls Tryz.prog 76 #[.int .i64 16] w fun e w' => e = .returned (.tuple #[.pointer (some ⟨w.heap.size, 0, none⟩), .int .i64 0]) /\ Qu w' w.heap.size w.heap.size none [] /\ Ch [] w w' /\ w'.heap.size = w.heap.size + 1 := by
 go_enter Tryz.func76, Tryz.ntmps76
 go_wp2_with fail
 refine bodyPost_ret (v := .tuple #[.pointer (some ⟨w.heap.size, 0, none⟩), .int .i64 0]) (by simp [results, Tryz.f76, go_sem]) rfl ?_
 refine ⟨rfl, ⟨⟨none, 0, Cs.new w [.slice none 0 0, .int .i64 16] 200, Ow.nil _ _ _⟩, by simp, fun f hf => by simp at hf⟩, (Ch.refl _ _).alloc _, by simp⟩
namespace Ct
def cv (t r : Int) (o : Bool) : Value := .agg #[.int .i64 t, .int .i64 r, .bool o]
def ok (t r : Int) (o : Bool) : Bool := decide (0 <= r /\ r <= 255 /\ 0 <= t /\ t <= 256) && (o == decide (255 < t))
theorem within_calls (n m : Int) (b : Bool) (hb : b = decide (0 <= n /\ n <= m)) (w : World) :
   Calls Tryz.prog 181 #[.int .i64 n, .int .i64 m] w fun e w' => e = .returned (.bool b) /\ w = w' := by
 subst hb
 go_enter Tryz.func181, Tryz.ntmps181
 by_cases h : 0 <= n
 · by_cases h2 : n <= m
   · go_wp2
     go_ret
     simp [h, h2]
   · go_wp2
     go_ret
     simp [h2]
 · go_wp2
   go_ret
   simp
   omega
theorem check_calls (t r : Int) (o : Bool) (z : Int) (hz : z = if ok t r o then 0 else 10) (w : World) :
   Calls Tryz.prog 175 #[cv t r o] w fun e w' => e = .returned (.int .i64 z) /\ Below w.heap.size w w' := by
 by_cases hr : 0 <= r /\ r <= 255
 · by_cases ht : 0 <= t /\ t <= 256
   · by_cases h3 : o = decide (255 < t)
     · have HO := Ad (show z = 0 by rw [hz, show ok t r o = true by unfold ok; simp [h3]; omega]; rfl)
       clear hz
       subst h3
       go_enter Tryz.func175, Tryz.ntmps175
       unfold cv
       go_wp2_with fail
       refine (within_calls r 255 true (by simp; omega) _).mono ?_
       rintro e w2 ⟨rfl, rfl⟩
       go_wp2_with fail
       refine (within_calls t 256 true (by simp; omega) _).mono ?_
       rintro e w2 ⟨rfl, rfl⟩
       go_wp2_with fail
       go_ret
       exact ⟨by rw [HO.out]; try rfl, (Below.refl _ _).alloc (Nat.le_refl _) _⟩
     · have HO := Ad (show z = 10 by rw [hz, show ok t r o = false by unfold ok; simp [h3]]; rfl)
       clear hz
       have h4 : (o != decide (255 < t)) = true := by simp [h3]
       have h5 : o = !decide (255 < t) := by revert h3; cases o <;> cases (decide (255 < t)) <;> simp
       clear h3 h4
       subst h5
       go_enter Tryz.func175, Tryz.ntmps175
       unfold cv
       go_wp2_with fail
       refine (within_calls r 255 true (by simp; omega) _).mono ?_
       rintro e w2 ⟨rfl, rfl⟩
       go_wp2_with fail
       refine (within_calls t 256 true (by simp; omega) _).mono ?_
       rintro e w2 ⟨rfl, rfl⟩
       go_wp2_with fail
       go_ret
       exact ⟨by rw [HO.out]; try rfl, (Below.refl _ _).alloc (Nat.le_refl _) _⟩
   · have HO := Ad (show z = 10 by rw [hz, show ok t r o = false by unfold ok; simp; intros; omega]; rfl)
     clear hz
     go_enter Tryz.func175, Tryz.ntmps175
     unfold cv
     go_wp2_with fail
     refine (within_calls r 255 true (by simp; omega) _).mono ?_
     rintro e w2 ⟨rfl, rfl⟩
     go_wp2_with fail
     refine (within_calls t 256 false (by simp; omega) _).mono ?_
     rintro e w2 ⟨rfl, rfl⟩
     go_wp2_with fail
     go_ret
     exact ⟨by rw [HO.out]; try rfl, (Below.refl _ _).alloc (Nat.le_refl _) _⟩
 · have HO := Ad (show z = 10 by rw [hz, show ok t r o = false by unfold ok; simp; intros; omega]; rfl)
   clear hz
   go_enter Tryz.func175, Tryz.ntmps175
   unfold cv
   go_wp2_with fail
   refine (within_calls r 255 false (by simp; omega) _).mono ?_
   rintro e w2 ⟨rfl, rfl⟩
   go_wp2_with fail
   go_ret
   exact ⟨by rw [HO.out]; try rfl, (Below.refl _ _).alloc (Nat.le_refl _) _⟩
theorem state_calls (t r : Int) (o : Bool) (z : Int) (hz : z = if o then 2 else if 127 < t ∨ 127 < r then 1 else 0) (w : World) :
   Calls Tryz.prog 125 #[cv t r o] w fun e w' => e = .returned (.int .i64 z) /\ Below w.heap.size w w' := by
 have HZ := Ad hz
 clear hz
 cases o
 · by_cases h1 : 127 < t
   · go_enter Tryz.func125, Tryz.ntmps125
     unfold cv
     go_wp2
     go_ret
     exact ⟨by rw [HZ.out]; simp [h1], (Below.refl _ _).alloc (Nat.le_refl _) _⟩
   · by_cases h2 : 127 < r
     · go_enter Tryz.func125, Tryz.ntmps125
       unfold cv
       go_wp2
       go_ret
       exact ⟨by rw [HZ.out]; simp [h2], (Below.refl _ _).alloc (Nat.le_refl _) _⟩
     · go_enter Tryz.func125, Tryz.ntmps125
       unfold cv
       go_wp2
       go_ret
       exact ⟨by rw [HZ.out]; simp [h1, h2], (Below.refl _ _).alloc (Nat.le_refl _) _⟩
 · go_enter Tryz.func125, Tryz.ntmps125
   unfold cv
   go_wp2
   go_ret
   exact ⟨by rw [HZ.out]; rfl, (Below.refl _ _).alloc (Nat.le_refl _) _⟩
def TurnAt (W : World) (B : Nat) (t r : Int) (o : Bool) : Prop := W.heap[B]? = some (.cells #[.int .i64 t, .int .i64 r, .bool o] 251 (0, 0))
theorem TurnAt.cells {W : World} {B : Nat} {t r : Int} {o : Bool} (h : TurnAt W B t r o) : W.cell? ⟨B, 0, none⟩ = some (.int .i64 t) /\ W.cell? ⟨B, 1, none⟩ = some (.int .i64 r) /\ W.cell? ⟨B, 2, none⟩ = some (.bool o) /\ W.frozen? ⟨B, 0, none⟩ = false /\ W.frozen? ⟨B, 1, none⟩ = false /\ W.frozen? ⟨B, 2, none⟩ = false := by
 simp [World.cell?, World.frozen?, show W.heap[B]? = _ from h]
theorem TurnAt.lt {W : World} {B : Nat} {t r : Int} {o : Bool} (h : TurnAt W B t r o) : B < W.heap.size := (Array.getElem?_eq_some_iff.1 h).1
theorem TurnAt.set0 {W : World} {B : Nat} {t r : Int} {o : Bool} (h : TurnAt W B t r o) (t' : Int) : TurnAt (W.setCell ⟨B, 0, none⟩ (.int .i64 t')) B t' r o := by
 obtain ⟨hlt, hk⟩ := Array.getElem?_eq_some_iff.1 h
 show (W.heap.modify B _)[B]? = _
 rw [Array.getElem?_eq_getElem (by rw [Array.size_modify]; exact hlt), Array.getElem_modify_self, hk]
 rfl
theorem TurnAt.set1 {W : World} {B : Nat} {t r : Int} {o : Bool} (h : TurnAt W B t r o) (r' : Int) : TurnAt (W.setCell ⟨B, 1, none⟩ (.int .i64 r')) B t r' o := by
 obtain ⟨hlt, hk⟩ := Array.getElem?_eq_some_iff.1 h
 show (W.heap.modify B _)[B]? = _
 rw [Array.getElem?_eq_getElem (by rw [Array.size_modify]; exact hlt), Array.getElem_modify_self, hk]
 rfl
theorem TurnAt.set2 {W : World} {B : Nat} {t r : Int} {o : Bool} (h : TurnAt W B t r o) (o' : Bool) : TurnAt (W.setCell ⟨B, 2, none⟩ (.bool o')) B t r o' := by
 obtain ⟨hlt, hk⟩ := Array.getElem?_eq_some_iff.1 h
 show (W.heap.modify B _)[B]? = _
 rw [Array.getElem?_eq_getElem (by rw [Array.size_modify]; exact hlt), Array.getElem_modify_self, hk]
 rfl
theorem TurnAt.under {W W' : World} {n B : Nat} {t r : Int} {o : Bool} (h : TurnAt W B t r o) (hb : Below n W W') (hB : B < n) : TurnAt W' B t r o := (hb.block B hB).trans h
def Turned (B : Nat) (W W' : World) : Prop := Below B W W' /\ ∀ k, k ≠ B -> W'.heap[k]? = W.heap[k]?
theorem Turned.refl (B : Nat) (W : World) : Turned B W W := ⟨Below.refl _ _, fun _ _ => rfl⟩
theorem Turned.set {B : Nat} {W W' : World} (h : Turned B W W') (i : Nat) (v : Value) : Turned B W (W'.setCell ⟨B, i, none⟩ v) :=
 ⟨h.1.setCell (p := ⟨B, i, none⟩) (Nat.le_refl _) v, fun k hk => (Below.heap_setCell _ _ _ k (fun e => hk e)).trans (h.2 k hk)⟩
theorem Turned.drew {B : Nat} {W W' : World} (h : Turned B W W') : Turned B W W'.drew := ⟨h.1.drew, h.2⟩
theorem sent_calls (B : Nat) (t r : Int) (o : Bool) (W : World) (h : TurnAt W B t r o) (h0 : 0 <= t /\ t <= 256) :
   Calls Tryz.prog 161 #[.pointer (some ⟨B, 0, none⟩)] W fun e W' => (∃ v, e = .returned v) /\ TurnAt W' B (if 0 < t then t - 1 else 0) r o /\ Turned B W W' := by
 obtain ⟨y0, y1, y2, f0, f1, f2⟩ := h.cells
 have H := Ad h
 clear h
 by_cases c : 0 < t
 · rw [if_pos c]
   go_enter Tryz.func161, Tryz.ntmps161
   go_wp2
   go_end0
   exact ⟨⟨_, rfl⟩, H.out.set0 _, (Turned.refl _ _).set 0 _⟩
 · rw [if_neg c]
   obtain rfl : t = 0 := by omega
   go_enter Tryz.func161, Tryz.ntmps161
   go_wp2
   go_end0
   exact ⟨⟨_, rfl⟩, H.out.set0 _, (Turned.refl _ _).set 0 _⟩
theorem received_calls (B : Nat) (t r : Int) (o : Bool) (W : World) (h : TurnAt W B t r o) (h0 : 0 <= r /\ r <= 255) :
   Calls Tryz.prog 160 #[.pointer (some ⟨B, 0, none⟩)] W fun e W' => (∃ v, e = .returned v) /\ TurnAt W' B t (if 127 < r then 119 else if 0 < r then r - 1 else 0) o /\ Turned B W W' := by
 obtain ⟨y0, y1, y2, f0, f1, f2⟩ := h.cells
 have H := Ad h
 clear h
 by_cases c : 127 < r
 · rw [if_pos c]
   go_enter Tryz.func160, Tryz.ntmps160
   go_wp2
   refine bodyPost_ret (results_none rfl _ _ _) rfl ?_
   exact ⟨⟨_, rfl⟩, H.out.set1 _, (Turned.refl _ _).set 1 _⟩
 · rw [if_neg c]
   by_cases d : 0 < r
   · rw [if_pos d]
     go_enter Tryz.func160, Tryz.ntmps160
     go_wp2
     go_end0
     exact ⟨⟨_, rfl⟩, H.out.set1 _, (Turned.refl _ _).set 1 _⟩
   · rw [if_neg d]
     obtain rfl : r = 0 := by omega
     go_enter Tryz.func160, Tryz.ntmps160
     go_wp2
     go_end0
     exact ⟨⟨_, rfl⟩, H.out.set1 _, (Turned.refl _ _).set 1 _⟩
theorem tx_calls (B : Nat) (t r : Int) (W : World) (h : TurnAt W B t r false) (h0 : 0 <= t /\ t <= 256) :
   Calls Tryz.prog 163 #[.pointer (some ⟨B, 0, none⟩)] W fun e W' => (∃ v, e = .returned v) /\ TurnAt W' B (if 247 < t then 256 else t + 8) r (decide (247 < t)) /\ Turned B W W' := by
 obtain ⟨y0, y1, y2, f0, f1, f2⟩ := h.cells
 have H := Ad h
 clear h
 by_cases c : 247 < t
 · rw [if_pos c, decide_eq_true c]
   have c2 : 255 < t + 8 := by omega
   go_enter Tryz.func163, Tryz.ntmps163
   go_wp2
   go_end0
   exact ⟨⟨_, rfl⟩, ((H.out.set0 _).set0 _).set2 _, (((Turned.refl _ _).set 0 _).set 0 _).set 2 _⟩
 · rw [if_neg c, decide_eq_false c]
   have c2 : ¬ 255 < t + 8 := by omega
   go_enter Tryz.func163, Tryz.ntmps163
   go_wp2
   go_end0
   exact ⟨⟨_, rfl⟩, H.out.set0 _, (Turned.refl _ _).set 0 _⟩
theorem rx_calls (B P Q : Nat) (t r g : Int) (o : Bool) (W : World) (h : TurnAt W B t r o) (h0 : 0 <= r /\ r <= 255) (hg : g = 1 ∨ g = 8) (hP : W.cell? ⟨P, 0, none⟩ = some (.pointer (some ⟨B, 0, none⟩))) (hQ : W.cell? ⟨Q, 0, none⟩ = some (.int .i64 g)) :
   Calls Tryz.prog 164 #[.pointer (some ⟨P, 0, none⟩), .pointer (some ⟨Q, 0, none⟩)] W fun e W' => (∃ v, e = .returned v) /\ TurnAt W' B t (if r + g <= 255 then r + g else 255) o /\ Turned B W W' := by
 obtain ⟨y0, y1, y2, f0, f1, f2⟩ := h.cells
 have H := Ad h
 clear h
 by_cases c : r + g <= 255
 · rw [if_pos c]
   go_enter Tryz.func164, Tryz.ntmps164
   go_wp2
   go_region
   go_wp2
   go_end0
   exact ⟨⟨_, rfl⟩, H.out.set1 _, ((Turned.refl _ _).set 1 _).drew⟩
 · rw [if_neg c]
   go_enter Tryz.func164, Tryz.ntmps164
   go_wp2
   go_region
   go_wp2
   go_end0
   exact ⟨⟨_, rfl⟩, H.out.set1 _, ((Turned.refl _ _).set 1 _).drew⟩
theorem TurnAt.below {W W' : World} {B : Nat} {t r : Int} {o : Bool} (h : TurnAt W B t r o) (hb : Below W.heap.size W W') : TurnAt W' B t r o := h.under hb h.lt
theorem check_cv (t r : Int) (o : Bool) (z : Int) (hz : z = if ok t r o then 0 else 10) (w : World) :
   Calls Tryz.prog 175 #[.agg #[.int .i64 t, .int .i64 r, .bool o]] w fun e w' => e = .returned (.int .i64 z) /\ Below w.heap.size w w' := check_calls t r o z hz w
def CountAt (W : World) (B : Nat) (t r : Int) (o : Bool) : Prop := W.heap[B]? = some (.cells #[.int .i64 t, .int .i64 r, .bool o] 164 (0, 0))
theorem CountAt.cells {W : World} {B : Nat} {t r : Int} {o : Bool} (h : CountAt W B t r o) : W.cell? ⟨B, 0, none⟩ = some (.int .i64 t) /\ W.cell? ⟨B, 1, none⟩ = some (.int .i64 r) /\ W.cell? ⟨B, 2, none⟩ = some (.bool o) /\ W.frozen? ⟨B, 0, none⟩ = false /\ W.frozen? ⟨B, 1, none⟩ = false /\ W.frozen? ⟨B, 2, none⟩ = false := by
 simp [World.cell?, World.frozen?, show W.heap[B]? = _ from h]
theorem CountAt.lt {W : World} {B : Nat} {t r : Int} {o : Bool} (h : CountAt W B t r o) : B < W.heap.size := (Array.getElem?_eq_some_iff.1 h).1
theorem CountAt.below {W W' : World} {B : Nat} {t r : Int} {o : Bool} (h : CountAt W B t r o) (hb : Below W.heap.size W W') : CountAt W' B t r o := (hb.block B h.lt).trans h
theorem CountAt.set0 {W : World} {B : Nat} {t r : Int} {o : Bool} (h : CountAt W B t r o) (t' : Int) : CountAt (W.setCell ⟨B, 0, none⟩ (.int .i64 t')) B t' r o := by
 obtain ⟨hlt, hk⟩ := Array.getElem?_eq_some_iff.1 h
 show (W.heap.modify B _)[B]? = _
 rw [Array.getElem?_eq_getElem (by rw [Array.size_modify]; exact hlt), Array.getElem_modify_self, hk]
 rfl
theorem CountAt.set1 {W : World} {B : Nat} {t r : Int} {o : Bool} (h : CountAt W B t r o) (r' : Int) : CountAt (W.setCell ⟨B, 1, none⟩ (.int .i64 r')) B t r' o := by
 obtain ⟨hlt, hk⟩ := Array.getElem?_eq_some_iff.1 h
 show (W.heap.modify B _)[B]? = _
 rw [Array.getElem?_eq_getElem (by rw [Array.size_modify]; exact hlt), Array.getElem_modify_self, hk]
 rfl
theorem CountAt.set2 {W : World} {B : Nat} {t r : Int} {o : Bool} (h : CountAt W B t r o) (o' : Bool) : CountAt (W.setCell ⟨B, 2, none⟩ (.bool o')) B t r o' := by
 obtain ⟨hlt, hk⟩ := Array.getElem?_eq_some_iff.1 h
 show (W.heap.modify B _)[B]? = _
 rw [Array.getElem?_eq_getElem (by rw [Array.size_modify]; exact hlt), Array.getElem_modify_self, hk]
 rfl
theorem CountAt.put {W : World} {B : Nat} {t r : Int} {o : Bool} (h : CountAt W B t r o) (t' r' : Int) (o' : Bool) : CountAt (((W.setCell ⟨B, 0, none⟩ (.int .i64 t')).setCell ⟨B, 1, none⟩ (.int .i64 r')).setCell ⟨B, 2, none⟩ (.bool o')) B t' r' o' := ((h.set0 t').set1 r').set2 o'
theorem Below.put {n : Nat} {W W' : World} (h : Below n W W') (B : Nat) (hB : n <= B) (x y z : Value) : Below n W (((W'.setCell ⟨B, 0, none⟩ x).setCell ⟨B, 1, none⟩ y).setCell ⟨B, 2, none⟩ z) :=
 ((h.setCell (p := ⟨B, 0, none⟩) hB x).setCell (p := ⟨B, 1, none⟩) hB y).setCell (p := ⟨B, 2, none⟩) hB z
theorem runs_skip (B : Nat) (g : Value) (t r : Int) (o : Bool) (W : World) (h : TurnAt W B t r o) (hk : (ok t r o && !o) = false) :
   Calls Tryz.prog 159 #[.pointer (some ⟨B, 0, none⟩), g] W fun e W' => e = .returned (cv t r o) /\ Below W.heap.size W W' := by
 obtain ⟨W1, hW1⟩ : ∃ W1, W.alloc (.cells #[.int .i64 0, .int .i64 0, .bool false] 164) = W1 := ⟨_, rfl⟩
 have H1 := Ad (show TurnAt W1 B t r o from hW1 ▸ h.below ((Below.refl _ _).alloc (Nat.le_refl _) _))
 have C1 := Ad (show CountAt W1 W.heap.size 0 0 false from hW1 ▸ heap_alloc_new W _)
 have B1 := Ad (show Below W.heap.size W W1 from hW1 ▸ (Below.refl _ _).alloc (Nat.le_refl _) _)
 have hn : Aside0 (B ≠ W.heap.size) := ⟨by have := h.lt; omega⟩
 obtain ⟨y0, y1, y2, -, -, -⟩ := H1.out.cells
 clear h
 by_cases hok : ok t r o = true
 · obtain rfl : o = true := by rw [hok] at hk; cases o <;> simp_all
   have HO := Ad hok
   clear hok hk
   go_enter Tryz.func159, Tryz.ntmps159
   go_wp2_with fail
   refine (check_cv t r true 0 (by rw [HO.out]; rfl) W1).mono ?_
   rintro e w2 ⟨rfl, b2⟩
   have H2 := Ad (H1.out.below b2)
   have C2 := Ad (C1.out.below b2)
   have B2 := Ad (below_step B1.out b2)
   clear b2 y0 y1 y2 hW1
   obtain ⟨y0, y1, y2, -, -, -⟩ := H2.out.cells
   obtain ⟨x0, x1, x2, f0, f1, f2⟩ := C2.out.cells
   simp only []
   repeat go_step
   have C3 := CountAt.put C2.out t r true
   have B3 := Below.put B2.out W.heap.size (Nat.le_refl _) (.int .i64 t) (.int .i64 r) (.bool true)
   obtain ⟨z0, z1, z2, -, -, -⟩ := C3.cells
   refine bodyPost_ret (v := cv t r true) ?_ rfl ⟨rfl, B3⟩
   simp [results, Tryz.f159, go_sem, z0, z1, z2, cv]
 · have HO := Ad (show ok t r o = false by simpa using hok)
   clear hok hk
   go_enter Tryz.func159, Tryz.ntmps159
   go_wp2_with fail
   refine (check_cv t r o 10 (by rw [HO.out]; rfl) W1).mono ?_
   rintro e w2 ⟨rfl, b2⟩
   have H2 := Ad (H1.out.below b2)
   have C2 := Ad (C1.out.below b2)
   have B2 := Ad (below_step B1.out b2)
   clear b2 y0 y1 y2 hW1
   obtain ⟨y0, y1, y2, -, -, -⟩ := H2.out.cells
   obtain ⟨x0, x1, x2, f0, f1, f2⟩ := C2.out.cells
   go_wp2_with fail
   have C3 := CountAt.put C2.out t r o
   have B3 := Below.put B2.out W.heap.size (Nat.le_refl _) (.int .i64 t) (.int .i64 r) (.bool o)
   obtain ⟨z0, z1, z2, -, -, -⟩ := C3.cells
   refine bodyPost_ret (v := cv t r o) ?_ rfl ⟨rfl, B3⟩
   simp [results, Tryz.f159, go_sem, z0, z1, z2, cv]
theorem ok_rng {t r : Int} (h : ok t r false = true) : 0 <= r /\ r <= 255 /\ 0 <= t /\ t <= 255 := by
 unfold ok at h
 simp at h
 omega
theorem runs_sent (B : Nat) (t r : Int) (W : World) (h : TurnAt W B t r false) (hok : ok t r false = true) (t' : Int) (ht : (if 0 < t then t - 1 else 0) = t') :
   Calls Tryz.prog 159 #[.pointer (some ⟨B, 0, none⟩), .func (.func 161) #[.pointer (some ⟨B, 0, none⟩)] #[]] W fun e W' => e = .returned (cv t' r false) /\ Below B W W' := by
 obtain ⟨W1, hW1⟩ : ∃ W1, W.alloc (.cells #[.int .i64 0, .int .i64 0, .bool false] 164) = W1 := ⟨_, rfl⟩
 have H1 := Ad (show TurnAt W1 B t r false from hW1 ▸ h.below ((Below.refl _ _).alloc (Nat.le_refl _) _))
 have C1 := Ad (show CountAt W1 W.heap.size 0 0 false from hW1 ▸ heap_alloc_new W _)
 have B1 := Ad (show Below W.heap.size W W1 from hW1 ▸ (Below.refl _ _).alloc (Nat.le_refl _) _)
 have hlt := Ad h.lt
 have hrg := Ad (ok_rng hok)
 have HO := Ad hok
 obtain ⟨y0, y1, y2, -, -, -⟩ := H1.out.cells
 have HT := Ad ht
 clear h hok ht
 go_enter Tryz.func159, Tryz.ntmps159
 go_wp2_with fail
 refine (check_cv t r false 0 (by rw [HO.out]; rfl) W1).mono ?_
 rintro e w2 ⟨rfl, b2⟩
 have H2 := Ad (H1.out.below b2)
 have C2 := Ad (C1.out.below b2)
 have B2 := Ad (below_step B1.out b2)
 clear b2 y0 y1 y2 hW1
 obtain ⟨y0, y1, y2, -, -, -⟩ := H2.out.cells
 go_wp2_with fail
 refine (sent_calls B t r false w2 H2.out ⟨by have := hrg.out; omega, by have := hrg.out; omega⟩).mono ?_
 rintro e w3 ⟨⟨v, rfl⟩, h3, tn⟩
 have C3 := Ad (show CountAt w3 W.heap.size 0 0 false from (tn.2 _ (by have := hlt.out; omega)).trans C2.out)
 have B3 := Ad (show Below B W w3 from (B2.out.mono (by have := hlt.out; omega)).trans tn.1)
 have H3 := Ad h3
 rw [HT.out] at H3
 clear h3 tn y0 y1 y2
 obtain ⟨y0, y1, y2, -, -, -⟩ := H3.out.cells
 obtain ⟨x0, x1, x2, f0, f1, f2⟩ := C3.out.cells
 go_wp2_with fail
 have C4 := CountAt.put C3.out t' r false
 have B4 := Below.put B3.out W.heap.size (by have := hlt.out; omega) (.int .i64 t') (.int .i64 r) (.bool false)
 obtain ⟨z0, z1, z2, -, -, -⟩ := C4.cells
 refine bodyPost_ret (v := cv t' r false) ?_ rfl ⟨rfl, B4⟩
 simp [results, Tryz.f159, go_sem, z0, z1, z2, cv]
theorem runs_received (B : Nat) (t r : Int) (W : World) (h : TurnAt W B t r false) (hok : ok t r false = true) (r' : Int) (ht : (if 127 < r then 119 else if 0 < r then r - 1 else 0) = r') :
   Calls Tryz.prog 159 #[.pointer (some ⟨B, 0, none⟩), .func (.func 160) #[.pointer (some ⟨B, 0, none⟩)] #[]] W fun e W' => e = .returned (cv t r' false) /\ Below B W W' := by
 obtain ⟨W1, hW1⟩ : ∃ W1, W.alloc (.cells #[.int .i64 0, .int .i64 0, .bool false] 164) = W1 := ⟨_, rfl⟩
 have H1 := Ad (show TurnAt W1 B t r false from hW1 ▸ h.below ((Below.refl _ _).alloc (Nat.le_refl _) _))
 have C1 := Ad (show CountAt W1 W.heap.size 0 0 false from hW1 ▸ heap_alloc_new W _)
 have B1 := Ad (show Below W.heap.size W W1 from hW1 ▸ (Below.refl _ _).alloc (Nat.le_refl _) _)
 have hlt := Ad h.lt
 have hrg := Ad (ok_rng hok)
 have HO := Ad hok
 obtain ⟨y0, y1, y2, -, -, -⟩ := H1.out.cells
 have HT := Ad ht
 clear h hok ht
 go_enter Tryz.func159, Tryz.ntmps159
 go_wp2_with fail
 refine (check_cv t r false 0 (by rw [HO.out]; rfl) W1).mono ?_
 rintro e w2 ⟨rfl, b2⟩
 have H2 := Ad (H1.out.below b2)
 have C2 := Ad (C1.out.below b2)
 have B2 := Ad (below_step B1.out b2)
 clear b2 y0 y1 y2 hW1
 obtain ⟨y0, y1, y2, -, -, -⟩ := H2.out.cells
 go_wp2_with fail
 refine (received_calls B t r false w2 H2.out ⟨by have := hrg.out; omega, by have := hrg.out; omega⟩).mono ?_
 rintro e w3 ⟨⟨v, rfl⟩, h3, tn⟩
 have C3 := Ad (show CountAt w3 W.heap.size 0 0 false from (tn.2 _ (by have := hlt.out; omega)).trans C2.out)
 have B3 := Ad (show Below B W w3 from (B2.out.mono (by have := hlt.out; omega)).trans tn.1)
 have H3 := Ad h3
 rw [HT.out] at H3
 clear h3 tn y0 y1 y2
 obtain ⟨y0, y1, y2, -, -, -⟩ := H3.out.cells
 obtain ⟨x0, x1, x2, f0, f1, f2⟩ := C3.out.cells
 go_wp2_with fail
 have C4 := CountAt.put C3.out t r' false
 have B4 := Below.put B3.out W.heap.size (by have := hlt.out; omega) (.int .i64 t) (.int .i64 r') (.bool false)
 obtain ⟨z0, z1, z2, -, -, -⟩ := C4.cells
 refine bodyPost_ret (v := cv t r' false) ?_ rfl ⟨rfl, B4⟩
 simp [results, Tryz.f159, go_sem, z0, z1, z2, cv]
theorem runs_tx (B : Nat) (t r : Int) (W : World) (h : TurnAt W B t r false) (hok : ok t r false = true) (t' : Int) (o' : Bool) (ht : (if 247 < t then 256 else t + 8) = t') (ho : decide (247 < t) = o') :
   Calls Tryz.prog 159 #[.pointer (some ⟨B, 0, none⟩), .func (.func 163) #[.pointer (some ⟨B, 0, none⟩)] #[]] W fun e W' => e = .returned (cv t' r o') /\ Below B W W' := by
 obtain ⟨W1, hW1⟩ : ∃ W1, W.alloc (.cells #[.int .i64 0, .int .i64 0, .bool false] 164) = W1 := ⟨_, rfl⟩
 have H1 := Ad (show TurnAt W1 B t r false from hW1 ▸ h.below ((Below.refl _ _).alloc (Nat.le_refl _) _))
 have C1 := Ad (show CountAt W1 W.heap.size 0 0 false from hW1 ▸ heap_alloc_new W _)
 have B1 := Ad (show Below W.heap.size W W1 from hW1 ▸ (Below.refl _ _).alloc (Nat.le_refl _) _)
 have hlt := Ad h.lt
 have hrg := Ad (ok_rng hok)
 have HO := Ad hok
 obtain ⟨y0, y1, y2, -, -, -⟩ := H1.out.cells
 have HT := Ad ht
 have HB := Ad ho
 clear h hok ht ho
 go_enter Tryz.func159, Tryz.ntmps159
 go_wp2_with fail
 refine (check_cv t r false 0 (by rw [HO.out]; rfl) W1).mono ?_
 rintro e w2 ⟨rfl, b2⟩
 have H2 := Ad (H1.out.below b2)
 have C2 := Ad (C1.out.below b2)
 have B2 := Ad (below_step B1.out b2)
 clear b2 y0 y1 y2 hW1
 obtain ⟨y0, y1, y2, -, -, -⟩ := H2.out.cells
 go_wp2_with fail
 refine (tx_calls B t r w2 H2.out ⟨by have := hrg.out; omega, by have := hrg.out; omega⟩).mono ?_
 rintro e w3 ⟨⟨v, rfl⟩, h3, tn⟩
 have C3 := Ad (show CountAt w3 W.heap.size 0 0 false from (tn.2 _ (by have := hlt.out; omega)).trans C2.out)
 have B3 := Ad (show Below B W w3 from (B2.out.mono (by have := hlt.out; omega)).trans tn.1)
 have H3 := Ad h3
 rw [HT.out, HB.out] at H3
 clear h3 tn y0 y1 y2
 obtain ⟨y0, y1, y2, -, -, -⟩ := H3.out.cells
 obtain ⟨x0, x1, x2, f0, f1, f2⟩ := C3.out.cells
 go_wp2_with fail
 have C4 := CountAt.put C3.out t' r o'
 have B4 := Below.put B3.out W.heap.size (by have := hlt.out; omega) (.int .i64 t') (.int .i64 r) (.bool o')
 obtain ⟨z0, z1, z2, -, -, -⟩ := C4.cells
 refine bodyPost_ret (v := cv t' r o') ?_ rfl ⟨rfl, B4⟩
 simp [results, Tryz.f159, go_sem, z0, z1, z2, cv]
theorem runs_rx (B P Q : Nat) (t r g : Int) (W : World) (h : TurnAt W B t r false) (hok : ok t r false = true) (hg : g = 1 ∨ g = 8) (hP : W.cell? ⟨P, 0, none⟩ = some (.pointer (some ⟨B, 0, none⟩))) (hQ : W.cell? ⟨Q, 0, none⟩ = some (.int .i64 g)) (r' : Int) (ht : (if r + g <= 255 then r + g else 255) = r') :
   Calls Tryz.prog 159 #[.pointer (some ⟨B, 0, none⟩), .func (.func 164) #[] #[.pointer (some ⟨P, 0, none⟩), .pointer (some ⟨Q, 0, none⟩)]] W fun e W' => e = .returned (cv t r' false) /\ Below B W W' := by
 obtain ⟨W1, hW1⟩ : ∃ W1, W.alloc (.cells #[.int .i64 0, .int .i64 0, .bool false] 164) = W1 := ⟨_, rfl⟩
 have H1 := Ad (show TurnAt W1 B t r false from hW1 ▸ h.below ((Below.refl _ _).alloc (Nat.le_refl _) _))
 have C1 := Ad (show CountAt W1 W.heap.size 0 0 false from hW1 ▸ heap_alloc_new W _)
 have B1 := Ad (show Below W.heap.size W W1 from hW1 ▸ (Below.refl _ _).alloc (Nat.le_refl _) _)
 have hlt := Ad h.lt
 have hrg := Ad (ok_rng hok)
 have HO := Ad hok
 obtain ⟨y0, y1, y2, -, -, -⟩ := H1.out.cells
 have HT := Ad ht
 have HG := Ad hg
 have HP := Ad hP
 have HQ := Ad hQ
 clear h hok ht hg hP hQ
 go_enter Tryz.func159, Tryz.ntmps159
 go_wp2_with fail
 refine (check_cv t r false 0 (by rw [HO.out]; rfl) W1).mono ?_
 rintro e w2 ⟨rfl, b2⟩
 have H2 := Ad (H1.out.below b2)
 have C2 := Ad (C1.out.below b2)
 have B2 := Ad (below_step B1.out b2)
 clear b2 y0 y1 y2 hW1
 obtain ⟨y0, y1, y2, -, -, -⟩ := H2.out.cells
 go_wp2_with fail
 refine (rx_calls B P Q t r g false w2 H2.out ⟨by have := hrg.out; omega, by have := hrg.out; omega⟩ HG.out (pw_cell_below B2.out HP.out) (pw_cell_below B2.out HQ.out)).mono ?_
 rintro e w3 ⟨⟨v, rfl⟩, h3, tn⟩
 have C3 := Ad (show CountAt w3 W.heap.size 0 0 false from (tn.2 _ (by have := hlt.out; omega)).trans C2.out)
 have B3 := Ad (show Below B W w3 from (B2.out.mono (by have := hlt.out; omega)).trans tn.1)
 have H3 := Ad h3
 rw [HT.out] at H3
 clear h3 tn y0 y1 y2
 obtain ⟨y0, y1, y2, -, -, -⟩ := H3.out.cells
 obtain ⟨x0, x1, x2, f0, f1, f2⟩ := C3.out.cells
 go_wp2_with fail
 have C4 := CountAt.put C3.out t r' false
 have B4 := Below.put B3.out W.heap.size (by have := hlt.out; omega) (.int .i64 t) (.int .i64 r') (.bool false)
 obtain ⟨z0, z1, z2, -, -, -⟩ := C4.cells
 refine bodyPost_ret (v := cv t r' false) ?_ rfl ⟨rfl, B4⟩
 simp [results, Tryz.f159, go_sem, z0, z1, z2, cv]
end Ct
namespace Ct
theorem back_calls (t r : Int) (o : Bool) (W : World) :
   Calls Tryz.prog 132 #[cv t r o] W fun e W' => e = .returned (cv 0 0 false) /\ Below W.heap.size W W' := by
 unfold cv
 go_enter Tryz.func132, Tryz.ntmps132
 go_wp2
 refine bodyPost_ret (v := cv 0 0 false) ?_ rfl ⟨rfl, ((Below.refl _ _).alloc (Nat.le_refl _) _).alloc (by simp) _⟩
 simp [results, Tryz.f132, go_sem, cv]
theorem Sent_calls (t r : Int) (o : Bool) (hok : ok t r o = true) (ho : o = false) (t' : Int) (ht : (if 0 < t then t - 1 else 0) = t') (W : World) :
   Calls Tryz.prog 143 #[cv t r o] W fun e W' => e = .returned (cv t' r o) /\ Below W.heap.size W W' := by
 subst ho
 have HT := Ad ht
 have HO := Ad hok
 clear ht hok
 unfold cv
 go_enter Tryz.func143, Tryz.ntmps143
 go_wp2_with fail
 obtain ⟨W3, hW3⟩ : ∃ W3, ((W.alloc (.cells #[.int .i64 t, .int .i64 r, .bool false] 164)).alloc (.cells #[.int .i64 0, .int .i64 0, .bool false] 164)).alloc (.cells #[.int .i64 t, .int .i64 r, .bool false] 251) = W3 := ⟨_, rfl⟩
 have T3 : TurnAt W3 (W.heap.size + 1 + 1) t r false := by
   have := heap_alloc_new ((W.alloc (.cells #[.int .i64 t, .int .i64 r, .bool false] 164)).alloc (.cells #[.int .i64 0, .int .i64 0, .bool false] 164)) (.cells #[.int .i64 t, .int .i64 r, .bool false] 251)
   rw [hW3, World.size_alloc, World.size_alloc] at this
   exact this
 have C3 : CountAt W3 (W.heap.size + 1) 0 0 false := by
   have h1 := heap_alloc_new (W.alloc (.cells #[.int .i64 t, .int .i64 r, .bool false] 164)) (.cells #[.int .i64 0, .int .i64 0, .bool false] 164)
   have h2 : CountAt ((W.alloc (.cells #[.int .i64 t, .int .i64 r, .bool false] 164)).alloc (.cells #[.int .i64 0, .int .i64 0, .bool false] 164)) (W.heap.size + 1) 0 0 false := by
     rw [World.size_alloc] at h1
     exact h1
   exact hW3 ▸ h2.below ((Below.refl _ _).alloc (Nat.le_refl _) _)
 have B3 : Below W.heap.size W W3 := hW3 ▸ ((((Below.refl _ _).alloc (Nat.le_refl _) _).alloc (by simp) _).alloc (by simp; omega) _)
 rw [hW3]
 clear hW3
 refine (runs_sent (W.heap.size + 1 + 1) t r W3 T3 HO.out t' HT.out).mono ?_
 rintro e w4 ⟨rfl, b4⟩
 have C4 := Ad (show CountAt w4 (W.heap.size + 1) 0 0 false from (b4.block _ (by omega)).trans C3)
 have B4 := Ad (show Below W.heap.size W w4 from B3.trans (b4.mono (by omega)))
 clear b4 C3 B3 T3
 obtain ⟨x0, x1, x2, f0, f1, f2⟩ := C4.out.cells
 unfold cv
 go_wp2_with fail
 have C5 := CountAt.put C4.out t' r false
 have B5 := Below.put B4.out (W.heap.size + 1) (by omega) (.int .i64 t') (.int .i64 r) (.bool false)
 obtain ⟨z0, z1, z2, -, -, -⟩ := C5.cells
 refine bodyPost_ret (v := cv t' r false) ?_ rfl ⟨rfl, B5⟩
 simp [results, Tryz.f143, go_sem, z0, z1, z2, cv]
theorem Received_calls (t r : Int) (o : Bool) (hok : ok t r o = true) (ho : o = false) (r' : Int) (ht : (if 127 < r then 119 else if 0 < r then r - 1 else 0) = r') (W : World) :
   Calls Tryz.prog 142 #[cv t r o] W fun e W' => e = .returned (cv t r' o) /\ Below W.heap.size W W' := by
 subst ho
 have HT := Ad ht
 have HO := Ad hok
 clear ht hok
 unfold cv
 go_enter Tryz.func142, Tryz.ntmps142
 go_wp2_with fail
 obtain ⟨W3, hW3⟩ : ∃ W3, ((W.alloc (.cells #[.int .i64 t, .int .i64 r, .bool false] 164)).alloc (.cells #[.int .i64 0, .int .i64 0, .bool false] 164)).alloc (.cells #[.int .i64 t, .int .i64 r, .bool false] 251) = W3 := ⟨_, rfl⟩
 have T3 : TurnAt W3 (W.heap.size + 1 + 1) t r false := by
   have := heap_alloc_new ((W.alloc (.cells #[.int .i64 t, .int .i64 r, .bool false] 164)).alloc (.cells #[.int .i64 0, .int .i64 0, .bool false] 164)) (.cells #[.int .i64 t, .int .i64 r, .bool false] 251)
   rw [hW3, World.size_alloc, World.size_alloc] at this
   exact this
 have C3 : CountAt W3 (W.heap.size + 1) 0 0 false := by
   have h1 := heap_alloc_new (W.alloc (.cells #[.int .i64 t, .int .i64 r, .bool false] 164)) (.cells #[.int .i64 0, .int .i64 0, .bool false] 164)
   have h2 : CountAt ((W.alloc (.cells #[.int .i64 t, .int .i64 r, .bool false] 164)).alloc (.cells #[.int .i64 0, .int .i64 0, .bool false] 164)) (W.heap.size + 1) 0 0 false := by
     rw [World.size_alloc] at h1
     exact h1
   exact hW3 ▸ h2.below ((Below.refl _ _).alloc (Nat.le_refl _) _)
 have B3 : Below W.heap.size W W3 := hW3 ▸ ((((Below.refl _ _).alloc (Nat.le_refl _) _).alloc (by simp) _).alloc (by simp; omega) _)
 rw [hW3]
 clear hW3
 refine (runs_received (W.heap.size + 1 + 1) t r W3 T3 HO.out r' HT.out).mono ?_
 rintro e w4 ⟨rfl, b4⟩
 have C4 := Ad (show CountAt w4 (W.heap.size + 1) 0 0 false from (b4.block _ (by omega)).trans C3)
 have B4 := Ad (show Below W.heap.size W w4 from B3.trans (b4.mono (by omega)))
 clear b4 C3 B3 T3
 obtain ⟨x0, x1, x2, f0, f1, f2⟩ := C4.out.cells
 unfold cv
 go_wp2_with fail
 have C5 := CountAt.put C4.out t r' false
 have B5 := Below.put B4.out (W.heap.size + 1) (by omega) (.int .i64 t) (.int .i64 r') (.bool false)
 obtain ⟨z0, z1, z2, -, -, -⟩ := C5.cells
 refine bodyPost_ret (v := cv t r' false) ?_ rfl ⟨rfl, B5⟩
 simp [results, Tryz.f142, go_sem, z0, z1, z2, cv]
theorem Tx_calls (t r : Int) (o : Bool) (hok : ok t r o = true) (ho : o = false) (t' : Int) (o' : Bool) (ht : (if 247 < t then 256 else t + 8) = t') (ho' : decide (247 < t) = o') (W : World) :
   Calls Tryz.prog 145 #[cv t r o] W fun e W' => e = .returned (cv t' r o') /\ Below W.heap.size W W' := by
 subst ho
 have HT := Ad ht
 have HB := Ad ho'
 have HO := Ad hok
 clear ht hok ho'
 unfold cv
 go_enter Tryz.func145, Tryz.ntmps145
 go_wp2_with fail
 obtain ⟨W3, hW3⟩ : ∃ W3, ((W.alloc (.cells #[.int .i64 t, .int .i64 r, .bool false] 164)).alloc (.cells #[.int .i64 0, .int .i64 0, .bool false] 164)).alloc (.cells #[.int .i64 t, .int .i64 r, .bool false] 251) = W3 := ⟨_, rfl⟩
 have T3 : TurnAt W3 (W.heap.size + 1 + 1) t r false := by
   have := heap_alloc_new ((W.alloc (.cells #[.int .i64 t, .int .i64 r, .bool false] 164)).alloc (.cells #[.int .i64 0, .int .i64 0, .bool false] 164)) (.cells #[.int .i64 t, .int .i64 r, .bool false] 251)
   rw [hW3, World.size_alloc, World.size_alloc] at this
   exact this
 have C3 : CountAt W3 (W.heap.size + 1) 0 0 false := by
   have h1 := heap_alloc_new (W.alloc (.cells #[.int .i64 t, .int .i64 r, .bool false] 164)) (.cells #[.int .i64 0, .int .i64 0, .bool false] 164)
   have h2 : CountAt ((W.alloc (.cells #[.int .i64 t, .int .i64 r, .bool false] 164)).alloc (.cells #[.int .i64 0, .int .i64 0, .bool false] 164)) (W.heap.size + 1) 0 0 false := by
     rw [World.size_alloc] at h1
     exact h1
   exact hW3 ▸ h2.below ((Below.refl _ _).alloc (Nat.le_refl _) _)
 have B3 : Below W.heap.size W W3 := hW3 ▸ ((((Below.refl _ _).alloc (Nat.le_refl _) _).alloc (by simp) _).alloc (by simp; omega) _)
 rw [hW3]
 clear hW3
 refine (runs_tx (W.heap.size + 1 + 1) t r W3 T3 HO.out t' o' HT.out HB.out).mono ?_
 rintro e w4 ⟨rfl, b4⟩
 have C4 := Ad (show CountAt w4 (W.heap.size + 1) 0 0 false from (b4.block _ (by omega)).trans C3)
 have B4 := Ad (show Below W.heap.size W w4 from B3.trans (b4.mono (by omega)))
 clear b4 C3 B3 T3
 obtain ⟨x0, x1, x2, f0, f1, f2⟩ := C4.out.cells
 unfold cv
 go_wp2_with fail
 have C5 := CountAt.put C4.out t' r o'
 have B5 := Below.put B4.out (W.heap.size + 1) (by omega) (.int .i64 t') (.int .i64 r) (.bool o')
 obtain ⟨z0, z1, z2, -, -, -⟩ := C5.cells
 refine bodyPost_ret (v := cv t' r o') ?_ rfl ⟨rfl, B5⟩
 simp [results, Tryz.f145, go_sem, z0, z1, z2, cv]
theorem Sent_idle (t r : Int) (o : Bool) (hk : (ok t r o && !o) = false) (W : World) :
   Calls Tryz.prog 143 #[cv t r o] W fun e W' => e = .returned (cv t r o) /\ Below W.heap.size W W' := by
 have HK := Ad hk
 clear hk
 unfold cv
 go_enter Tryz.func143, Tryz.ntmps143
 go_wp2_with fail
 obtain ⟨W3, hW3⟩ : ∃ W3, ((W.alloc (.cells #[.int .i64 t, .int .i64 r, .bool o] 164)).alloc (.cells #[.int .i64 0, .int .i64 0, .bool false] 164)).alloc (.cells #[.int .i64 t, .int .i64 r, .bool o] 251) = W3 := ⟨_, rfl⟩
 have T3 : TurnAt W3 (W.heap.size + 1 + 1) t r o := by
   have := heap_alloc_new ((W.alloc (.cells #[.int .i64 t, .int .i64 r, .bool o] 164)).alloc (.cells #[.int .i64 0, .int .i64 0, .bool false] 164)) (.cells #[.int .i64 t, .int .i64 r, .bool o] 251)
   rw [hW3, World.size_alloc, World.size_alloc] at this
   exact this
 have C3 : CountAt W3 (W.heap.size + 1) 0 0 false := by
   have h1 := heap_alloc_new (W.alloc (.cells #[.int .i64 t, .int .i64 r, .bool o] 164)) (.cells #[.int .i64 0, .int .i64 0, .bool false] 164)
   have h2 : CountAt ((W.alloc (.cells #[.int .i64 t, .int .i64 r, .bool o] 164)).alloc (.cells #[.int .i64 0, .int .i64 0, .bool false] 164)) (W.heap.size + 1) 0 0 false := by
     rw [World.size_alloc] at h1
     exact h1
   exact hW3 ▸ h2.below ((Below.refl _ _).alloc (Nat.le_refl _) _)
 have B3 : Below W.heap.size W W3 := hW3 ▸ ((((Below.refl _ _).alloc (Nat.le_refl _) _).alloc (by simp) _).alloc (by simp; omega) _)
 rw [hW3]
 clear hW3
 refine (runs_skip (W.heap.size + 1 + 1) _ t r o W3 T3 HK.out).mono ?_
 rintro e w4 ⟨rfl, b4⟩
 have C4 := Ad (show CountAt w4 (W.heap.size + 1) 0 0 false from (b4.block _ C3.lt).trans C3)
 have B4 := Ad (show Below W.heap.size W w4 from B3.trans (b4.mono B3.size))
 clear b4 C3 B3 T3
 obtain ⟨x0, x1, x2, f0, f1, f2⟩ := C4.out.cells
 unfold cv
 go_wp2_with fail
 have C5 := CountAt.put C4.out t r o
 have B5 := Below.put B4.out (W.heap.size + 1) (by omega) (.int .i64 t) (.int .i64 r) (.bool o)
 obtain ⟨z0, z1, z2, -, -, -⟩ := C5.cells
 refine bodyPost_ret (v := cv t r o) ?_ rfl ⟨rfl, B5⟩
 simp [results, Tryz.f143, go_sem, z0, z1, z2, cv]
theorem Received_idle (t r : Int) (o : Bool) (hk : (ok t r o && !o) = false) (W : World) :
   Calls Tryz.prog 142 #[cv t r o] W fun e W' => e = .returned (cv t r o) /\ Below W.heap.size W W' := by
 have HK := Ad hk
 clear hk
 unfold cv
 go_enter Tryz.func142, Tryz.ntmps142
 go_wp2_with fail
 obtain ⟨W3, hW3⟩ : ∃ W3, ((W.alloc (.cells #[.int .i64 t, .int .i64 r, .bool o] 164)).alloc (.cells #[.int .i64 0, .int .i64 0, .bool false] 164)).alloc (.cells #[.int .i64 t, .int .i64 r, .bool o] 251) = W3 := ⟨_, rfl⟩
 have T3 : TurnAt W3 (W.heap.size + 1 + 1) t r o := by
   have := heap_alloc_new ((W.alloc (.cells #[.int .i64 t, .int .i64 r, .bool o] 164)).alloc (.cells #[.int .i64 0, .int .i64 0, .bool false] 164)) (.cells #[.int .i64 t, .int .i64 r, .bool o] 251)
   rw [hW3, World.size_alloc, World.size_alloc] at this
   exact this
 have C3 : CountAt W3 (W.heap.size + 1) 0 0 false := by
   have h1 := heap_alloc_new (W.alloc (.cells #[.int .i64 t, .int .i64 r, .bool o] 164)) (.cells #[.int .i64 0, .int .i64 0, .bool false] 164)
   have h2 : CountAt ((W.alloc (.cells #[.int .i64 t, .int .i64 r, .bool o] 164)).alloc (.cells #[.int .i64 0, .int .i64 0, .bool false] 164)) (W.heap.size + 1) 0 0 false := by
     rw [World.size_alloc] at h1
     exact h1
   exact hW3 ▸ h2.below ((Below.refl _ _).alloc (Nat.le_refl _) _)
 have B3 : Below W.heap.size W W3 := hW3 ▸ ((((Below.refl _ _).alloc (Nat.le_refl _) _).alloc (by simp) _).alloc (by simp; omega) _)
 rw [hW3]
 clear hW3
 refine (runs_skip (W.heap.size + 1 + 1) _ t r o W3 T3 HK.out).mono ?_
 rintro e w4 ⟨rfl, b4⟩
 have C4 := Ad (show CountAt w4 (W.heap.size + 1) 0 0 false from (b4.block _ C3.lt).trans C3)
 have B4 := Ad (show Below W.heap.size W w4 from B3.trans (b4.mono B3.size))
 clear b4 C3 B3 T3
 obtain ⟨x0, x1, x2, f0, f1, f2⟩ := C4.out.cells
 unfold cv
 go_wp2_with fail
 have C5 := CountAt.put C4.out t r o
 have B5 := Below.put B4.out (W.heap.size + 1) (by omega) (.int .i64 t) (.int .i64 r) (.bool o)
 obtain ⟨z0, z1, z2, -, -, -⟩ := C5.cells
 refine bodyPost_ret (v := cv t r o) ?_ rfl ⟨rfl, B5⟩
 simp [results, Tryz.f142, go_sem, z0, z1, z2, cv]
theorem Tx_idle (t r : Int) (o : Bool) (hk : (ok t r o && !o) = false) (W : World) :
   Calls Tryz.prog 145 #[cv t r o] W fun e W' => e = .returned (cv t r o) /\ Below W.heap.size W W' := by
 have HK := Ad hk
 clear hk
 unfold cv
 go_enter Tryz.func145, Tryz.ntmps145
 go_wp2_with fail
 obtain ⟨W3, hW3⟩ : ∃ W3, ((W.alloc (.cells #[.int .i64 t, .int .i64 r, .bool o] 164)).alloc (.cells #[.int .i64 0, .int .i64 0, .bool false] 164)).alloc (.cells #[.int .i64 t, .int .i64 r, .bool o] 251) = W3 := ⟨_, rfl⟩
 have T3 : TurnAt W3 (W.heap.size + 1 + 1) t r o := by
   have := heap_alloc_new ((W.alloc (.cells #[.int .i64 t, .int .i64 r, .bool o] 164)).alloc (.cells #[.int .i64 0, .int .i64 0, .bool false] 164)) (.cells #[.int .i64 t, .int .i64 r, .bool o] 251)
   rw [hW3, World.size_alloc, World.size_alloc] at this
   exact this
 have C3 : CountAt W3 (W.heap.size + 1) 0 0 false := by
   have h1 := heap_alloc_new (W.alloc (.cells #[.int .i64 t, .int .i64 r, .bool o] 164)) (.cells #[.int .i64 0, .int .i64 0, .bool false] 164)
   have h2 : CountAt ((W.alloc (.cells #[.int .i64 t, .int .i64 r, .bool o] 164)).alloc (.cells #[.int .i64 0, .int .i64 0, .bool false] 164)) (W.heap.size + 1) 0 0 false := by
     rw [World.size_alloc] at h1
     exact h1
   exact hW3 ▸ h2.below ((Below.refl _ _).alloc (Nat.le_refl _) _)
 have B3 : Below W.heap.size W W3 := hW3 ▸ ((((Below.refl _ _).alloc (Nat.le_refl _) _).alloc (by simp) _).alloc (by simp; omega) _)
 rw [hW3]
 clear hW3
 refine (runs_skip (W.heap.size + 1 + 1) _ t r o W3 T3 HK.out).mono ?_
 rintro e w4 ⟨rfl, b4⟩
 have C4 := Ad (show CountAt w4 (W.heap.size + 1) 0 0 false from (b4.block _ C3.lt).trans C3)
 have B4 := Ad (show Below W.heap.size W w4 from B3.trans (b4.mono B3.size))
 clear b4 C3 B3 T3
 obtain ⟨x0, x1, x2, f0, f1, f2⟩ := C4.out.cells
 unfold cv
 go_wp2_with fail
 have C5 := CountAt.put C4.out t r o
 have B5 := Below.put B4.out (W.heap.size + 1) (by omega) (.int .i64 t) (.int .i64 r) (.bool o)
 obtain ⟨z0, z1, z2, -, -, -⟩ := C5.cells
 refine bodyPost_ret (v := cv t r o) ?_ rfl ⟨rfl, B5⟩
 simp [results, Tryz.f145, go_sem, z0, z1, z2, cv]
theorem Rx_other (t r : Int) (o : Bool) (g : Int) (h1 : g ≠ 1) (h8 : g ≠ 8) (W : World) :
   Calls Tryz.prog 146 #[cv t r o, .int .i64 g] W fun e W' => e = .returned (cv t r o) /\ Below W.heap.size W W' := by
 have e1 : (g != 1) = true := by simp [h1]
 have e8 : (g != 8) = true := by simp [h8]
 clear h1 h8
 unfold cv
 go_enter Tryz.func146, Tryz.ntmps146
 go_wp2
 refine bodyPost_ret (v := cv t r o) ?_ rfl ⟨rfl, ?_⟩
 · simp [results, Tryz.f146, go_sem, cv]
 · exact (((((Below.refl _ _).alloc (Nat.le_refl _) _).alloc (by simp) _).alloc (by simp; omega) _).alloc (by simp; omega) _).alloc (by simp; omega) _
theorem heap5 (W : World) (a b c d e : Obj) : (((((W.alloc a).alloc b).alloc c).alloc d).alloc e).heap[W.heap.size + 1]? = some b /\ (((((W.alloc a).alloc b).alloc c).alloc d).alloc e).heap[W.heap.size + 1 + 1]? = some c /\
   (((((W.alloc a).alloc b).alloc c).alloc d).alloc e).heap[W.heap.size + 1 + 1 + 1]? = some d /\ (((((W.alloc a).alloc b).alloc c).alloc d).alloc e).heap[W.heap.size + 1 + 1 + 1 + 1]? = some e := by
 show (((((W.heap.push a).push b).push c).push d).push e)[W.heap.size + 1]? = some b /\ (((((W.heap.push a).push b).push c).push d).push e)[W.heap.size + 1 + 1]? = some c /\ (((((W.heap.push a).push b).push c).push d).push e)[W.heap.size + 1 + 1 + 1]? = some d /\ (((((W.heap.push a).push b).push c).push d).push e)[W.heap.size + 1 + 1 + 1 + 1]? = some e
 refine ⟨?_, ?_, ?_, ?_⟩ <;> simp [Array.getElem_push]
theorem Rx_calls (t r : Int) (o : Bool) (g : Int) (hg : g = 1 ∨ g = 8) (hok : ok t r o = true) (ho : o = false) (r' : Int) (ht : (if r + g <= 255 then r + g else 255) = r') (W : World) :
   Calls Tryz.prog 146 #[cv t r o, .int .i64 g] W fun e W' => e = .returned (cv t r' o) /\ Below W.heap.size W W' := by
 subst ho
 have HT := Ad ht
 have HO := Ad hok
 have HG := Ad hg
 have e18 : ((g != 1) && (g != 8)) = false := by rcases hg with rfl | rfl <;> rfl
 clear ht hok
 unfold cv
 rcases hg with rfl | rfl
 · go_enter Tryz.func146, Tryz.ntmps146
   go_wp2_with fail
   obtain ⟨W5, hW5⟩ : ∃ W5, (((((W.alloc (.cells #[.int .i64 t, .int .i64 r, .bool false] 164)).alloc (.cells #[.int .i64 1] 3)).alloc (.cells #[.int .i64 0, .int .i64 0, .bool false] 164)).alloc (.cells #[.int .i64 t, .int .i64 r, .bool false] 251)).alloc (.cells #[.pointer (some ⟨W.heap.size + 1 + 1 + 1, 0, none⟩)] 249)) = W5 := ⟨_, rfl⟩
   have S5 : W5.heap.size = W.heap.size + 5 := by rw [<- hW5]; simp
   have C5 : CountAt W5 (W.heap.size + 1 + 1) 0 0 false := by rw [<- hW5]; exact (heap5 W _ _ _ _ _).2.1
   have T5 : TurnAt W5 (W.heap.size + 1 + 1 + 1) t r false := by rw [<- hW5]; exact (heap5 W _ _ _ _ _).2.2.1
   have P5 : W5.cell? ⟨W.heap.size + 1 + 1 + 1 + 1, 0, none⟩ = some (.pointer (some ⟨W.heap.size + 1 + 1 + 1, 0, none⟩)) := by rw [<- hW5]; unfold World.cell?; simp only []; rw [(heap5 W _ _ _ _ _).2.2.2]; rfl
   have Q5 : W5.cell? ⟨W.heap.size + 1, 0, none⟩ = some (.int .i64 1) := by rw [<- hW5]; unfold World.cell?; simp only []; rw [(heap5 W _ _ _ _ _).1]; rfl
   have B5 : Below W.heap.size W W5 := by rw [<- hW5]; exact (((((Below.refl _ _).alloc (Nat.le_refl _) _).alloc (by simp) _).alloc (by simp; omega) _).alloc (by simp; omega) _).alloc (by simp; omega) _
   rw [hW5]
   clear hW5
   refine (runs_rx (W.heap.size + 1 + 1 + 1) (W.heap.size + 1 + 1 + 1 + 1) (W.heap.size + 1) t r 1 W5 T5 HO.out (by simp) P5 Q5 r' HT.out).mono ?_
   rintro e w6 ⟨rfl, b6⟩
   have C6 := Ad (show CountAt w6 (W.heap.size + 1 + 1) 0 0 false from (b6.block _ (by omega)).trans C5)
   have B6 := Ad (show Below W.heap.size W w6 from B5.trans (b6.mono (by omega)))
   clear b6 C5 B5 T5 P5 Q5
   obtain ⟨x0, x1, x2, f0, f1, f2⟩ := C6.out.cells
   unfold cv
   go_wp2_with fail
   have C7 := CountAt.put C6.out t r' false
   have B7 := Below.put B6.out (W.heap.size + 1 + 1) (by omega) (.int .i64 t) (.int .i64 r') (.bool false)
   obtain ⟨z0, z1, z2, -, -, -⟩ := C7.cells
   refine bodyPost_ret (v := cv t r' false) ?_ rfl ⟨rfl, B7⟩
   simp [results, Tryz.f146, go_sem, z0, z1, z2, cv]
 · go_enter Tryz.func146, Tryz.ntmps146
   go_wp2_with fail
   obtain ⟨W5, hW5⟩ : ∃ W5, (((((W.alloc (.cells #[.int .i64 t, .int .i64 r, .bool false] 164)).alloc (.cells #[.int .i64 8] 3)).alloc (.cells #[.int .i64 0, .int .i64 0, .bool false] 164)).alloc (.cells #[.int .i64 t, .int .i64 r, .bool false] 251)).alloc (.cells #[.pointer (some ⟨W.heap.size + 1 + 1 + 1, 0, none⟩)] 249)) = W5 := ⟨_, rfl⟩
   have S5 : W5.heap.size = W.heap.size + 5 := by rw [<- hW5]; simp
   have C5 : CountAt W5 (W.heap.size + 1 + 1) 0 0 false := by rw [<- hW5]; exact (heap5 W _ _ _ _ _).2.1
   have T5 : TurnAt W5 (W.heap.size + 1 + 1 + 1) t r false := by rw [<- hW5]; exact (heap5 W _ _ _ _ _).2.2.1
   have P5 : W5.cell? ⟨W.heap.size + 1 + 1 + 1 + 1, 0, none⟩ = some (.pointer (some ⟨W.heap.size + 1 + 1 + 1, 0, none⟩)) := by rw [<- hW5]; unfold World.cell?; simp only []; rw [(heap5 W _ _ _ _ _).2.2.2]; rfl
   have Q5 : W5.cell? ⟨W.heap.size + 1, 0, none⟩ = some (.int .i64 8) := by rw [<- hW5]; unfold World.cell?; simp only []; rw [(heap5 W _ _ _ _ _).1]; rfl
   have B5 : Below W.heap.size W W5 := by rw [<- hW5]; exact (((((Below.refl _ _).alloc (Nat.le_refl _) _).alloc (by simp) _).alloc (by simp; omega) _).alloc (by simp; omega) _).alloc (by simp; omega) _
   rw [hW5]
   clear hW5
   refine (runs_rx (W.heap.size + 1 + 1 + 1) (W.heap.size + 1 + 1 + 1 + 1) (W.heap.size + 1) t r 8 W5 T5 HO.out (by simp) P5 Q5 r' HT.out).mono ?_
   rintro e w6 ⟨rfl, b6⟩
   have C6 := Ad (show CountAt w6 (W.heap.size + 1 + 1) 0 0 false from (b6.block _ (by omega)).trans C5)
   have B6 := Ad (show Below W.heap.size W w6 from B5.trans (b6.mono (by omega)))
   clear b6 C5 B5 T5 P5 Q5
   obtain ⟨x0, x1, x2, f0, f1, f2⟩ := C6.out.cells
   unfold cv
   go_wp2_with fail
   have C7 := CountAt.put C6.out t r' false
   have B7 := Below.put B6.out (W.heap.size + 1 + 1) (by omega) (.int .i64 t) (.int .i64 r') (.bool false)
   obtain ⟨z0, z1, z2, -, -, -⟩ := C7.cells
   refine bodyPost_ret (v := cv t r' false) ?_ rfl ⟨rfl, B7⟩
   simp [results, Tryz.f146, go_sem, z0, z1, z2, cv]
theorem Rx_idle (t r : Int) (o : Bool) (g : Int) (hg : g = 1 ∨ g = 8) (hk : (ok t r o && !o) = false) (W : World) :
   Calls Tryz.prog 146 #[cv t r o, .int .i64 g] W fun e W' => e = .returned (cv t r o) /\ Below W.heap.size W W' := by
 have HK := Ad hk
 clear hk
 unfold cv
 rcases hg with rfl | rfl
 · go_enter Tryz.func146, Tryz.ntmps146
   go_wp2_with fail
   obtain ⟨W5, hW5⟩ : ∃ W5, (((((W.alloc (.cells #[.int .i64 t, .int .i64 r, .bool o] 164)).alloc (.cells #[.int .i64 1] 3)).alloc (.cells #[.int .i64 0, .int .i64 0, .bool false] 164)).alloc (.cells #[.int .i64 t, .int .i64 r, .bool o] 251)).alloc (.cells #[.pointer (some ⟨W.heap.size + 1 + 1 + 1, 0, none⟩)] 249)) = W5 := ⟨_, rfl⟩
   have S5 : W5.heap.size = W.heap.size + 5 := by rw [<- hW5]; simp
   have C5 : CountAt W5 (W.heap.size + 1 + 1) 0 0 false := by rw [<- hW5]; exact (heap5 W _ _ _ _ _).2.1
   have T5 : TurnAt W5 (W.heap.size + 1 + 1 + 1) t r o := by rw [<- hW5]; exact (heap5 W _ _ _ _ _).2.2.1
   have P5 : W5.cell? ⟨W.heap.size + 1 + 1 + 1 + 1, 0, none⟩ = some (.pointer (some ⟨W.heap.size + 1 + 1 + 1, 0, none⟩)) := by rw [<- hW5]; unfold World.cell?; simp only []; rw [(heap5 W _ _ _ _ _).2.2.2]; rfl
   have Q5 : W5.cell? ⟨W.heap.size + 1, 0, none⟩ = some (.int .i64 1) := by rw [<- hW5]; unfold World.cell?; simp only []; rw [(heap5 W _ _ _ _ _).1]; rfl
   have B5 : Below W.heap.size W W5 := by rw [<- hW5]; exact (((((Below.refl _ _).alloc (Nat.le_refl _) _).alloc (by simp) _).alloc (by simp; omega) _).alloc (by simp; omega) _).alloc (by simp; omega) _
   rw [hW5]
   clear hW5
   refine (runs_skip (W.heap.size + 1 + 1 + 1) _ t r o W5 T5 HK.out).mono ?_
   rintro e w6 ⟨rfl, b6⟩
   have C6 := Ad (show CountAt w6 (W.heap.size + 1 + 1) 0 0 false from (b6.block _ C5.lt).trans C5)
   have B6 := Ad (show Below W.heap.size W w6 from B5.trans (b6.mono B5.size))
   clear b6 C5 B5 T5 P5 Q5
   obtain ⟨x0, x1, x2, f0, f1, f2⟩ := C6.out.cells
   unfold cv
   go_wp2_with fail
   have C7 := CountAt.put C6.out t r o
   have B7 := Below.put B6.out (W.heap.size + 1 + 1) (by omega) (.int .i64 t) (.int .i64 r) (.bool o)
   obtain ⟨z0, z1, z2, -, -, -⟩ := C7.cells
   refine bodyPost_ret (v := cv t r o) ?_ rfl ⟨rfl, B7⟩
   simp [results, Tryz.f146, go_sem, z0, z1, z2, cv]
 · go_enter Tryz.func146, Tryz.ntmps146
   go_wp2_with fail
   obtain ⟨W5, hW5⟩ : ∃ W5, (((((W.alloc (.cells #[.int .i64 t, .int .i64 r, .bool o] 164)).alloc (.cells #[.int .i64 8] 3)).alloc (.cells #[.int .i64 0, .int .i64 0, .bool false] 164)).alloc (.cells #[.int .i64 t, .int .i64 r, .bool o] 251)).alloc (.cells #[.pointer (some ⟨W.heap.size + 1 + 1 + 1, 0, none⟩)] 249)) = W5 := ⟨_, rfl⟩
   have S5 : W5.heap.size = W.heap.size + 5 := by rw [<- hW5]; simp
   have C5 : CountAt W5 (W.heap.size + 1 + 1) 0 0 false := by rw [<- hW5]; exact (heap5 W _ _ _ _ _).2.1
   have T5 : TurnAt W5 (W.heap.size + 1 + 1 + 1) t r o := by rw [<- hW5]; exact (heap5 W _ _ _ _ _).2.2.1
   have P5 : W5.cell? ⟨W.heap.size + 1 + 1 + 1 + 1, 0, none⟩ = some (.pointer (some ⟨W.heap.size + 1 + 1 + 1, 0, none⟩)) := by rw [<- hW5]; unfold World.cell?; simp only []; rw [(heap5 W _ _ _ _ _).2.2.2]; rfl
   have Q5 : W5.cell? ⟨W.heap.size + 1, 0, none⟩ = some (.int .i64 8) := by rw [<- hW5]; unfold World.cell?; simp only []; rw [(heap5 W _ _ _ _ _).1]; rfl
   have B5 : Below W.heap.size W W5 := by rw [<- hW5]; exact (((((Below.refl _ _).alloc (Nat.le_refl _) _).alloc (by simp) _).alloc (by simp; omega) _).alloc (by simp; omega) _).alloc (by simp; omega) _
   rw [hW5]
   clear hW5
   refine (runs_skip (W.heap.size + 1 + 1 + 1) _ t r o W5 T5 HK.out).mono ?_
   rintro e w6 ⟨rfl, b6⟩
   have C6 := Ad (show CountAt w6 (W.heap.size + 1 + 1) 0 0 false from (b6.block _ C5.lt).trans C5)
   have B6 := Ad (show Below W.heap.size W w6 from B5.trans (b6.mono B5.size))
   clear b6 C5 B5 T5 P5 Q5
   obtain ⟨x0, x1, x2, f0, f1, f2⟩ := C6.out.cells
   unfold cv
   go_wp2_with fail
   have C7 := CountAt.put C6.out t r o
   have B7 := Below.put B6.out (W.heap.size + 1 + 1) (by omega) (.int .i64 t) (.int .i64 r) (.bool o)
   obtain ⟨z0, z1, z2, -, -, -⟩ := C7.cells
   refine bodyPost_ret (v := cv t r o) ?_ rfl ⟨rfl, B7⟩
   simp [results, Tryz.f146, go_sem, z0, z1, z2, cv]
structure Ct where
 t : Int
 r : Int
 o : Bool
def Ct.runs (c : Ct) : Bool := ok c.t c.r c.o && !c.o
def sentC (c : Ct) : Ct := if c.runs = true then ⟨if 0 < c.t then c.t - 1 else 0, c.r, c.o⟩ else c
def recvC (c : Ct) : Ct := if c.runs = true then ⟨c.t, if 127 < c.r then 119 else if 0 < c.r then c.r - 1 else 0, c.o⟩ else c
def txC (c : Ct) : Ct := if c.runs = true then ⟨if 247 < c.t then 256 else c.t + 8, c.r, decide (247 < c.t)⟩ else c
def rxC (c : Ct) (g : Int) : Ct := if c.runs = true /\ (g = 1 ∨ g = 8) then ⟨c.t, if c.r + g <= 255 then c.r + g else 255, c.o⟩ else c
def behind (c : Ct) (x g : Int) : Ct := if x = 0 then sentC c else if x = 1 then recvC c else if x = 2 then txC c else if x = 3 then rxC c g else if x = 4 then ⟨0, 0, false⟩ else c
theorem runs_split {t r : Int} {o : Bool} (h : Ct.runs ⟨t, r, o⟩ = true) : ok t r o = true /\ o = false := by
 unfold Ct.runs at h
 revert h
 simp only []
 cases ok t r o <;> cases o <;> simp
theorem runs_not {t r : Int} {o : Bool} (h : ¬ Ct.runs ⟨t, r, o⟩ = true) : (ok t r o && !o) = false := by
 unfold Ct.runs at h
 revert h
 simp only []
 cases ok t r o <;> cases o <;> simp
theorem Sent_uni (t r : Int) (o : Bool) (t' r' : Int) (o' : Bool) (h : sentC ⟨t, r, o⟩ = ⟨t', r', o'⟩) (W : World) :
   Calls Tryz.prog 143 #[cv t r o] W fun e W' => e = .returned (cv t' r' o') /\ Below W.heap.size W W' := by
 unfold sentC at h
 split at h
 · rename_i hr
   obtain ⟨h1, h2, h3⟩ : _ /\ _ /\ _ := Ct.mk.inj h
   simp only [] at h1 h2 h3
   obtain ⟨k1, k2⟩ := runs_split hr
   subst h2 h3
   exact Sent_calls t r o k1 k2 t' h1 W
 · rename_i hr
   obtain ⟨h1, h2, h3⟩ : _ /\ _ /\ _ := Ct.mk.inj h
   subst h1 h2 h3
   exact Sent_idle t r o (runs_not hr) W
theorem Received_uni (t r : Int) (o : Bool) (t' r' : Int) (o' : Bool) (h : recvC ⟨t, r, o⟩ = ⟨t', r', o'⟩) (W : World) :
   Calls Tryz.prog 142 #[cv t r o] W fun e W' => e = .returned (cv t' r' o') /\ Below W.heap.size W W' := by
 unfold recvC at h
 split at h
 · rename_i hr
   obtain ⟨h1, h2, h3⟩ : _ /\ _ /\ _ := Ct.mk.inj h
   simp only [] at h1 h2 h3
   obtain ⟨k1, k2⟩ := runs_split hr
   subst h1 h3
   exact Received_calls t r o k1 k2 r' h2 W
 · rename_i hr
   obtain ⟨h1, h2, h3⟩ : _ /\ _ /\ _ := Ct.mk.inj h
   subst h1 h2 h3
   exact Received_idle t r o (runs_not hr) W
theorem Tx_uni (t r : Int) (o : Bool) (t' r' : Int) (o' : Bool) (h : txC ⟨t, r, o⟩ = ⟨t', r', o'⟩) (W : World) :
   Calls Tryz.prog 145 #[cv t r o] W fun e W' => e = .returned (cv t' r' o') /\ Below W.heap.size W W' := by
 unfold txC at h
 split at h
 · rename_i hr
   obtain ⟨h1, h2, h3⟩ : _ /\ _ /\ _ := Ct.mk.inj h
   simp only [] at h1 h2 h3
   obtain ⟨k1, k2⟩ := runs_split hr
   subst h2
   exact Tx_calls t r o k1 k2 t' o' h1 h3 W
 · rename_i hr
   obtain ⟨h1, h2, h3⟩ : _ /\ _ /\ _ := Ct.mk.inj h
   subst h1 h2 h3
   exact Tx_idle t r o (runs_not hr) W
theorem Rx_uni (t r : Int) (o : Bool) (g : Int) (t' r' : Int) (o' : Bool) (h : rxC ⟨t, r, o⟩ g = ⟨t', r', o'⟩) (W : World) :
   Calls Tryz.prog 146 #[cv t r o, .int .i64 g] W fun e W' => e = .returned (cv t' r' o') /\ Below W.heap.size W W' := by
 unfold rxC at h
 split at h
 · rename_i hr
   obtain ⟨h1, h2, h3⟩ : _ /\ _ /\ _ := Ct.mk.inj h
   simp only [] at h1 h2 h3
   obtain ⟨k1, k2⟩ := runs_split hr.1
   subst h1 h3
   exact Rx_calls t r o g hr.2 k1 k2 r' h2 W
 · rename_i hr
   obtain ⟨h1, h2, h3⟩ : _ /\ _ /\ _ := Ct.mk.inj h
   subst h1 h2 h3
   by_cases hg : g = 1 ∨ g = 8
   · exact Rx_idle t r o g hg (runs_not fun hk => hr ⟨hk, hg⟩) W
   · exact Rx_other t r o g (fun e => hg (.inl e)) (fun e => hg (.inr e)) W
theorem Back_uni (t r : Int) (o : Bool) (t' r' : Int) (o' : Bool) (h : (⟨0, 0, false⟩ : Ct) = ⟨t', r', o'⟩) (W : World) :
   Calls Tryz.prog 132 #[cv t r o] W fun e W' => e = .returned (cv t' r' o') /\ Below W.heap.size W W' := by
 obtain ⟨h1, h2, h3⟩ : _ /\ _ /\ _ := Ct.mk.inj h
 subst h1 h2 h3
 exact back_calls t r o W
end Ct
namespace Pl
structure Nd where
 raw : List Int
 level : Int
 run : Int
 mode : Int
 k : Int
 rows : Int
 tx : Bool
 sends : Bool
 owed : Bool
 wrong : Bool
 t : Int
 r : Int
 off : Bool
 own : Fr
 row : List Int
 queue : List Fr
structure Td where
 kinds : List Int
 f : Fr
def Td.none : Td := ⟨[], Fr.zero⟩
def Td.tell (t : Td) (kind : Int) : Td := { t with kinds := t.kinds ++ [kind] }
def Nd.new : Nd := ⟨[], 0, 0, 0, 0, 0, false, false, false, false, 0, 0, false, Fr.zero, [], []⟩
def Nd.turn (x : Nd) (m : Int) : Nd := { x with mode := m, k := 0 }
def Nd.ct (x : Nd) : Ct.Ct := ⟨x.t, x.r, x.off⟩
def Nd.count (x : Nd) (c : Ct.Ct) : Nd := { x with t := c.t, r := c.r, off := c.o }
def Nd.state (x : Nd) : Int := if x.off then 2 else if 127 < x.t ∨ 127 < x.r then 1 else 0
def Nd.kind (x : Nd) : Nat := (next x.raw).1
def Nd.place (x : Nd) : Nat := (next x.raw).2.1
def Nd.added (x : Nd) : Bool := decide (x.run = 5)
def rt (l : List Int) : Bool := (read l).2 && decide ((read l).1.sum + 15 <= l.length) && right (l.take ((read l).1.sum + 15))
def Nd.take (x : Nd) (lv : Int) : Nd × Bool :=
 if x.added = true /\ lv = x.level then (x, false)
 else if x.added = true then ({ x with level := lv, run := 1 }, true)
 else if 4 < x.kind then ({ x with run := 0, raw := x.raw ++ [lv] }, true)
 else if 0 < x.run /\ lv = x.level then ({ x with run := x.run + 1, raw := x.raw ++ [lv] }, true)
 else ({ x with level := lv, run := 1, raw := x.raw ++ [lv] }, true)
def Nd.charge (x : Nd) (t : Td) (g : Int) : Nd × Td × Bool :=
 let y := x.count (if x.tx then Ct.txC x.ct else Ct.rxC x.ct g)
 if y.state ≠ 2 then (y, t, true) else ({ y.turn 10 with rows := 0 }, t.tell 10, false)
def Nd.fin (x : Nd) (s : Int) : Nd := { x with wrong := true, owed := false }.turn (if s = 0 then 3 else 4)
def Nd.fail (x : Nd) (t : Td) (kind : Int) (counted : Bool) : Nd × Td :=
 if counted || !x.tx then
   let c := x.charge (t.tell kind) 1
   if c.2.2 then (c.1.fin x.state, c.2.1) else (c.1, c.2.1)
 else (x.fin x.state, t.tell kind)
def Nd.over (x : Nd) (t : Td) : Nd × Td := ({ x with wrong := false }.turn 5, t.tell 9)
def Nd.begun (x : Nd) (sends : Bool) : Nd := { x with mode := 2, k := 0, raw := [0], level := 0, run := 1, tx := sends, sends := sends }
def Nd.start (x : Nd) (sends : Bool) : Nd := if sends then { x.begun true with own := x.queue.headD Fr.zero, row := fall (x.queue.headD Fr.zero) } else x.begun false
def Nd.pending (x : Nd) : Bool := decide (0 < x.queue.length)
def Nd.late (x : Nd) : Bool := x.tx && decide (x.state = 1)
def Nd.joining (x : Nd) (lv : Int) : Nd :=
 let k := if lv = 0 then 0 else x.k + 1
 if k = 11 then x.turn 1 else { x with k := k }
def Nd.idle (x : Nd) (t : Td) (lv : Int) : Nd × Td :=
 if lv = 0 then (x.start x.pending, t) else if x.pending then { x with tx := true }.fail t 4 true else (x, t)
def Nd.frame (x : Nd) : Int :=
 if x.sends && x.added then 1 - x.level
 else if x.sends then x.row.getD x.raw.length 0
 else if x.kind = 6 /\ rt x.raw = true then 0 else 1
def Nd.drive (x : Nd) : Int :=
 if x.mode = 1 then (if x.pending then 0 else 1) else if x.mode = 3 ∨ x.mode = 5 then 0 else if x.mode = 2 then (if x.frame = 0 then 0 else 1) else 1
def Nd.differs (x : Nd) (t : Td) (lv : Int) : Nd × Td × Bool :=
 if lv = 0 /\ x.kind = 1 /\ x.added = false then ({ x with tx := false, sends := false }, t.tell 3, true)
 else if lv = 0 /\ x.kind = 1 then ((x.fail t 5 false).1, (x.fail t 5 false).2, false)
 else if lv = 0 /\ x.kind = 6 then (x, t, true)
 else ((x.fail t 4 true).1, (x.fail t 4 true).2, false)
def Nd.ends (x : Nd) (t : Td) (k : Nat) : Nd × Td :=
 if k = 5 /\ x.sends = false then (x.count (Ct.recvC x.ct), Td.tell { t with f := frameOf x.raw } 2)
 else if k = 6 then
   if x.sends then ({ x.count (Ct.sentC x.ct) with queue := qdrop x.own x.queue }.turn 8, Td.tell { t with f := x.own } 1)
   else (x.turn 8, t)
 else (x, t)
def Nd.taken (x : Nd) (t : Td) (lv : Int) (kind k : Nat) : Nd × Td :=
 let c := x.take lv
 if c.2 then (if kind = 8 then c.1.ends t k else (c.1, t)) else c.1.fail t 5 true
def Nd.within (x : Nd) (t : Td) (lv : Int) (kind k : Nat) (added : Bool) : Nd × Td :=
 if kind <= 4 ∨ added = true then x.taken t lv kind k
 else if kind = 6 then
   if x.sends && decide (lv = 1) then
     let c := x.fail t 8 (!decide (x.state = 1))
     ({ c.1 with owed := decide (x.state = 1) }, c.2)
   else x.taken t lv kind k
 else if kind = 8 /\ k = 6 /\ lv = 0 then x.over t
 else if lv = 0 then x.fail t 7 true
 else if kind = 7 /\ x.sends = false /\ rt x.raw = false then x.fail t 6 true
 else x.taken t lv kind k
def Nd.inFrame (x : Nd) (t : Td) (lv : Int) : Nd × Td :=
 if x.sends = true /\ lv ≠ x.frame then
   let c := x.differs t lv
   if c.2.2 then c.1.within c.2.1 lv x.kind x.place x.added else (c.1, c.2.1)
 else if lv ≠ x.frame /\ x.frame = 0 then x.fail t 4 true
 else x.within t lv x.kind x.place x.added
def Nd.dominant (x : Nd) (t : Td) (lv : Int) : Nd × Td :=
 let c := if lv = 1 then x.charge (t.tell 4) 8 else (x, t, true)
 if c.2.2 then (if c.1.k + 1 = 6 then c.1.turn 6 else { c.1 with k := c.1.k + 1 }, c.2.1) else (c.1, c.2.1)
def Nd.passive (x : Nd) (t : Td) (lv : Int) : Nd × Td :=
 let y := { x with k := (if 0 < x.k /\ lv ≠ x.level then 0 else x.k) + 1, level := lv }
 let c := if y.owed && decide (lv = 0) then { y with owed := false }.charge t 8 else (y, t, true)
 if c.2.2 then (if c.1.k = 6 then c.1.turn 6 else c.1, c.2.1) else (c.1, c.2.1)
def Nd.waiting (x : Nd) (t : Td) (lv : Int) : Nd × Td :=
 if lv = 1 then ({ x.turn 7 with k := 1 }, t)
 else
   let y := { x with k := x.k + 1 }
   let c := if y.k = 1 /\ y.wrong = true /\ y.tx = false then ((y.charge t 8).1, (y.charge t 8).2.1) else (y, t)
   if c.1.k.tmod 8 = 0 then ((c.1.charge c.2 8).1, (c.1.charge c.2 8).2.1) else c
def Nd.closing (x : Nd) (t : Td) (lv : Int) : Nd × Td :=
 if lv = 1 then (if x.k + 1 = 8 then x.turn 8 else { x with k := x.k + 1 }, t)
 else if x.k = 7 then x.over t else x.fail t 7 true
def Nd.pause (x : Nd) (t : Td) (lv : Int) : Nd × Td :=
 if lv = 0 /\ x.k < 2 then x.over t
 else if lv = 0 then (x.start (x.pending && !x.late), t)
 else if x.k + 1 < 3 then ({ x with k := x.k + 1 }, t)
 else if x.late then (x.turn 9, t) else (x.turn 1, t)
def Nd.suspend (x : Nd) (lv : Int) : Nd :=
 if lv = 0 then x.start false else if x.k + 1 = 8 then x.turn 1 else { x with k := x.k + 1 }
def Nd.busOff (x : Nd) (t : Td) (lv : Int) : Nd × Td :=
 let k := if lv = 0 then 0 else x.k + 1
 let y := if k = 11 then { x with k := 0, rows := x.rows + 1 } else { x with k := k }
 if y.rows = 128 then ({ y with t := 0, r := 0, off := false, tx := false }.turn 1, t.tell 11) else (y, t)
def Nd.step (x : Nd) (t : Td) (lv : Int) : Nd × Td :=
 if x.mode = 0 then (x.joining lv, t)
 else if x.mode = 1 then x.idle t lv
 else if x.mode = 2 then x.inFrame t lv
 else if x.mode = 3 then x.dominant t lv
 else if x.mode = 4 then x.passive t lv
 else if x.mode = 5 then x.dominant t lv
 else if x.mode = 6 then x.waiting t lv
 else if x.mode = 7 then x.closing t lv
 else if x.mode = 8 then x.pause t lv
 else if x.mode = 9 then (x.suspend lv, t)
 else x.busOff t lv
end Pl
section
structure Lay where
 A : Option Addr
 c : Nat
 q : Option Nat
 gq : Nat
 qq : Option Nat
 A2 : Option Addr
 c2 : Nat
 q2 : Option Nat
def ndc (L : Lay) (x : Pl.Nd) : List Value := [.slice L.A x.raw.length L.c, .int .i64 x.level, .int .i64 x.run, .pointer (some ⟨L.gq, 0, none⟩), .int .i64 x.mode, .int .i64 x.k, .int .i64 x.rows, .bool x.tx, .bool x.sends, .bool x.owed, .bool x.wrong, .int .i64 x.t, .int .i64 x.r, .bool x.off,
 .int .i64 x.own.id, .bool x.own.ext, .bool x.own.rtr, .int .i64 x.own.len, .int .u8 x.own.d0, .int .u8 x.own.d1, .int .u8 x.own.d2, .int .u8 x.own.d3, .int .u8 x.own.d4, .int .u8 x.own.d5, .int .u8 x.own.d6, .int .u8 x.own.d7, .slice L.A2 x.row.length L.c2]
def Lay.fp (L : Lay) (g : Nat) : List Nat := g :: L.gq :: (L.q.toList ++ L.q2.toList ++ L.qq.toList)
structure NodeAt (w : World) (b g : Nat) (L : Lay) (x : Pl.Nd) : Prop where
 cs : Cs w g 166 (ndc L x)
 raw : Ow Iv w b L.q L.A L.c x.raw
 row : Ow Iv w b L.q2 L.A2 L.c2 x.row
 qu : Qu w b L.gq L.qq x.queue
 apart : ∀ k, L.q = some k -> L.q2 ≠ some k
 gb : b <= g
 qb : b <= L.gq
 lv : Lvs x.raw
def tdc (A : Option Addr) (c : Nat) (t : Pl.Td) : List Value := .slice A t.kinds.length c :: frc t.f
structure ToldAt (w : World) (b gt : Nat) (A : Option Addr) (c : Nat) (q : Option Nat) (t : Pl.Td) : Prop where
 cs : Cs w gt 168 (tdc A c t)
 kinds : Ow Iv w b q A c t.kinds
 gb : b <= gt
def NT (w : World) (b g gt : Nat) (F : List Nat) (x : Pl.Nd) (t : Pl.Td) : Prop :=
 b <= w.heap.size /\ ∃ L A c q, NodeAt w b g L x /\ ToldAt w b gt A c q t /\ (∀ k, q = some k -> L.q ≠ some k /\ L.q2 ≠ some k) /\ F = L.fp g ++ gt :: q.toList
def St (F : List Nat) (w w' : World) (F' : List Nat) : Prop := Ch F w w' /\ ∀ k, k ∈ F' -> k ∈ F ∨ w.heap.size <= k
theorem St.refl (F : List Nat) (w : World) : St F w w F := ⟨Ch.refl _ _, fun _ h => .inl h⟩
theorem St.trans {F F' F'' : List Nat} {w w' w'' : World} (h : St F w w' F') (k : St F' w' w'' F'') : St F w w'' F'' :=
 ⟨h.1.trans k.1 h.2, fun x hx => by
   rcases k.2 x hx with h1 | h1
   · exact h.2 x h1
   · exact .inr (Nat.le_trans h.1.size h1)⟩
theorem St.of {F : List Nat} {w w' : World} (h : Ch [] w w') : St F w w' F := ⟨h.any, fun _ h => .inl h⟩
section
variable {w w' : World} {b g gt : Nat} {F : List Nat} {L : Lay} {x x' : Pl.Nd} {t : Pl.Td}
theorem NodeAt.ls (h : NodeAt w b g L x) : Ls w L.A L.c x.raw := ⟨h.raw.rd, h.lv⟩
theorem NodeAt.keep (h : NodeAt w b g L x) {G : List Nat} (hc : Ch G w w') (hG : ∀ k, k ∈ L.fp g -> k ∉ G) : NodeAt w' b g L x :=
 ⟨h.cs.keep hc (hG _ (by simp [Lay.fp])), h.raw.keep hc (fun k hk => hG k (by simp [Lay.fp, hk])), h.row.keep hc (fun k hk => hG k (by simp [Lay.fp, hk])), h.qu.keep hc (hG _ (by simp [Lay.fp])) (fun k hk => hG k (by simp [Lay.fp, hk])), h.apart, h.gb, h.qb, h.lv⟩
theorem NodeAt.on (h : NodeAt w b g L x) (hc : Ch [] w w') : NodeAt w' b g L x := h.keep hc (by simp)
theorem ToldAt.keep {A : Option Addr} {c : Nat} {q : Option Nat} (h : ToldAt w b gt A c q t) {G : List Nat} (hc : Ch G w w') (hG : ∀ k, k ∈ gt :: q.toList -> k ∉ G) : ToldAt w' b gt A c q t :=
 ⟨h.cs.keep hc (hG _ (by simp)), h.kinds.keep hc (fun k hk => hG k (by simp [hk])), h.gb⟩
theorem NT.on (h : NT w b g gt F x t) (hc : Ch [] w w') : NT w' b g gt F x t := by
 obtain ⟨hb, L, A, c, q, h1, h2, h3, h4⟩ := h
 exact ⟨Nat.le_trans hb hc.size, L, A, c, q, h1.on hc, h2.keep hc (by simp), h3, h4⟩
theorem NodeAt.free (h : NodeAt w b g L x) : ∀ k, k ∈ L.gq :: (L.q.toList ++ L.q2.toList ++ L.qq.toList) -> k ≠ g := by
 intro k hk e
 subst e
 simp only [List.mem_cons, List.mem_append, Option.mem_toList] at hk
 rcases hk with hk | (hk | hk) | hk
 · obtain ⟨⟨A, c, h1, h2⟩, _⟩ := h.qu
   exact blk_ne h.cs h1 (by decide) hk
 · rcases h.raw.lies with ⟨_, _, _, hq⟩ | ⟨g', cur, hq, _, _, hg, _⟩
   · rw [hq] at hk; cases hk
   · rw [hq] at hk; cases hk; exact blk_ne h.cs hg (by decide) rfl
 · rcases h.row.lies with ⟨_, _, _, hq⟩ | ⟨g', cur, hq, _, _, hg, _⟩
   · rw [hq] at hk; cases hk
   · rw [hq] at hk; cases hk; exact blk_ne h.cs hg (by decide) rfl
 · obtain ⟨⟨A, c, h1, h2⟩, _⟩ := h.qu
   rcases h2.lies with ⟨_, _, _, hq⟩ | ⟨g', cur, hq, _, _, hg, _⟩
   · rw [hq] at hk; cases hk
   · rw [hq] at hk; cases hk; exact blk_ne h.cs hg (by decide) rfl
theorem NT.gne (h : NT w b g gt F x t) : gt ≠ g := by
 obtain ⟨hb, L, A, c, q, h1, h2, h3, h4⟩ := h
 exact blk_ne h2.cs h1.cs (by decide)
theorem ToldAt.free {A : Option Addr} {c : Nat} {q : Option Nat} (h : ToldAt w b gt A c q t) : ∀ k, q = some k -> k ≠ gt := by
 intro k hk e
 subst e
 rcases h.kinds.lies with ⟨_, _, _, hq⟩ | ⟨g', cur, hq, _, _, hg, _⟩
 · rw [hq] at hk; cases hk
 · rw [hq] at hk; cases hk; exact blk_ne h.cs hg (by decide) rfl
theorem NodeAt.set (h : NodeAt w b g L x) (j : Nat) (v : Value) (hc : ∀ L, (ndc L x).set j v = ndc L x') (hr : x'.raw = x.raw) (ho : x'.row = x.row) (hq : x'.queue = x.queue) : NodeAt (w.setCell ⟨g, j, none⟩ v) b g L x' := by
 have hch : Ch [g] w (w.setCell ⟨g, j, none⟩ v) := (Ch.refl [g] w).set _ _ (.inl (by simp))
 have hf := h.free
 refine ⟨by rw [<- hc]; exact h.cs.set j v, ?_, ?_, ?_, h.apart, h.gb, h.qb, by rw [hr]; exact h.lv⟩
 · rw [hr]; exact h.raw.keep hch (fun k hk => by simpa using hf k (by simp [hk]))
 · rw [ho]; exact h.row.keep hch (fun k hk => by simpa using hf k (by simp [hk]))
 · rw [hq]; exact h.qu.keep hch (by simpa using hf L.gq (by simp)) (fun k hk => by simpa using hf k (by simp [hk]))
theorem NT.set (h : NT w b g gt F x t) (j : Nat) (v : Value) (x' : Pl.Nd) (hc : ∀ L, (ndc L x).set j v = ndc L x') (hr : x'.raw = x.raw) (ho : x'.row = x.row) (hq : x'.queue = x.queue) : NT (w.setCell ⟨g, j, none⟩ v) b g gt F x' t /\ St F w (w.setCell ⟨g, j, none⟩ v) F := by
 have hgn := h.gne
 obtain ⟨hb, L, A, c, q, h1, h2, h3, h4⟩ := h
 have hch : Ch [g] w (w.setCell ⟨g, j, none⟩ v) := (Ch.refl [g] w).set _ _ (.inl (by simp))
 refine ⟨⟨Nat.le_trans hb hch.size, L, A, c, q, h1.set j v hc hr ho hq, h2.keep hch ?_, h3, h4⟩, ⟨hch.sub ?_, fun _ h => .inl h⟩⟩
 · intro k hk
   simp only [List.mem_cons, Option.mem_toList] at hk
   simp only [List.mem_cons, List.not_mem_nil, or_false]
   rcases hk with rfl | hk
   · exact hgn
   · rintro rfl
     rcases h2.kinds.lies with ⟨_, _, _, hq⟩ | ⟨g', cur, hq, _, _, hg, _⟩
     · rw [hq] at hk; cases hk
     · rw [hq] at hk; cases hk; exact blk_ne h1.cs hg (by decide) rfl
 · intro k hk
   simp only [List.mem_cons, List.not_mem_nil, or_false] at hk
   subst hk
   rw [h4]
   simp [Lay.fp]
theorem NT.node (h : NT w b g gt F x t) : ∃ L, NodeAt w b g L x := by
 obtain ⟨hb, L, A, c, q, h1, _⟩ := h
 exact ⟨L, h1⟩
end
end
section
section
variable {b g : Nat} {L : Lay} {x : Pl.Nd}
theorem nnext_calls (w : World) (h : NodeAt w b g L x) :
   Calls Tryz.prog 98 #[.pointer (some ⟨g, 0, none⟩)] w fun e w' => e = .returned (.tuple #[.int .i64 x.kind, .int .i64 x.place, .bool x.added]) /\ Ch [] w w' := by
 have c0 : w.cell? ⟨g, 0, none⟩ = some (.slice L.A x.raw.length L.c) := h.cs.cell (by rfl)
 have hg := h.cs.lt
 have NX := Ad (next_calls L.A L.c x.raw.length x.raw rfl w h.ls)
 have H := Ad h
 have K0 := Ad (show x.kind = (Pl.next x.raw).1 from rfl)
 have K1 := Ad (show x.place = (Pl.next x.raw).2.1 from rfl)
 generalize x.kind = kind at *
 generalize x.place = place at *
 clear h
 go_enter Tryz.func98, Tryz.ntmps98
 go_wp2_with fail
 refine NX.out.mono ?_
 rintro e w1 ⟨rfl, hC⟩
 unfold fv
 rw [<- K0.out, <- K1.out]
 have c2 : w1.cell? ⟨g, 2, none⟩ = some (.int .i64 x.run) := (H.out.on hC).cs.cell (by rfl)
 have C := Ad hC
 clear hC NX
 go_wp2_with fail
 go_quiet (fail)
 go_wp2_with fail
 refine bodyPost_ret (v := .tuple #[.int .i64 kind, .int .i64 place, .bool x.added]) (by simp [results, Tryz.f98, go_sem, Pl.Nd.added]; rfl) rfl ⟨rfl, C.out.drewN _⟩
theorem rt_calls (A : Option Addr) (c n : Nat) (l : List Int) (hn : l.length = n) (w : World) (h : Ls w A c l) :
   Calls Tryz.prog 111 #[.slice A n c] w fun e w' => (∃ is : Bool, ∃ z : Int, e = .returned (.tuple #[.bool is, .int .i64 z]) /\ (is && (z == 0)) = Pl.rt l) /\ Ch [] w w' := by
 unfold Pl.rt
 by_cases hw : (Pl.read l).2 = true
 · by_cases hs : (Pl.read l).1.sum + 15 <= n
   · refine (fright_yes A c n _ l hn hw rfl hs w h).mono ?_
     rintro e w' ⟨rfl, hC⟩
     exact ⟨⟨_, _, rfl, by rw [hw]; simp; intro _; rw [hn]; exact hs⟩, hC⟩
   · refine (fright_short A c n _ l hn hw rfl (by omega) w h).mono ?_
     rintro e w' ⟨rfl, hC⟩
     exact ⟨⟨_, _, rfl, by rw [hw, hn]; simp [hs]⟩, hC⟩
 · have hw : (Pl.read l).2 = false := by simpa using hw
   refine (fright_no A c n l hn hw w h).mono ?_
   rintro e w' ⟨rfl, hC⟩
   exact ⟨⟨_, _, rfl, by rw [hw]; rfl⟩, hC⟩
theorem nright_calls (w : World) (h : NodeAt w b g L x) :
   Calls Tryz.prog 99 #[.pointer (some ⟨g, 0, none⟩)] w fun e w' => e = .returned (.bool (Pl.rt x.raw)) /\ Ch [] w w' := by
 have c0 : w.cell? ⟨g, 0, none⟩ = some (.slice L.A x.raw.length L.c) := h.cs.cell (by rfl)
 have hg := h.cs.lt
 have NX := Ad (rt_calls L.A L.c x.raw.length x.raw rfl w h.ls)
 clear h
 go_enter Tryz.func99, Tryz.ntmps99
 go_wp2_with fail
 refine NX.out.mono ?_
 rintro e w1 ⟨⟨is, z, rfl, hz⟩, hC⟩
 have C := Ad hC
 have HZ := Ad hz
 clear hC NX hz
 cases is
 · go_wp2_with fail
   go_ret
   exact ⟨by rw [<- HZ.out]; rfl, C.out⟩
 · go_wp2_with fail
   go_ret
   exact ⟨by rw [<- HZ.out]; rfl, C.out⟩
theorem npending_calls (w : World) (h : NodeAt w b g L x) :
   Calls Tryz.prog 78 #[.pointer (some ⟨g, 0, none⟩)] w fun e w' => e = .returned (.bool x.pending) /\ w' = w := by
 have c3 : w.cell? ⟨g, 3, none⟩ = some (.pointer (some ⟨L.gq, 0, none⟩)) := h.cs.cell (by rfl)
 have hg := h.cs.lt
 obtain ⟨⟨A, c, h1, h2⟩, h3, h4⟩ := h.qu
 have LC := Ad (len_calls w L.gq x.queue.length c A _ h1 (by omega))
 clear h h1 h2 h4
 unfold Pl.Nd.pending
 generalize x.queue.length = n at *
 go_enter Tryz.func78, Tryz.ntmps78
 go_wp2_with fail
 refine LC.out.mono ?_
 rintro e w' ⟨rfl, rfl⟩
 go_wp2_with fail
 go_ret
 refine ⟨?_, rfl⟩
 simp
theorem nlate_calls (w : World) (h : NodeAt w b g L x) :
   Calls Tryz.prog 131 #[.pointer (some ⟨g, 0, none⟩)] w fun e w' => e = .returned (.bool x.late) /\ Ch [] w w' := by
 have c7 : w.cell? ⟨g, 7, none⟩ = some (.bool x.tx) := h.cs.cell (by rfl)
 have c11 : w.cell? ⟨g, 11, none⟩ = some (.int .i64 x.t) := h.cs.cell (by rfl)
 have c12 : w.cell? ⟨g, 12, none⟩ = some (.int .i64 x.r) := h.cs.cell (by rfl)
 have c13 : w.cell? ⟨g, 13, none⟩ = some (.bool x.off) := h.cs.cell (by rfl)
 have hg := h.cs.lt
 have SC := Ad (Ct.state_calls x.t x.r x.off x.state rfl w)
 unfold Pl.Nd.late
 unfold Ct.cv at SC
 generalize x.state = s at *
 clear h
 cases htx : x.tx
 · rw [htx] at c7
   go_enter Tryz.func131, Tryz.ntmps131
   go_wp2_with fail
   go_ret
   exact ⟨rfl, Ch.refl _ _⟩
 · rw [htx] at c7
   go_enter Tryz.func131, Tryz.ntmps131
   go_wp2_with fail
   refine SC.out.mono ?_
   rintro e w' ⟨rfl, hB⟩
   go_wp2_with fail
   go_ret
   refine ⟨?_, Ch.of_below hB⟩
   simp
   rfl
end
end
section
def Res (w : World) (b g gt : Nat) (F : List Nat) (x : Pl.Nd) (t : Pl.Td) (v : Value) (e : Ending) (w' : World) : Prop := e = .returned v /\ ∃ F', NT w' b g gt F' x t /\ St F w w' F'
section
variable {w w1 : World} {b g gt : Nat} {F F1 : List Nat} {x x' : Pl.Nd} {t t' : Pl.Td} {v : Value} {e : Ending}
theorem Res.of {w' : World} (s : St F w w1 F1) (h : NT w' b g gt F1 x t /\ St F1 w1 w' F1) : Res w b g gt F x t v (.returned v) w' := ⟨rfl, F1, h.1, s.trans h.2⟩
theorem Res.then {w' : World} (s : St F w w1 F1) (h : Res w1 b g gt F1 x t v e w') : Res w b g gt F x t v e w' := by
 obtain ⟨h1, F', h2, h3⟩ := h
 exact ⟨h1, F', h2, s.trans h3⟩
theorem turn_calls (h : NT w b g gt F x t) (m : Int) :
   Calls Tryz.prog 121 #[.pointer (some ⟨g, 0, none⟩), .int .i64 m] w (Res w b g gt F (x.turn m) t (.tuple #[])) := by
 obtain ⟨L, hL⟩ := h.node
 have c4 : w.cell? ⟨g, 4, none⟩ = some (.int .i64 x.mode) := hL.cs.cell (by rfl)
 have c5 : w.cell? ⟨g, 5, none⟩ = some (.int .i64 x.k) := hL.cs.cell (by rfl)
 have f4 := hL.cs.free 4
 have f5 := hL.cs.free 5
 have H := Ad h
 clear h hL
 go_enter Tryz.func121, Tryz.ntmps121
 go_wp2_with fail
 go_end0
 have h1 := H.out.set 4 (.int .i64 m) { x with mode := m } (fun _ => rfl) rfl rfl rfl
 have h2 := h1.1.set 5 (.int .i64 0) (x.turn m) (fun _ => rfl) rfl rfl rfl
 exact Res.of h1.2 h2
theorem NT.told (h : NT w b g gt F x t) : ∃ A c q, ToldAt w b gt A c q t /\ b <= w.heap.size /\ (∀ k, q = some k -> k ∈ F) /\ gt ∈ F := by
 obtain ⟨hb, L, A, c, q, h1, h2, h3, h4⟩ := h
 exact ⟨A, c, q, h2, hb, fun k hk => by rw [h4]; simp [hk], by rw [h4]; simp⟩
theorem Ow.blk {α : Type} {E : El α} {A : Option Addr} {c : Nat} {l : List α} {k : Nat} (h : Ow E w b (some k) A c l) : ∃ cur, w.heap[k]? = some (.cells cur E.t (0, 0)) := by
 rcases h.lies with ⟨_, _, _, hq⟩ | ⟨g', cur, hq, _, _, hg, _⟩
 · cases hq
 · cases hq; exact ⟨cur, hg⟩
theorem told_apart {L : Lay} {A : Option Addr} {c : Nat} {q : Option Nat} (h1 : NodeAt w b g L x) (h2 : ToldAt w b gt A c q t) (h3 : ∀ k, q = some k -> L.q ≠ some k /\ L.q2 ≠ some k) : ∀ k, k ∈ L.fp g -> k ≠ gt /\ q ≠ some k := by
 intro k hk
 have hgt : ∀ cur' T' (k : Nat), w.heap[k]? = some (.cells cur' T' (0, 0)) -> T' ≠ 168 -> k ≠ gt := fun cur' T' k hb hT => blk_ne hb h2.cs hT
 have hqt : ∀ cur' T' (k : Nat), w.heap[k]? = some (.cells cur' T' (0, 0)) -> T' ≠ 3 -> q ≠ some k := by
   rintro cur' T' k hb hT rfl
   obtain ⟨cur, hc⟩ := h2.kinds.blk
   exact blk_ne hb hc hT rfl
 obtain ⟨⟨Aq, cq, hq1, hq2⟩, _⟩ := h1.qu
 simp only [Lay.fp, List.mem_cons, List.mem_append, Option.mem_toList] at hk
 rcases hk with rfl | rfl | (hk | hk) | hk
 · exact ⟨hgt _ _ _ h1.cs (by decide), hqt _ _ _ h1.cs (by decide)⟩
 · exact ⟨hgt _ _ _ hq1 (by decide), hqt _ _ _ hq1 (by decide)⟩
 · have := h1.raw
   rw [hk] at this
   obtain ⟨cur, hc⟩ := this.blk
   exact ⟨hgt _ _ _ hc (by decide), fun e => (h3 k e).1 hk⟩
 · have := h1.row
   rw [hk] at this
   obtain ⟨cur, hc⟩ := this.blk
   exact ⟨hgt _ _ _ hc (by decide), fun e => (h3 k e).2 hk⟩
 · rw [hk] at hq2
   obtain ⟨cur, hc⟩ := hq2.blk
   exact ⟨hgt _ _ _ hc (by decide), hqt _ _ _ hc (by decide)⟩
theorem tell_calls (h : NT w b g gt F x t) (kind : Int) (hk : t.kinds.length <= 100) :
   Calls Tryz.prog 129 #[.pointer (some ⟨gt, 0, none⟩), .int .i64 kind] w (Res w b g gt F x (t.tell kind) (.tuple #[])) := by
 have hgn := h.gne
 obtain ⟨hb, L, A, c, q, h1, h2, h3, h4⟩ := h
 obtain ⟨n, hn⟩ : ∃ n, t.kinds.length = n := ⟨_, rfl⟩
 have c0 : w.cell? ⟨gt, 0, none⟩ = some (.slice A n c) := by rw [<- hn]; exact h2.cs.cell (by rfl)
 have hgt := h2.cs.lt
 have O := Ad (h2.kinds.on ((Ch.refl [] w).alloc (.cells #[.int .i64 kind] 3)))
 have HN := Ad hn
 have Y := Ad (Ow.lit Iv w [kind] #[.int .i64 kind] (by rfl) (by decide : 1 <= maxLen)).rd
 have HB := Ad hb
 have H1 := Ad h1
 have H2 := Ad h2
 have H3 := Ad h3
 have H4 := Ad h4
 have HG := Ad hgn
 rw [hn] at hk
 clear h1 h2 h3 h4 hb hn hgn
 go_enter Tryz.func129, Tryz.ntmps129
 go_wp2_with (at_builtin; refine wpList_append_Ow rfl (.tmp 8) (.tmp 10) 57 (by rfl) (by rfl) (some ⟨w.heap.size, 0, none⟩) 1 1 [kind] (by rfl) (by rfl) HN.out O.out Y.out rfl (by show (n + 1) * 8 <= _; omega) (by have := HB.out; rw [World.size_alloc]; omega) ?_)
 intro A' c' q' w1 hO hC hq
 have hch := ((Ch.refl [] w).alloc (.cells #[.int .i64 kind] 3)).any.then hC
 have HT1 := (H2.out.cs.keep hch (by
   intro hm
   rw [Option.mem_toList] at hm
   exact H2.out.free gt hm rfl))
 have d0 : w1.cell? ⟨gt, 0, none⟩ = some (.slice A n c) := by rw [<- HN.out]; exact HT1.cell (by rfl)
 have e0 := HT1.free 0
 have T1 := Ad HT1
 have O1 := Ad hO
 have C1 := Ad hch
 have Q1 := Ad hq
 clear HT1 hO hC hq hch O Y
 go_wp2_with fail
 go_end0
 have hap := told_apart H1.out H2.out H3.out
 have hn1 : NodeAt w1 b g L x := H1.out.keep C1.out (fun k hk hm => (hap k hk).2 (by rw [Option.mem_toList] at hm; exact hm))
 have hs : Ch [gt] w1 (w1.setCell ⟨gt, 0, none⟩ (.slice A' (n + 1) c')) := (Ch.refl [gt] w1).set _ _ (.inl (by simp))
 have hn2 := hn1.keep hs (fun k hk => by simpa using (hap k hk).1)
 have hqg : ∀ k, q' = some k -> k ≠ gt := by
   rintro k rfl rfl
   obtain ⟨cur, hc⟩ := O1.out.blk
   exact blk_ne T1.out hc (by decide) rfl
 have ht : ToldAt (w1.setCell ⟨gt, 0, none⟩ (.slice A' (n + 1) c')) b gt A' c' q' (t.tell kind) := by
   refine ⟨?_, O1.out.keep hs (fun k hk => by simpa using hqg k hk), H2.out.gb⟩
   have := T1.out.set 0 (.slice A' (n + 1) c')
   have e : (tdc A c t).set 0 (.slice A' (n + 1) c') = tdc A' c' (t.tell kind) := by
     simp [tdc, Pl.Td.tell, HN.out]
   rw [e] at this
   exact this
 refine ⟨rfl, L.fp g ++ gt :: q'.toList, ⟨Nat.le_trans HB.out (Nat.le_trans C1.out.size hs.size), L, A', c', q', hn2, ht, ?_, rfl⟩, ?_, ?_⟩
 · intro k hk
   rcases Q1.out with e | e
   · exact H3.out k (by rw [<- e]; exact hk)
   · rw [e] at hk
     cases hk
     refine ⟨fun e2 => ?_, fun e2 => ?_⟩
     · have := (H1.out.raw.size _ e2).2; omega
     · have := (H1.out.row.size _ e2).2; omega
 · refine (C1.out.sub (fun k hk => ?_)).set _ _ (.inl ?_)
   · rw [H4.out]; simp at hk; simp [hk]
   · rw [H4.out]; simp
 · intro k hk
   rw [H4.out]
   simp only [List.mem_append, List.mem_cons, Option.mem_toList] at hk ⊢
   rcases hk with hk | rfl | hk
   · exact .inl (.inl hk)
   · exact .inl (.inr (.inl rfl))
   · rcases Q1.out with e | e
     · exact .inl (.inr (.inr (by rw [<- e]; exact hk)))
     · rw [e] at hk
       cases hk
       exact .inr (by omega)
end
end
section
section
variable {w w1 : World} {b g gt : Nat} {F F1 : List Nat} {x x' : Pl.Nd} {t t' : Pl.Td} {v : Value} {e : Ending}
theorem NT.raws (h : NT w b g gt F x t) (lv : Int) (hlv : lv = 0 ∨ lv = 1) : ∃ L, NodeAt w b g L x /\ b <= w.heap.size /\ ∀ (w1 : World) (A' : Option Addr) (c' : Nat) (q' : Option Nat), Ow Iv w1 b q' A' c' (x.raw ++ [lv]) -> Ch L.q.toList w w1 -> (q' = L.q ∨ ∃ k, q' = some k /\ w.heap.size <= k) ->
   (∃ cs, Cs w1 g 166 cs /\ cs.length = 27) /\ Res w b g gt F { x with raw := x.raw ++ [lv] } t v (.returned v) (w1.setCell ⟨g, 0, none⟩ (.slice A' (x.raw.length + 1) c')) := by
 obtain ⟨hb, L, A, c, q, h1, h2, h3, h4⟩ := h
 refine ⟨L, h1, hb, fun w1 A' c' q' hO hC hq => ?_⟩
 have hap := told_apart h1 h2 h3
 have hf := h1.free
 obtain ⟨⟨Aq, cq, hq1, hq2⟩, _⟩ := h1.qu
 have hqt : ∀ cur' T' (k : Nat), w.heap[k]? = some (.cells cur' T' (0, 0)) -> T' ≠ 3 -> L.q ≠ some k := by
   rintro cur' T' k hb hT e
   have := h1.raw
   rw [e] at this
   obtain ⟨cur, hc⟩ := this.blk
   exact blk_ne hb hc hT rfl
 have hgq : g ∉ L.q.toList := fun hm => by rw [Option.mem_toList] at hm; exact hqt _ _ _ h1.cs (by decide) hm
 have hcs := h1.cs.keep hC hgq
 have hs : Ch [g] w1 (w1.setCell ⟨g, 0, none⟩ (.slice A' (x.raw.length + 1) c')) := (Ch.refl [g] w1).set _ _ (.inl (by simp))
 have hrow := h1.row.keep hC (fun k hk hm => by rw [Option.mem_toList] at hm; exact h1.apart k hm hk)
 have hqu := h1.qu.keep hC (fun hm => by rw [Option.mem_toList] at hm; exact hqt _ _ _ hq1 (by decide) hm) (fun k hk hm => by
   rw [Option.mem_toList] at hm
   rw [hk] at hq2
   obtain ⟨cur, hc⟩ := hq2.blk
   exact hqt _ _ _ hc (by decide) hm)
 have htold := h2.keep hC (by
   intro k hk hm
   rw [Option.mem_toList] at hm
   simp only [List.mem_cons, Option.mem_toList] at hk
   rcases hk with rfl | hk
   · exact hqt _ _ _ h2.cs (by decide) hm
   · exact (h3 k hk).1 hm)
 have hqg : ∀ k, q' = some k -> k ≠ g := by
   rintro k rfl rfl
   obtain ⟨cur, hc⟩ := hO.blk
   exact blk_ne hcs hc (by decide) rfl
 refine ⟨⟨_, hcs, rfl⟩, rfl, ({ L with A := A', c := c', q := q' } : Lay).fp g ++ gt :: q.toList, ⟨Nat.le_trans hb (Nat.le_trans hC.size hs.size), { L with A := A', c := c', q := q' }, A, c, q, ⟨?_, ?_, ?_, ?_, ?_, h1.gb, h1.qb, h1.lv.app (fun y hy => by simp at hy; subst hy; exact hlv)⟩, ?_, ?_, rfl⟩, ?_, ?_⟩
 · have := hcs.set 0 (.slice A' (x.raw.length + 1) c')
   have e : (ndc L x).set 0 (.slice A' (x.raw.length + 1) c') = ndc { L with A := A', c := c', q := q' } { x with raw := x.raw ++ [lv] } := by simp [ndc]
   rw [e] at this
   exact this
 · exact hO.keep hs (fun k hk => by simpa using hqg k hk)
 · exact hrow.keep hs (fun k hk => by simpa using hf k (by simp [hk]))
 · exact hqu.keep hs (by simpa using hf L.gq (by simp)) (fun k hk => by simpa using hf k (by simp [hk]))
 · intro k hk
   rcases hq with e | ⟨k', e, hk'⟩
   · exact h1.apart k (by rw [<- e]; exact hk)
   · intro e2
     rw [e] at hk
     cases hk
     have := (h1.row.size _ e2).2
     omega
 · exact htold.keep hs (by
     intro k hk
     simp only [List.mem_cons, Option.mem_toList] at hk
     simp only [List.mem_cons, List.not_mem_nil, or_false]
     rcases hk with rfl | hk
     · exact (hap g (by simp [Lay.fp])).1.symm
     · rintro rfl
       exact (hap k (by simp [Lay.fp])).2 hk)
 · intro k hk
   refine ⟨fun e2 => ?_, (h3 k hk).2⟩
   rcases hq with e | ⟨k', e, hk'⟩
   · exact (h3 k hk).1 (by rw [<- e]; exact e2)
   · have e3 : q' = some k := e2
     rw [e] at e3
     cases e3
     have := (h2.kinds.size _ hk).2
     omega
 · refine (hC.sub (fun k hk => ?_)).set _ _ (.inl ?_)
   · rw [h4]; simp at hk; simp [Lay.fp, hk]
   · rw [h4]; simp [Lay.fp]
 · intro k hk
   rw [h4]
   simp only [Lay.fp, List.mem_append, List.mem_cons, Option.mem_toList] at hk ⊢
   rcases hk with (hk | hk | (hk | hk) | hk) | hk | hk
   · simp [hk]
   · simp [hk]
   · rcases hq with e | ⟨k', e, hk'⟩
     · left; left; right; right; left; left; rw [<- e]; exact hk
     · rw [e] at hk; cases hk; exact .inr hk'
   · simp [hk]
   · simp [hk]
   · simp [hk]
   · simp [hk]
set_option maxRecDepth 100000 in
theorem take_calls (h : NT w b g gt F x t) (lv : Int) (hlv : lv = 0 ∨ lv = 1) (hlen : x.raw.length <= 1000000) (hrun : 0 <= x.run /\ x.run <= 1000) :
   Calls Tryz.prog 127 #[.pointer (some ⟨g, 0, none⟩), .int .i64 lv] w (Res w b g gt F (x.take lv).1 t (.bool (x.take lv).2)) := by
 obtain ⟨L, hL⟩ := h.node
 have NX := Ad (nnext_calls w hL)
 have H := Ad h
 have HL := Ad hL
 have LV := Ad hlv
 clear h hL
 go_enter Tryz.func127, Tryz.ntmps127
 go_wp2_with fail
 refine NX.out.mono ?_
 rintro e w1 ⟨rfl, hC⟩
 have H1 := Ad (H.out.on hC)
 have S1 := Ad (St.of (F := F) hC)
 have hL1 := HL.out.on hC
 have c1 : w1.cell? ⟨g, 1, none⟩ = some (.int .i64 x.level) := hL1.cs.cell (by rfl)
 have c2 : w1.cell? ⟨g, 2, none⟩ = some (.int .i64 x.run) := hL1.cs.cell (by rfl)
 have f1 := hL1.cs.free 1
 have f2 := hL1.cs.free 2
 clear hL1 hC NX HL
 generalize hk : x.kind = kind
 generalize hp : x.place = place
 by_cases ha : x.run = 5
 · have ha' : x.added = true := by simp [Pl.Nd.added, ha]
   rw [ha']
   by_cases hl : lv = x.level
   · have RES := Ad (show x.take lv = (x, false) by rw [Pl.Nd.take, if_pos ⟨ha', hl⟩])
     go_wp2_with fail
     go_ret
     rw [RES.out]
     exact ⟨rfl, F, H1.out, S1.out⟩
   · have RES := Ad (show x.take lv = ({ x with level := lv, run := 1 }, true) by rw [Pl.Nd.take, if_neg (fun h => hl h.2), if_pos ha'])
     go_wp2_with fail
     go_ret
     rw [RES.out]
     have h1 := H1.out.set 1 (.int .i64 lv) { x with level := lv } (fun _ => rfl) rfl rfl rfl
     have h2 := h1.1.set 2 (.int .i64 1) { x with level := lv, run := 1 } (fun _ => rfl) rfl rfl rfl
     exact Res.of (S1.out.trans h1.2) h2
 · have ha' : x.added = false := by simp [Pl.Nd.added, ha]
   have n1 : ¬ (x.added = true /\ lv = x.level) := fun h => by rw [ha'] at h; exact absurd h.1 (by decide)
   have n2 : ¬ x.added = true := by rw [ha']; decide
   have TK := Ad (show x.take lv = (if 4 < kind then ({ x with run := 0, raw := x.raw ++ [lv] }, true) else if 0 < x.run /\ lv = x.level then ({ x with run := x.run + 1, raw := x.raw ++ [lv] }, true) else ({ x with level := lv, run := 1, raw := x.raw ++ [lv] }, true)) by rw [Pl.Nd.take, if_neg n1, if_neg n2, hk])
   rw [ha']
   clear n1 n2 ha'
   by_cases h4 : 4 < kind
   · have RES := Ad (show x.take lv = ({ ({ x with run := 0 } : Pl.Nd) with raw := x.raw ++ [lv] }, true) from by rw [TK.out, if_pos h4])
     have h1 := H1.out.set 2 (.int .i64 0) { x with run := 0 } (fun _ => rfl) rfl rfl rfl
     obtain ⟨w2, hw2⟩ : ∃ w2, w1.setCell ⟨g, 2, none⟩ (.int .i64 0) = w2 := ⟨_, rfl⟩
     have H2 := Ad (show NT w2 b g gt F ({ x with run := 0 } : Pl.Nd) t from hw2 ▸ h1.1)
     have S2 := Ad (show St F w w2 F from hw2 ▸ (S1.out.trans h1.2))
     have HW := Ad hw2
     clear hw2 h1
     have CH3 := Ad ((Ch.refl [] w2).alloc (.cells #[.int .i64 lv] 3))
     have H3 := Ad (H2.out.on CH3.out)
     obtain ⟨L3, hL3, hb3, fin⟩ := H3.out.raws (v := .bool true) lv LV.out
     obtain ⟨L2, hL2⟩ := H2.out.node
     obtain ⟨n, hn⟩ : ∃ n, x.raw.length = n := ⟨_, rfl⟩
     have d0 : (w2.alloc (.cells #[.int .i64 lv] 3)).cell? ⟨g, 0, none⟩ = some (.slice L3.A n L3.c) := by rw [<- hn]; exact hL3.cs.cell (by rfl)
     have d1 : w2.cell? ⟨g, 0, none⟩ = some (.slice L3.A n L3.c) := by
       have e1 : w2.cell? ⟨g, 0, none⟩ = some (.slice L2.A n L2.c) := by rw [<- hn]; exact hL2.cs.cell (by rfl)
       have e2 := CH3.out.cell e1 (by simp)
       rw [d0] at e2
       rw [e1, e2]
     have d2 : w1.cell? ⟨g, 0, none⟩ = some (.slice L3.A n L3.c) := by have := d1; rw [<- HW.out] at this; simpa [go_sem] using this
     have hgl := hL2.cs.lt
     have O := Ad hL3.raw
     have HN := Ad hn
     have HB := Ad hb3
     have FIN := Ad fin
     have Y := Ad (Ow.lit Iv w2 [lv] #[.int .i64 lv] (by rfl) (by decide : 1 <= maxLen)).rd
     rw [hn] at hlen
     clear hL3 hL2 hn hb3 fin d0
     have HSZ := Ad (show w1.heap.size = w2.heap.size by rw [<- HW.out]; simp)
     go_wp2_with (at_builtin; rw [HW.out, HSZ.out]; refine wpList_append_Ow rfl (.tmp 71) (.tmp 73) 57 (by rfl) (by rfl) (some ⟨w2.heap.size, 0, none⟩) 1 1 [lv] (by rfl) (by rfl) HN.out O.out Y.out rfl (by show (n + 1) * 8 <= _; omega) HB.out ?_)
     intro A' c' q' w4 hO hC hq
     obtain ⟨⟨cs, hcs, hcl⟩, hres⟩ := FIN.out w4 A' c' q' hO hC (by rcases hq with e | e; exact .inl e; exact .inr ⟨_, e, by rw [World.size_alloc]; exact Nat.le_refl _⟩)
     have R := Ad hres
     have g0 : w4.cell? ⟨g, 0, none⟩ = some (cs[0]'(by omega)) := hcs.cell (List.getElem?_eq_getElem _)
     have e0 := hcs.free 0
     clear hO hC hq hcs hres FIN O Y
     go_wp2_with fail
     go_ret
     rw [RES.out]
     have hr := R.out
     have hn9 := HN.out
     simp only [hn9] at hr
     exact Res.then (S2.out.trans (St.of CH3.out)) hr
   · have wr1 : IntKind.i64.wrap (x.run + 1) = x.run + 1 := by rw [IntKind.wrap_i64]; omega
     by_cases h5 : 0 < x.run
     · by_cases h6 : lv = x.level
       · have RES := Ad (show x.take lv = ({ ({ x with run := x.run + 1 } : Pl.Nd) with raw := x.raw ++ [lv] }, true) from by rw [TK.out, if_neg h4, if_pos ⟨h5, h6⟩])
         have h1 := H1.out.set 2 (.int .i64 (x.run + 1)) { x with run := x.run + 1 } (fun _ => rfl) rfl rfl rfl
         have b6 : (lv == x.level) = true := by simp [h6]
         clear h6
         obtain ⟨w2, hw2⟩ : ∃ w2, w1.setCell ⟨g, 2, none⟩ (.int .i64 (x.run + 1)) = w2 := ⟨_, rfl⟩
         have H2 := Ad (show NT w2 b g gt F ({ x with run := x.run + 1 } : Pl.Nd) t from hw2 ▸ h1.1)
         have S2 := Ad (show St F w w2 F from hw2 ▸ (S1.out.trans h1.2))
         have HW := Ad hw2
         clear hw2 h1
         have CH3 := Ad ((Ch.refl [] w2).alloc (.cells #[.int .i64 lv] 3))
         have H3 := Ad (H2.out.on CH3.out)
         obtain ⟨L3, hL3, hb3, fin⟩ := H3.out.raws (v := .bool true) lv LV.out
         obtain ⟨L2, hL2⟩ := H2.out.node
         obtain ⟨n, hn⟩ : ∃ n, x.raw.length = n := ⟨_, rfl⟩
         have d0 : (w2.alloc (.cells #[.int .i64 lv] 3)).cell? ⟨g, 0, none⟩ = some (.slice L3.A n L3.c) := by rw [<- hn]; exact hL3.cs.cell (by rfl)
         have d1 : w2.cell? ⟨g, 0, none⟩ = some (.slice L3.A n L3.c) := by
           have e1 : w2.cell? ⟨g, 0, none⟩ = some (.slice L2.A n L2.c) := by rw [<- hn]; exact hL2.cs.cell (by rfl)
           have e2 := CH3.out.cell e1 (by simp)
           rw [d0] at e2
           rw [e1, e2]
         have d2 : w1.cell? ⟨g, 0, none⟩ = some (.slice L3.A n L3.c) := by have := d1; rw [<- HW.out] at this; simpa [go_sem] using this
         have hgl := hL2.cs.lt
         have O := Ad hL3.raw
         have HN := Ad hn
         have HB := Ad hb3
         have FIN := Ad fin
         have Y := Ad (Ow.lit Iv w2 [lv] #[.int .i64 lv] (by rfl) (by decide : 1 <= maxLen)).rd
         rw [hn] at hlen
         clear hL3 hL2 hn hb3 fin d0
         have HSZ := Ad (show w1.heap.size = w2.heap.size by rw [<- HW.out]; simp)
         go_wp2_with (at_builtin; rw [HW.out, HSZ.out]; refine wpList_append_Ow rfl (.tmp 71) (.tmp 73) 57 (by rfl) (by rfl) (some ⟨w2.heap.size, 0, none⟩) 1 1 [lv] (by rfl) (by rfl) HN.out O.out Y.out rfl (by show (n + 1) * 8 <= _; omega) HB.out ?_)
         intro A' c' q' w4 hO hC hq
         obtain ⟨⟨cs, hcs, hcl⟩, hres⟩ := FIN.out w4 A' c' q' hO hC (by rcases hq with e | e; exact .inl e; exact .inr ⟨_, e, by rw [World.size_alloc]; exact Nat.le_refl _⟩)
         have R := Ad hres
         have g0 : w4.cell? ⟨g, 0, none⟩ = some (cs[0]'(by omega)) := hcs.cell (List.getElem?_eq_getElem _)
         have e0 := hcs.free 0
         clear hO hC hq hcs hres FIN O Y
         go_wp2_with fail
         go_ret
         rw [RES.out]
         have hr := R.out
         have hn9 := HN.out
         simp only [hn9] at hr
         exact Res.then (S2.out.trans (St.of CH3.out)) hr
       · have RES := Ad (show x.take lv = ({ ({ x with level := lv, run := 1 } : Pl.Nd) with raw := x.raw ++ [lv] }, true) from by rw [TK.out, if_neg h4, if_neg (fun h => h6 h.2)])
         have h1 := H1.out.set 1 (.int .i64 lv) { x with level := lv } (fun _ => rfl) rfl rfl rfl
         have h2 := h1.1.set 2 (.int .i64 1) { x with level := lv, run := 1 } (fun _ => rfl) rfl rfl rfl
         have b6 : (lv == x.level) = false := by simp [h6]
         clear h6
         obtain ⟨w2, hw2⟩ : ∃ w2, (w1.setCell ⟨g, 1, none⟩ (.int .i64 lv)).setCell ⟨g, 2, none⟩ (.int .i64 1) = w2 := ⟨_, rfl⟩
         have H2 := Ad (show NT w2 b g gt F ({ x with level := lv, run := 1 } : Pl.Nd) t from hw2 ▸ h2.1)
         have S2 := Ad (show St F w w2 F from hw2 ▸ ((S1.out.trans h1.2).trans h2.2))
         have HW := Ad hw2
         clear hw2 h1 h2
         have CH3 := Ad ((Ch.refl [] w2).alloc (.cells #[.int .i64 lv] 3))
         have H3 := Ad (H2.out.on CH3.out)
         obtain ⟨L3, hL3, hb3, fin⟩ := H3.out.raws (v := .bool true) lv LV.out
         obtain ⟨L2, hL2⟩ := H2.out.node
         obtain ⟨n, hn⟩ : ∃ n, x.raw.length = n := ⟨_, rfl⟩
         have d0 : (w2.alloc (.cells #[.int .i64 lv] 3)).cell? ⟨g, 0, none⟩ = some (.slice L3.A n L3.c) := by rw [<- hn]; exact hL3.cs.cell (by rfl)
         have d1 : w2.cell? ⟨g, 0, none⟩ = some (.slice L3.A n L3.c) := by
           have e1 : w2.cell? ⟨g, 0, none⟩ = some (.slice L2.A n L2.c) := by rw [<- hn]; exact hL2.cs.cell (by rfl)
           have e2 := CH3.out.cell e1 (by simp)
           rw [d0] at e2
           rw [e1, e2]
         have d2 : w1.cell? ⟨g, 0, none⟩ = some (.slice L3.A n L3.c) := by have := d1; rw [<- HW.out] at this; simpa [go_sem] using this
         have hgl := hL2.cs.lt
         have O := Ad hL3.raw
         have HN := Ad hn
         have HB := Ad hb3
         have FIN := Ad fin
         have Y := Ad (Ow.lit Iv w2 [lv] #[.int .i64 lv] (by rfl) (by decide : 1 <= maxLen)).rd
         rw [hn] at hlen
         clear hL3 hL2 hn hb3 fin d0
         have HSZ := Ad (show w1.heap.size = w2.heap.size by rw [<- HW.out]; simp)
         go_wp2_with (at_builtin; rw [HW.out, HSZ.out]; refine wpList_append_Ow rfl (.tmp 71) (.tmp 73) 57 (by rfl) (by rfl) (some ⟨w2.heap.size, 0, none⟩) 1 1 [lv] (by rfl) (by rfl) HN.out O.out Y.out rfl (by show (n + 1) * 8 <= _; omega) HB.out ?_)
         intro A' c' q' w4 hO hC hq
         obtain ⟨⟨cs, hcs, hcl⟩, hres⟩ := FIN.out w4 A' c' q' hO hC (by rcases hq with e | e; exact .inl e; exact .inr ⟨_, e, by rw [World.size_alloc]; exact Nat.le_refl _⟩)
         have R := Ad hres
         have g0 : w4.cell? ⟨g, 0, none⟩ = some (cs[0]'(by omega)) := hcs.cell (List.getElem?_eq_getElem _)
         have e0 := hcs.free 0
         clear hO hC hq hcs hres FIN O Y
         go_wp2_with fail
         go_ret
         rw [RES.out]
         have hr := R.out
         have hn9 := HN.out
         simp only [hn9] at hr
         exact Res.then (S2.out.trans (St.of CH3.out)) hr
     · have RES := Ad (show x.take lv = ({ ({ x with level := lv, run := 1 } : Pl.Nd) with raw := x.raw ++ [lv] }, true) from by rw [TK.out, if_neg h4, if_neg (fun h => h5 h.1)])
       have h1 := H1.out.set 1 (.int .i64 lv) { x with level := lv } (fun _ => rfl) rfl rfl rfl
       have h2 := h1.1.set 2 (.int .i64 1) { x with level := lv, run := 1 } (fun _ => rfl) rfl rfl rfl
       obtain ⟨w2, hw2⟩ : ∃ w2, (w1.setCell ⟨g, 1, none⟩ (.int .i64 lv)).setCell ⟨g, 2, none⟩ (.int .i64 1) = w2 := ⟨_, rfl⟩
       have H2 := Ad (show NT w2 b g gt F ({ x with level := lv, run := 1 } : Pl.Nd) t from hw2 ▸ h2.1)
       have S2 := Ad (show St F w w2 F from hw2 ▸ ((S1.out.trans h1.2).trans h2.2))
       have HW := Ad hw2
       clear hw2 h1 h2
       have CH3 := Ad ((Ch.refl [] w2).alloc (.cells #[.int .i64 lv] 3))
       have H3 := Ad (H2.out.on CH3.out)
       obtain ⟨L3, hL3, hb3, fin⟩ := H3.out.raws (v := .bool true) lv LV.out
       obtain ⟨L2, hL2⟩ := H2.out.node
       obtain ⟨n, hn⟩ : ∃ n, x.raw.length = n := ⟨_, rfl⟩
       have d0 : (w2.alloc (.cells #[.int .i64 lv] 3)).cell? ⟨g, 0, none⟩ = some (.slice L3.A n L3.c) := by rw [<- hn]; exact hL3.cs.cell (by rfl)
       have d1 : w2.cell? ⟨g, 0, none⟩ = some (.slice L3.A n L3.c) := by
         have e1 : w2.cell? ⟨g, 0, none⟩ = some (.slice L2.A n L2.c) := by rw [<- hn]; exact hL2.cs.cell (by rfl)
         have e2 := CH3.out.cell e1 (by simp)
         rw [d0] at e2
         rw [e1, e2]
       have d2 : w1.cell? ⟨g, 0, none⟩ = some (.slice L3.A n L3.c) := by have := d1; rw [<- HW.out] at this; simpa [go_sem] using this
       have hgl := hL2.cs.lt
       have O := Ad hL3.raw
       have HN := Ad hn
       have HB := Ad hb3
       have FIN := Ad fin
       have Y := Ad (Ow.lit Iv w2 [lv] #[.int .i64 lv] (by rfl) (by decide : 1 <= maxLen)).rd
       rw [hn] at hlen
       clear hL3 hL2 hn hb3 fin d0
       have HSZ := Ad (show w1.heap.size = w2.heap.size by rw [<- HW.out]; simp)
       go_wp2_with (at_builtin; rw [HW.out, HSZ.out]; refine wpList_append_Ow rfl (.tmp 71) (.tmp 73) 57 (by rfl) (by rfl) (some ⟨w2.heap.size, 0, none⟩) 1 1 [lv] (by rfl) (by rfl) HN.out O.out Y.out rfl (by show (n + 1) * 8 <= _; omega) HB.out ?_)
       intro A' c' q' w4 hO hC hq
       obtain ⟨⟨cs, hcs, hcl⟩, hres⟩ := FIN.out w4 A' c' q' hO hC (by rcases hq with e | e; exact .inl e; exact .inr ⟨_, e, by rw [World.size_alloc]; exact Nat.le_refl _⟩)
       have R := Ad hres
       have g0 : w4.cell? ⟨g, 0, none⟩ = some (cs[0]'(by omega)) := hcs.cell (List.getElem?_eq_getElem _)
       have e0 := hcs.free 0
       clear hO hC hq hcs hres FIN O Y
       go_wp2_with fail
       go_ret
       rw [RES.out]
       have hr := R.out
       have hn9 := HN.out
       simp only [hn9] at hr
       exact Res.then (S2.out.trans (St.of CH3.out)) hr
end
end
end Go.Proofs.YtjoehjclaonneaaGreat
