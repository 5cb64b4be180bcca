/- A part of the proof of TopReplay (no condition of its own). -/
import Derived.StillTailTactics
import Derived.Deep.RegionHeld3
import Derived.Test.YtjoehjclaonneaaGreatMQ
import Derived.Test.YtjoehjclaonneaaGreatMM
import Derived.Test.YtjoehjclaonneaaGreatMK
import Derived.Test.YtjoehjclaonneaaGreatMO
namespace Go.Proofs.YtjoehjclaonneaaGreat
open Go.RowKit Go.Proofs.YtjoehjclaonneaaGreatW.PrintWords
set_option maxHeartbeats 8000000
set_option linter.unusedVariables false
set_option linter.unusedSimpArgs false
section
namespace Lo
def lastE (es : List End) : End := es.getLast?.getD ⟨0, 0⟩
structure LogAt (W : World) (b g pf : Nat) (q1 q2 q3 : Option Nat) (wr : List Run) (es : List End) (wt : List Run) : Prop where
 ex : ∃ A1 c1 m1 A2 c2 m2 A3 c3 m3, Cs W g 80 [.pointer (some ⟨pf, 0, none⟩), .slice A1 m1 c1, .slice A2 m2 c2, .slice A3 m3 c3] /\ (wr.length = m1 /\ Ow Rv W b q1 A1 c1 wr) /\ (es.length = m2 /\ Ow Endv W b q2 A2 c2 es) /\ (wt.length = m3 /\ Ow Rv W b q3 A3 c3 wt)
 own : b <= g
 apart : ∀ k, q1 = some k -> q3 ≠ some k
def lfp (g : Nat) (q1 q2 q3 : Option Nat) : List Nat := g :: (q1.toList ++ q2.toList ++ q3.toList)
section
variable {W W' : World} {b g pf : Nat} {q1 q2 q3 : Option Nat} {wr wt : List Run} {es : List End}
theorem LogAt.kinds (h : LogAt W b g pf q1 q2 q3 wr es wt) : ∀ k, k ∈ lfp g q1 q2 q3 -> b <= k /\ ∃ cur T, W.heap[k]? = some (.cells cur T (0, 0)) /\ (T = 80 ∨ T = 93 ∨ T = 87) := by
 intro k hk
 obtain ⟨A1, c1, m1, A2, c2, m2, A3, c3, m3, hc, ⟨-, h1⟩, ⟨-, h2⟩, ⟨-, h3⟩⟩ := h.ex
 simp only [lfp, List.mem_cons, List.mem_append, Option.mem_toList] at hk
 rcases hk with rfl | (hk | hk) | hk
 · exact ⟨h.own, _, _, hc, .inl rfl⟩
 · have h9 := (h1.size k hk).1
   rw [hk] at h1
   obtain ⟨cur, hb⟩ := h1.blk
   exact ⟨h9, cur, 93, hb, .inr (.inl rfl)⟩
 · have h9 := (h2.size k hk).1
   rw [hk] at h2
   obtain ⟨cur, hb⟩ := h2.blk
   exact ⟨h9, cur, 87, hb, .inr (.inr rfl)⟩
 · have h9 := (h3.size k hk).1
   rw [hk] at h3
   obtain ⟨cur, hb⟩ := h3.blk
   exact ⟨h9, cur, 93, hb, .inr (.inl rfl)⟩
theorem LogAt.keep (h : LogAt W b g pf q1 q2 q3 wr es wt) {F : List Nat} (hc : Ch F W W') (hF : ∀ k, k ∈ lfp g q1 q2 q3 -> k ∉ F) : LogAt W' b g pf q1 q2 q3 wr es wt := by
 obtain ⟨A1, c1, m1, A2, c2, m2, A3, c3, m3, hg, ⟨e1, h1⟩, ⟨e2, h2⟩, ⟨e3, h3⟩⟩ := h.ex
 have s1 : ∀ k, q1 = some k -> k ∉ F := fun k hk => hF k (by simp [lfp, hk])
 have s2 : ∀ k, q2 = some k -> k ∉ F := fun k hk => hF k (by simp [lfp, hk])
 have s3 : ∀ k, q3 = some k -> k ∉ F := fun k hk => hF k (by simp [lfp, hk])
 exact ⟨⟨A1, c1, m1, A2, c2, m2, A3, c3, m3, hg.keep hc (hF g (by simp [lfp])), ⟨e1, h1.keep hc s1⟩, ⟨e2, h2.keep hc s2⟩, ⟨e3, h3.keep hc s3⟩⟩, h.own, h.apart⟩
theorem LogAt.on (h : LogAt W b g pf q1 q2 q3 wr es wt) (hc : Ch [] W W') : LogAt W' b g pf q1 q2 q3 wr es wt := h.keep hc (by simp)
theorem LogAt.noT (h : LogAt W b g pf q1 q2 q3 wr es wt) {k : Nat} {cur : Array Value} {T : TypeId} (hk : W.heap[k]? = some (.cells cur T (0, 0))) (hT : T ≠ 80 /\ T ≠ 93 /\ T ≠ 87) : k ∉ lfp g q1 q2 q3 := by
 intro hm
 obtain ⟨-, cur', T', hb, h2⟩ := h.kinds k hm
 rw [hk] at hb
 cases hb
 rcases h2 with e | e | e
 · exact hT.1 e
 · exact hT.2.1 e
 · exact hT.2.2 e
end
theorem last_calls (b g pf : Nat) (q1 q2 q3 : Option Nat) (wr wt : List Run) (es : List End) (w : World) (h : LogAt w b g pf q1 q2 q3 wr es wt) :
   Calls Tryz.prog 28 #[.pointer (some ⟨g, 0, none⟩)] w fun e w' => e = .returned (.agg #[.int .i64 (lastE es).bytes, .int .i64 (lastE es).ticks]) /\ Ch [] w w' := by
 obtain ⟨A1, c1, m1, A2, c2, m2, A3, c3, m3, hg, -, ⟨e2, h2⟩, -⟩ := h.ex
 have y2 : w.cell? ⟨g, 2, none⟩ = some (.slice A2 m2 c2) := hg.cell rfl
 have lg := hg.lt
 have len := h2.rd.len63 e2
 have B0 := Ad (Cs.new w [Value.int .i64 0, .int .i64 0] 87)
 have C0 := Ad ((Ch.refl [] w).alloc (.cells [Value.int .i64 0, .int .i64 0].toArray 87))
 by_cases hm : m2 = 0
 · subst hm
   have hes : es = [] := List.eq_nil_of_length_eq_zero e2
   subst hes
   clear h hg h2 e2
   go_enter Tryz.func28, Tryz.ntmps28
   go_wp2_with (refine wpList_store_all rfl 87 (.tmp 2) (.tmp 9) rfl [Value.int .i64 0, .int .i64 0] (by rfl) (by rfl) B0.out rfl size87 (by simp [Value.oneCell']) ?_; intro w2 hd hc)
   refine bodyPost_ret (v := .agg #[.int .i64 0, .int .i64 0]) ?_ rfl ?_
   · exact results_single (r := .cell 2 87) rfl (.cell w.heap.size 87 _ (0, 0) _ rfl hd Tryz.underlying87 rfl size87 .nil)
   · exact ⟨rfl, C0.out.trans hc (by simp)⟩
 · obtain ⟨x, hx⟩ : ∃ x, es[m2 - 1]? = some x := ⟨_, List.getElem?_eq_getElem (by rw [e2]; omega)⟩
   have hl : lastE es = x := by rw [lastE, List.getLast?_eq_getElem?, e2, hx]; rfl
   obtain ⟨ga, o, rfl, hrc⟩ := h2.rd.cells hx
   have m0 : ((m2 : Int) == 0) = false := by rw [beq_eq_false_iff_ne]; omega
   have k1 : IntKind.i64.wrap ((m2 : Int) - 1) = ((m2 - 1 : Nat) : Int) := by rw [IntKind.wrap_i64]; omega
   have k2 : ((m2 - 1 : Nat) : Int) < (m2 : Int) := by omega
   have k3 : (0 : Int) <= ((m2 - 1 : Nat) : Int) := by omega
   have a0 : w.cell? ⟨ga, o + (m2 - 1) * 2, none⟩ = some (.int .i64 x.bytes) := hrc 0 _ rfl
   have a1 : w.cell? ⟨ga, o + (m2 - 1) * 2 + 1, none⟩ = some (.int .i64 x.ticks) := hrc 1 _ rfl
   have HL := Ad hl
   generalize hm1 : m2 - 1 = mm at *
   clear h hg h2 e2 hrc hx hm hl
   have a0 := C0.out.cell a0 (by simp)
   have a1 := C0.out.cell a1 (by simp)
   go_enter Tryz.func28, Tryz.ntmps28
   go_wp2_with fail
   go_region
   all_goals
     go_wp2
     have hd := Cs.new w [Value.int .i64 x.bytes, .int .i64 x.ticks] 87
     refine bodyPost_ret (v := .agg #[.int .i64 x.bytes, .int .i64 x.ticks]) ?_ rfl ?_
     · exact results_single (r := .cell 2 87) rfl (.cell w.heap.size 87 _ (0, 0) _ rfl hd Tryz.underlying87 rfl size87 .nil)
     · exact ⟨by rw [HL.out], ((Ch.refl [] w).alloc _).drew⟩
theorem waiting_calls (b g pf : Nat) (q1 q2 q3 : Option Nat) (wr wt : List Run) (es : List End) (hr : ∀ r ∈ wt, Pl.rgt r) (ht : Pl.tot wt <= 1000000) (w : World) (h : LogAt w b g pf q1 q2 q3 wr es wt) :
   Calls Tryz.prog 45 #[.pointer (some ⟨g, 0, none⟩)] w fun e w' => e = .returned (.int .i64 (Pl.tot wt)) /\ Ch [] w w' := by
 obtain ⟨A1, c1, m1, A2, c2, m2, A3, c3, m3, hg, -, -, ⟨e3, h3⟩⟩ := h.ex
 have y3 : w.cell? ⟨g, 3, none⟩ = some (.slice A3 m3 c3) := hg.cell rfl
 have lg := hg.lt
 have TC := Ad (ticks_calls A3 c3 m3 wt e3 hr ht w h3.rd)
 clear h hg e3 h3 hr ht
 go_enter Tryz.func45, Tryz.ntmps45
 go_wp2_with fail
 refine TC.out.mono ?_
 rintro e w2 ⟨rfl, hC⟩
 go_wp2
 go_ret
 exact ⟨rfl, hC⟩
set_option maxRecDepth 100000 in
theorem lticks_calls (b g pf : Nat) (q1 q2 q3 : Option Nat) (wr wt : List Run) (es : List End) (hr : ∀ r ∈ wt, Pl.rgt r) (ht : Pl.tot wt <= 1000000) (ht0 : 0 <= Pl.tot wt) (he : 0 <= (lastE es).ticks /\ (lastE es).ticks <= 1000000) (w : World) (h : LogAt w b g pf q1 q2 q3 wr es wt) :
   Calls Tryz.prog 19 #[.pointer (some ⟨g, 0, none⟩)] w fun e w' => e = .returned (.int .i64 ((lastE es).ticks + Pl.tot wt)) /\ Ch [] w w' := by
 have hfd : ∀ (x y : Value) (w : World), (Instr.field 87 (.agg #[x, y]) 1).run Tryz.prog w = .ok y w := fun x y w => by
   kernel_rfl
 have LC := Ad (last_calls b g pf q1 q2 q3 wr wt es w h)
 have WC := Ad (fun (W : World) (hc : Ch [] w W) => waiting_calls b g pf q1 q2 q3 wr wt es hr ht W (h.on hc))
 clear h hr
 obtain ⟨h1, h2⟩ := he
 generalize Pl.tot wt = tt at *
 generalize (lastE es).ticks = te at *
 generalize (lastE es).bytes = tb at *
 go_enter Tryz.func19, Tryz.ntmps19
 go_wp2_with fail
 refine LC.out.mono ?_
 rintro e w2 ⟨rfl, hC⟩
 have C2 := Ad hC
 clear hC
 go_wp2_with fail
 refine (WC.out _ C2.out).mono ?_
 rintro e w3 ⟨rfl, hC⟩
 have C3 := Ad (C2.out.then hC)
 clear hC
 go_wp2
 go_ret
 exact ⟨rfl, C3.out⟩
set_option maxRecDepth 100000 in
theorem write_calls (b g pf : Nat) (q1 q2 q3 : Option Nat) (wr wt : List Run) (es : List End) (X : Option Addr) (cx mx : Nat) (rs : List Run) (hmx : rs.length = mx) (at_ : End) (hl : wr.length + mx <= 100000) (hle : es.length <= 100000) (h1 : ∀ r ∈ wr ++ rs, 1 <= r.n) (ht : Pl.tot (wr ++ rs) <= 1000000) (w : World) (h : LogAt w b g pf q1 q2 q3 wr es wt) (hX : Rd Rv w X cx rs) :
   Calls Tryz.prog 26 #[.pointer (some ⟨g, 0, none⟩), .slice X mx cx, .agg #[.int .i64 at_.bytes, .int .i64 at_.ticks]] w fun e w' => (∃ v, e = .returned v) /\ ∃ q1' q2', LogAt w' b g pf q1' q2' q3 (Pl.jn (wr ++ rs)) (es ++ [at_]) wt /\ Ch (g :: (q1.toList ++ q2.toList)) w w' /\ (∀ k, q1' = some k -> w.heap.size <= k) /\ (q2' = q2 ∨ ∀ k, q2' = some k -> w.heap.size <= k) /\ w'.cell? ⟨g, 3, none⟩ = w.cell? ⟨g, 3, none⟩ := by
 obtain ⟨A1, c1, m1, A2, c2, m2, A3, c3, m3, hg, ⟨e1, hO1⟩, ⟨e2, hO2⟩, ⟨e3, hO3⟩⟩ := h.ex
 have C0 := Ad ((Ch.refl [] w).alloc (.cells #[.int .i64 at_.bytes, .int .i64 at_.ticks] 87))
 have B0 := Ad (Cs.new w [Value.int .i64 at_.bytes, .int .i64 at_.ticks] 87)
 have y1 : w.cell? ⟨g, 1, none⟩ = some (.slice A1 m1 c1) := hg.cell rfl
 have lg := hg.lt
 have hbw : b <= w.heap.size := by have := h.own; omega
 have G := Ad hg
 have O1 := Ad hO1
 have O2 := Ad hO2
 have O3 := Ad hO3
 have E1 := Ad e1
 have E2 := Ad e2
 have E3 := Ad e3
 have XR := Ad hX
 have MX := Ad hmx
 have OWN := Ad h.own
 have AP := Ad h.apart
 have JH := Ad (And.intro h1 ht)
 have hm1 : m1 + mx <= 100000 := by omega
 have hm2 : m2 <= 100000 := by omega
 clear hg hO1 hO2 hO3 e1 e2 e3 h hX hmx h1 ht hl hle
 go_enter Tryz.func26, Tryz.ntmps26
 go_wp2_with (at_builtin; refine wpList_append_Ow rfl (.tmp 10) (.tmp 11) 39 (by rfl) (by rfl) X mx cx rs (by rfl) (by rfl) E1.out (O1.out.on C0.out) (XR.out.on C0.out) MX.out (by show (m1 + mx) * 24 <= _; omega) (Nat.le_trans hbw C0.out.size) ?_)
 intro A4 c4 q4 w4 hO4 hC4 hq4
 have n93 : ∀ {k : Nat} {cur : Array Value} {T : TypeId}, (w.alloc (.cells #[Value.int .i64 at_.bytes, .int .i64 at_.ticks] 87)).heap[k]? = some (.cells cur T (0, 0)) -> T ≠ 93 -> k ∉ q1.toList := fun hk hT hm => by
   rw [Option.mem_toList] at hm
   exact (O1.out.on C0.out).ne hk (fun e => hT e.symm) hm
 have D4 := Ad (B0.out.keep hC4 (n93 B0.out (by decide)))
 have G4 := Ad ((G.out.on C0.out).keep hC4 (n93 (G.out.on C0.out) (by decide)))
 have P4 := Ad ((O2.out.on C0.out).keep hC4 (fun k hk => by
   have h9 := O2.out.on C0.out
   rw [hk] at h9
   obtain ⟨cur, hb⟩ := h9.blk
   exact n93 hb (by decide)))
 have R4 := Ad ((O3.out.on C0.out).keep hC4 (fun k hk hm => by
   rw [Option.mem_toList] at hm
   exact AP.out k hm hk))
 have O4 := Ad hO4
 have C4 := Ad (show Ch q1.toList w w4 from C0.out.any.then hC4)
 have Q3 := Ad (show ∀ k, q3 = some k -> k < w.heap.size from fun k hk => (O3.out.size k hk).2)
 clear hO4 hC4 hq4 n93 y1
 go_wp2_with fail
 refine (tjoin_calls A4 c4 (m1 + mx) (wr ++ rs) (by rw [List.length_append, E1.out, MX.out]) (by omega) JH.out.1 JH.out.2 w4 O4.out.rd).mono ?_
 rintro e w5 ⟨A5, c5, q5, m5, rfl, ⟨hm5, hO5⟩, hC5⟩
 have O5 := Ad hO5
 have E5 := Ad hm5
 have G5 := Ad (G4.out.on hC5)
 have D5 := Ad (D4.out.on hC5)
 have P5 := Ad (P4.out.on hC5)
 have R5 := Ad (R4.out.on hC5)
 have C5 := Ad (C4.out.then hC5.any)
 have lg5 := G5.out.lt
 clear hO5 hm5 hC5 G4 D4 P4 R4 O4
 go_wp2_with (refine wpList_put_Cs rfl 39 (.tmp 15) (.tmp 13) rfl 1 (.slice A5 m5 c5) (by rfl) (by rfl) size39 rfl G5.out (show 1 < 4 by decide) ?_)
 intro w6 hd hc
 have G6 := Ad (show Cs w6 g 80 [.pointer (some ⟨pf, 0, none⟩), .slice A5 m5 c5, .slice A2 m2 c2, .slice A3 m3 c3] from hd)
 have ng : ∀ {k : Nat} {cur : Array Value} {T : TypeId}, w5.heap[k]? = some (.cells cur T (0, 0)) -> T ≠ 80 -> k ∉ [g] := fun hk hT hm => by
   rw [List.mem_singleton.1 hm, show w5.heap[g]? = _ from G5.out] at hk
   cases hk
   exact hT rfl
 have owg : ∀ {α : Type} {E : El α} {b7 c7 : Nat} {A7 : Option Addr} {q7 : Option Nat} {l7 : List α}, Ow E w5 b7 q7 A7 c7 l7 -> E.t ≠ 80 -> Ow E w6 b7 q7 A7 c7 l7 := fun h7 ht => h7.keep hc (fun k hk => by
   rw [hk] at h7
   obtain ⟨cur, hb⟩ := h7.blk
   exact ng hb ht)
 have O6 := Ad (owg O5.out (by decide))
 have P6 := Ad (owg P5.out (by decide))
 have R6 := Ad (owg R5.out (by decide))
 have D6 := Ad (D5.out.keep hc (ng D5.out (by decide)))
 have C6 := Ad (show Ch (g :: (q1.toList ++ q2.toList)) w w6 from (C5.out.sub (fun x hx => by simp at hx ⊢; exact .inr (.inl hx))).then (hc.sub (fun x hx => by simp at hx ⊢; exact .inl hx)))
 clear hd hc ng owg G5 D5 P5 R5 O5
 have z2 : w6.cell? ⟨g, 2, none⟩ = some (.slice A2 m2 c2) := G6.out.cell rfl
 have lg6 := G6.out.lt
 have d0 : w6.cell? ⟨w.heap.size, 0, none⟩ = some (.int .i64 at_.bytes) := D6.out.cell rfl
 have d1 : w6.cell? ⟨w.heap.size, 1, none⟩ = some (.int .i64 at_.ticks) := D6.out.cell rfl
 have ld := D6.out.lt
 have CA := Ad (((Ch.refl [] w6).alloc (.cells #[Value.int .i64 at_.bytes, .int .i64 at_.ticks] 87)).drew)
 have YW := Ad ((Ow.lit Endv w6 [at_] #[Value.int .i64 at_.bytes, .int .i64 at_.ticks] (by rfl) (by decide : 1 <= maxLen)).rd.drew)
 have OW := Ad (P6.out.on CA.out)
 have BW := Ad (Nat.le_trans hbw (Nat.le_trans C6.out.size CA.out.size))
 go_wp2_with fail
 go_region_law ((first
   | (refine step_append_Ow (by rfl) (.tmp 20) (.tmp 22) 78 (by rfl) (by rfl) (some ⟨w6.heap.size, 0, none⟩) 1 1 [at_] (by rfl) (by rfl) E2.out OW.out YW.out rfl (by show (m2 + 1) * 16 <= _; omega) BW.out ?_
      intro A8 c8 q8 W8 hO8 hC8 hq8
      have Z8 := Ad ((G6.out.on CA.out).keep hC8 (fun hm => by rw [Option.mem_toList] at hm; exact OW.out.ne (G6.out.on CA.out) (by decide) hm))
      have x8 : W8.cell? ⟨g, 2, none⟩ = some (.slice A2 m2 c2) := Z8.out.cell rfl
      have f8 := Z8.out.free 2
      have O8 := Ad hO8
      have C8 := Ad (CA.out.any.then hC8)
      have Q8 := Ad hq8
      clear hO8 hC8 hq8)
   | fail))
 all_goals
   go_end0
   have hs := (Ch.refl [g] W8).set ⟨g, 2, none⟩ (.slice A8 (m2 + 1) c8) (.inl (by simp))
   have nk : ∀ {α : Type} {E : El α} {b7 c7 : Nat} {A7 : Option Addr} {q7 : Option Nat} {l7 : List α}, Ow E w6 b7 q7 A7 c7 l7 -> E.t ≠ 80 -> E.t ≠ 87 -> Ow E (W8.setCell ⟨g, 2, none⟩ (.slice A8 (m2 + 1) c8)) b7 q7 A7 c7 l7 := fun h7 ht ht2 => (h7.keep C8.out (fun k hk hm => by
     rw [Option.mem_toList] at hm
     rw [hk] at h7
     obtain ⟨cur, hb⟩ := h7.blk
     exact P6.out.ne hb (fun e => ht2 e.symm) hm)).keep hs (fun k hk hm => by
       rw [List.mem_singleton.1 hm] at hk
       exact h7.ne G6.out ht hk)
   have hw4 : w.heap.size <= w4.heap.size := C4.out.size
   have o5 := (nk O6.out (by decide) (by decide))
   refine ⟨⟨_, rfl⟩, q5, q8, ⟨⟨A5, c5, m5, A8, c8, m2 + 1, A3, c3, m3, Z8.out.set 2 _, ⟨E5.out, o5.less (by omega)⟩, ⟨by rw [List.length_append, E2.out]; rfl, O8.out.keep hs (fun k hk hm => ?_)⟩, ⟨E3.out, nk R6.out (by decide) (by decide)⟩⟩, OWN.out, fun k hk h3 => ?_⟩, ?_, fun k hk => ?_, ?_, ?_⟩
   · rw [List.mem_singleton.1 hm] at hk
     exact O8.out.ne Z8.out (by decide) hk
   · have h1 := (O6.out.size k hk).1
     have h2 := Q3.out k h3
     omega
   · exact (C6.out.then (C8.out.sub (fun x hx => by simp at hx ⊢; exact .inr (.inr hx)))).then (hs.sub (fun x hx => by simp at hx ⊢; exact .inl hx))
   · have h1 := (O6.out.size k hk).1
     omega
   · rcases Q8.out with e | e
     · exact .inl e
     · refine .inr (fun k hk => ?_)
       rw [e] at hk
       cases hk
       exact Nat.le_trans C6.out.size CA.out.size
   · rw [(G.out.cell (j := 3) rfl : w.cell? ⟨g, 3, none⟩ = some (.slice A3 m3 c3))]
     exact (Z8.out.set 2 _).cell (j := 3) rfl
end Lo
end
namespace Lo
theorem runs_calls (b g pf : Nat) (q1 q2 q3 : Option Nat) (wr wt : List Run) (es : List End) (hl : wr.length <= 1000000) (w : World) (h : LogAt w b g pf q1 q2 q3 wr es wt) :
   Calls Tryz.prog 10 #[.pointer (some ⟨g, 0, none⟩)] w fun e w' => ∃ A c q m, e = .returned (.tuple #[.slice A m c, .int .i64 0]) /\ (wr.length = m /\ Ow Rv w' w.heap.size q A c wr) /\ Ch [] w w' := by
 obtain ⟨A1, c1, m1, A2, c2, m2, A3, c3, m3, hg, ⟨e1, h1⟩, -, -⟩ := h.ex
 have y1 : w.cell? ⟨g, 1, none⟩ = some (.slice A1 m1 c1) := hg.cell rfl
 have lg := hg.lt
 have CL := Ad (clone_run A1 c1 m1 wr e1 (by omega) w h1.rd)
 have E1 := Ad e1
 clear h hg e1 h1 hl
 go_enter Tryz.func10, Tryz.ntmps10
 go_wp2_with fail
 refine CL.out.mono ?_
 rintro e w2 ⟨A, c, q, rfl, hO, hC⟩
 have O := Ad hO
 clear hO
 go_wp2
 go_ret2
 exact ⟨A, c, q, m1, rfl, ⟨E1.out, O.out⟩, hC⟩
set_option maxRecDepth 100000 in
theorem append_calls (b g pf : Nat) (q1 q2 q3 : Option Nat) (wr wt : List Run) (es : List End) (X : Option Addr) (cx mx : Nat) (rs : List Run) (hmx : rs.length = mx) (h0 : 0 < mx) (hr : ∀ r ∈ rs, Pl.rgt r) (hwt : ∀ r ∈ wt, Pl.rgt r)
   (he : 0 <= (lastE es).ticks) (ht : (lastE es).ticks + Pl.tot wt + Pl.tot rs <= 1000000) (hl : wt.length + mx <= 4096) (w : World) (h : LogAt w b g pf q1 q2 q3 wr es wt) (hX : Rd Rv w X cx rs) :
   Calls Tryz.prog 47 #[.pointer (some ⟨g, 0, none⟩), .slice X mx cx] w fun e w' => e = .returned (.int .i64 0) /\ ∃ q3', LogAt w' b g pf q1 q2 q3' wr es (Pl.jn (wt ++ rs)) /\ Ch [g] w w' /\ (∀ k, q3' = some k -> w.heap.size <= k) := by
 obtain ⟨A1, c1, m1, A2, c2, m2, A3, c3, m3, hg, ⟨e1, hO1⟩, ⟨e2, hO2⟩, ⟨e3, hO3⟩⟩ := h.ex
 have nn : ∀ l : List Run, (∀ r ∈ l, Pl.rgt r) -> 0 <= Pl.tot l := fun l hl => by have := Pl.ex_len l (fun x hx => by have := (hl x hx).1; omega); omega
 have t1 := nn _ hr
 have t2 := nn _ hwt
 have TC := Ad (fun (W : World) (hc : Ch [] w W) => ticks_calls X cx mx rs hmx hr (by omega) W (hX.on hc))
 have LT := Ad (fun (W : World) (hc : Ch [] w W) => lticks_calls b g pf q1 q2 q3 wr wt es hwt (by omega) t2 (by omega) W (h.on hc))
 have CAT := Ad (show cat [(⟨A3, c3, wt⟩ : Sl Run), ⟨X, cx, rs⟩] = wt ++ rs from by simp [cat])
 have SLL := Ad (fun (W : World) (G o : Nat) (hc : Ch [] w W) (ha : W.cell? ⟨G, o, none⟩ = some (.slice A3 m3 c3)) (hb : W.cell? ⟨G, o + 1, none⟩ = some (.slice X mx cx)) => (show Sls Rv W (some ⟨G, o, none⟩) [(⟨A3, c3, wt⟩ : Sl Run), ⟨X, cx, rs⟩] from ⟨fun i x hx => by
   rcases i with _ | _ | i
   · simp at hx; subst hx
     exact ⟨G, o, rfl, by rw [e3]; exact ha, hO3.rd.on hc⟩
   · simp at hx; subst hx
     exact ⟨G, o, rfl, by rw [hmx]; exact hb, hX.on hc⟩
   · simp at hx⟩))
 have J1 : ∀ r ∈ wt ++ rs, 1 <= r.n := fun r hr' => (List.mem_append.1 hr').elim (fun h => (hwt r h).1) (fun h => (hr r h).1)
 have JH := Ad (And.intro J1 (show Pl.tot (wt ++ rs) <= 1000000 by rw [Pl.tot_app]; omega))
 have JF := Ad (Pl.jn_facts _ J1).2.2
 have y3 : w.cell? ⟨g, 3, none⟩ = some (.slice A3 m3 c3) := hg.cell rfl
 have lg := hg.lt
 have hbw : b <= w.heap.size := by have := h.own; omega
 have G := Ad hg
 have O1 := Ad hO1
 have O2 := Ad hO2
 have E1 := Ad e1
 have E2 := Ad e2
 have E3 := Ad e3
 have MX := Ad hmx
 have OWN := Ad h.own
 have hm3 : m3 + mx <= 4096 := by omega
 have tw : (lastE es).ticks + Pl.tot wt + Pl.tot rs <= 1073741824 := by omega
 have tw0 : 0 <= (lastE es).ticks + Pl.tot wt := by omega
 clear hg hO1 hO2 hO3 e1 e2 e3 h hX hmx nn hr hwt ht hl t2 J1 he
 generalize (lastE es).ticks + Pl.tot wt = tt at *
 generalize Pl.tot rs = tr at *
 go_enter Tryz.func47, Tryz.ntmps47
 go_wp2_with fail
 refine (TC.out _ (Ch.refl _ _)).mono ?_
 rintro e w2 ⟨rfl, hC⟩
 have C2 := Ad hC
 have y3 := hC.cell y3 (by simp)
 have lg2 := Nat.lt_of_lt_of_le lg hC.size
 clear hC TC
 go_wp2_with fail
 have CA := Ad ((Ch.refl [] w2).alloc (.cells #[.slice A3 m3 c3, .slice X mx cx] 39))
 have DA := Ad (Cs.new w2 [Value.slice A3 m3 c3, .slice X mx cx] 39)
 have LN := Ad (show (wt ++ rs).length = m3 + mx from by rw [List.length_append, E3.out, MX.out])
 refine (concat_run (some ⟨w2.heap.size, 0, none⟩) 2 2 [(⟨A3, c3, wt⟩ : Sl Run), ⟨X, cx, rs⟩] rfl (by rw [CAT.out, LN.out]; omega) (by rw [CAT.out, LN.out]; show (m3 + mx) * 24 <= _; omega) (by omega) _ (SLL.out _ _ 0 (C2.out.then CA.out) (DA.out.cell rfl) (DA.out.cell rfl))).mono ?_
 rintro e w3 ⟨A5, c5, q5, n5, rfl, hn5, hO5, hC5⟩
 rw [CAT.out] at hn5 hO5
 have O5 := Ad hO5
 have N5 := Ad hn5
 have C3 := Ad ((C2.out.then CA.out).then hC5)
 clear hO5 hC5 CAT SLL DA CA hn5 y3 lg2
 go_wp2_with fail
 refine (tjoin_calls A5 c5 n5 (wt ++ rs) N5.out.symm (by rw [N5.out, LN.out]; omega) JH.out.1 JH.out.2 w3 O5.out.rd).mono ?_
 rintro e w4 ⟨A6, c6, q6, m6, rfl, ⟨hm6, hO6⟩, hC6⟩
 have O6 := Ad hO6
 have M6 := Ad hm6
 have C4 := Ad (C3.out.then hC6)
 have hm6' : ¬ (4096 : Int) < (m6 : Int) := by
   have h1 := JF.out
   rw [LN.out, hm6] at h1
   omega
 clear hO6 hC6 hm6
 go_wp2_with fail
 refine (LT.out _ C4.out).mono ?_
 rintro e w5 ⟨rfl, hC7⟩
 have C5 := Ad (C4.out.then hC7)
 have O7 := Ad (O6.out.on hC7)
 have G5 := Ad (G.out.on C5.out)
 have lg5 := G5.out.lt
 have tww : IntKind.i64.wrap (tt + tr) = tt + tr := IntWalk.i64_in _ (by omega)
 have tgt : ¬ (1073741824 : Int) < tt + tr := by omega
 clear hC7 LT
 go_wp2_with (refine wpList_put_Cs rfl 39 (.tmp 39) (.tmp 37) rfl 3 (.slice A6 m6 c6) (by rfl) (by rfl) size39 rfl G5.out (show 3 < 4 by decide) ?_)
 intro w6 hd hc
 go_wp2
 go_ret
 have h1 := C3.out.size
 have fr : ∀ k, q6 = some k -> w.heap.size <= k := fun k hk => by have := (O6.out.size k hk).1; omega
 have owg : ∀ {α : Type} {E : El α} {b7 c7 : Nat} {A7 : Option Addr} {q7 : Option Nat} {l7 : List α}, Ow E w5 b7 q7 A7 c7 l7 -> E.t ≠ 80 -> Ow E w6 b7 q7 A7 c7 l7 := fun h7 ht => h7.keep hc (fun k hk hm => by
   rw [List.mem_singleton.1 hm] at hk
   exact h7.ne G5.out ht hk)
 refine ⟨rfl, q6, ⟨⟨A1, c1, m1, A2, c2, m2, A6, c6, m6, hd, ⟨E1.out, owg (O1.out.on C5.out) (by decide)⟩, ⟨E2.out, owg (O2.out.on C5.out) (by decide)⟩, ⟨M6.out, (owg O7.out (by decide)).less (by omega)⟩⟩, OWN.out, fun k hk h3 => ?_⟩, C5.out.any.then hc, fr⟩
 have h4 := (O1.out.size k hk).2
 have h5 := fr k h3
 omega
end Lo
namespace Lo
set_option maxRecDepth 100000 in
theorem flush_calls (b g pf : Nat) (q1 q2 q3 : Option Nat) (wr wt : List Run) (es : List End) (qf : Option Nat) (Af : Option Addr) (cf nf : Nat) (bs : List Int) (sf : Nat) (most : Int) (f k : Nat) (tb : Int) (hk : (Bl.bytes f wt).length = k) (hf : (lastE es).ticks = f) (htb : (lastE es).bytes = tb) (htb0 : 0 <= tb /\ tb <= 1000000000)
   (hok : Bl.Ok f wt) (hfit : (nf : Int) + k <= most) (hl : wr.length + wt.length <= 100000) (hle : es.length <= 100000) (h1 : ∀ r ∈ wr ++ wt, 1 <= r.n) (ht : Pl.tot (wr ++ wt) <= 1000000) (w : World) (h : LogAt w b g pf q1 q2 q3 wr es wt) (hF : FileAt w b pf qf Af cf nf bs sf most) :
   Calls Tryz.prog 48 #[.pointer (some ⟨g, 0, none⟩)] w fun e w' => e = .returned (.int .i64 0) /\ ∃ q1' q2' qf' Af' cf', LogAt w' b g pf q1' q2' none (Pl.jn (wr ++ wt)) (es ++ [⟨tb + k, f + Pl.tot wt⟩]) [] /\ FileAt w' b pf qf' Af' cf' (nf + k) (bs ++ Bl.bytes f wt) (nf + k) most /\ Ch (lfp g q1 q2 none ++ ffp pf qf) w w' /\ ∀ j ∈ lfp g q1' q2' none ++ ffp pf qf', j ∈ lfp g q1 q2 none ++ ffp pf qf ∨ w.heap.size <= j := by
 obtain ⟨A1, c1, m1, A2, c2, m2, A3, c3, m3, hg, ⟨e1, hO1⟩, ⟨e2, hO2⟩, ⟨e3, hO3⟩⟩ := h.ex
 have t0 : 0 <= Pl.tot wt := by have := Pl.ex_len wt (fun x hx => by have := (hok.rgt x hx).1; omega); omega
 have tends := hok.ends
 have hm3 : ((m3 : Int) == 0) = false := by
   rw [beq_eq_false_iff_ne]
   have := List.length_pos_iff.2 hok.ne
   omega
 have LC := Ad (fun (W : World) (hc : Ch [] w W) => last_calls b g pf q1 q2 q3 wr wt es W (h.on hc))
 have PC := Ad (fun (W : World) (hc : Ch [] w W) => Bl.put_calls f A3 c3 m3 wt e3 hok W (hO3.rd.on hc))
 have WC := Ad (fun (W : World) (hL : LogAt W b g pf q1 q2 q3 wr es wt) => waiting_calls b g pf q1 q2 q3 wr wt es hok.rgt (by omega) W hL)
 have WR := Ad (fun (W : World) (hL : LogAt W b g pf q1 q2 q3 wr es wt) (hX : Rd Rv W A3 c3 wt) => write_calls b g pf q1 q2 q3 wr wt es A3 c3 m3 wt e3 ⟨tb + k, f + Pl.tot wt⟩ (by omega) hle h1 ht W hL hX)
 have y3 : w.cell? ⟨g, 3, none⟩ = some (.slice A3 m3 c3) := hg.cell rfl
 have lg := hg.lt
 have H := Ad h
 have F := Ad hF
 have HK := Ad hk
 have hr := hF.rng
 have hk9 : (k : Int) <= 67108864 := by omega
 rw [hf, htb] at LC
 clear hok h hF hk hf htb hl hle h1 ht hO1 hO2 e1 e2
 generalize Pl.tot wt = tt at *
 go_enter Tryz.func48, Tryz.ntmps48
 go_wp2_with fail
 refine (LC.out _ (Ch.refl _ _)).mono ?_
 rintro e w2 ⟨rfl, hC⟩
 have C2 := Ad hC
 have DN := Ad (Cs.new w2 [Value.int .i64 0, .int .i64 0] 87)
 have CN := Ad ((Ch.refl [] w2).alloc (.cells [Value.int .i64 0, .int .i64 0].toArray 87))
 clear hC LC
 go_wp2_with (refine wpList_store_all rfl 87 (.tmp 3) (.tmp 21) rfl [Value.int .i64 tb, .int .i64 f] (by rfl) (by rfl) DN.out rfl size87 (by simp [Value.oneCell']) ?_)
 intro w3 h3 c3'
 have C3 := Ad (show Ch [] w w3 from C2.out.then (CN.out.trans c3' (by simp)))
 have D3 := Ad h3
 have H3 := Ad (H.out.on C3.out)
 have F3 := Ad (F.out.on C3.out)
 have z3 := C3.out.cell y3 (by simp)
 have d0 : w3.cell? ⟨w2.heap.size, 0, none⟩ = some (.int .i64 tb) := h3.cell rfl
 have d1 : w3.cell? ⟨w2.heap.size, 1, none⟩ = some (.int .i64 f) := h3.cell rfl
 have ld := h3.lt
 have lg3 := Nat.lt_of_lt_of_le lg C3.out.size
 obtain ⟨g3, hg3⟩ : ∃ g3, w2.heap.size = g3 := ⟨_, rfl⟩
 have G3 := Ad (show w.heap.size <= g3 from by rw [<- hg3]; exact C2.out.size)
 rw [hg3] at D3 d0 d1 ld ⊢
 have SK := Ad (fun (W' : World) (hc : Ch [] w3 W') => (⟨hc.cell z3 (by simp), hc.cell d1 (by simp), ⟨hc⟩⟩ : W'.cell? ⟨g, 3, none⟩ = some (.slice A3 m3 c3) /\ W'.cell? ⟨g3, 1, none⟩ = some (.int .i64 f) /\ Aside0 (Ch [] w3 W')))
 clear h3 c3' CN DN hg3 C2
 go_wp2_with fail
 go_region_held3 (fun W' => W'.cell? ⟨g, 3, none⟩ = some (.slice A3 m3 c3) /\ W'.cell? ⟨g3, 1, none⟩ = some (.int .i64 f) /\ Aside0 (Ch [] w3 W'))
   (exact SK.out _ (by repeat (first | exact CQ.out | exact (Ch.refl _ _).drew)))
   ((first
     | (go_at_call 69
        have CP := Ad (show Ch [] w3 _ from (by repeat (first | exact CQ.out | exact (Ch.refl _ _).drew)))
        refine (PC.out _ (C3.out.then CP.out)).mono ?_
        rintro e w4 ⟨A4, c4, q4, k4, rfl, ⟨hk4, hO4⟩, hC4⟩
        have CQ := Ad (CP.out.then hC4)
        have O4 := Ad hO4
        have K4 := Ad hk4
        clear hO4 hC4 hk4)
     | fail))
 have C4 := Ad (C3.out.then CQ.out)
 have H4 := Ad (H3.out.on CQ.out)
 have F4 := Ad (F3.out.on CQ.out)
 have D4 := Ad (D3.out.on CQ.out)
 obtain rfl : k4 = k := by rw [<- K4.out, HK.out]
 have x0 : w4.cell? ⟨g, 0, none⟩ = some (.pointer (some ⟨pf, 0, none⟩)) := (hg.on C4.out).cell rfl
 have lg4 := Nat.lt_of_lt_of_le lg C4.out.size
 clear SK CP d0 d1 ld z3 H3 F3 D3 PC
 go_wp2_with fail
 refine (Fl.append_calls b pf qf Af cf nf bs sf most A4 c4 k4 (Bl.bytes f wt) w4 F4.out O4.out.rd HK.out hfit).mono ?_
 rintro e w5 ⟨rfl, Af5, cf5, qf5, hF5, hC5, hqf5⟩
 have LF := Ad (show ∀ j, j ∈ lfp g q1 q2 q3 -> j ∉ ffp pf qf from fun j hj => by
   obtain ⟨-, cur, T, hb, hT⟩ := H4.out.kinds j hj
   exact F4.out.noT hb (by rcases hT with e | e | e <;> subst e <;> decide))
 have H5 := Ad (H4.out.keep hC5 LF.out)
 have F5 := Ad hF5
 have D5 := Ad (D4.out.keep hC5 (F4.out.noT D4.out (by decide)))
 have C5 := Ad hC5
 have G5 := Ad ((hg.on C4.out).keep hC5 (LF.out g (by simp [lfp])))
 have R5 := Ad (show Rd Rv w5 A3 c3 wt from ((hO3.on C4.out).keep hC5 (fun j hj => LF.out j (by simp [lfp, hj]))).rd)
 have z3 : w5.cell? ⟨g, 3, none⟩ = some (.slice A3 m3 c3) := G5.out.cell rfl
 have d0 : w5.cell? ⟨g3, 0, none⟩ = some (.int .i64 tb) := D5.out.cell rfl
 have d1 : w5.cell? ⟨g3, 1, none⟩ = some (.int .i64 f) := D5.out.cell rfl
 have ld := D5.out.lt
 have lg5 := G5.out.lt
 have S5 := Ad hC5.size
 have QF := Ad hqf5
 have SZ := Ad (show ∀ j, j ∈ lfp g q1 q2 q3 -> j < w.heap.size from fun j hj => by
   obtain ⟨-, cur, T, hb, -⟩ := H.out.kinds j hj
   exact blk_lt hb)
 have w1 : IntKind.i64.wrap (tb + (k4 : Int)) = tb + k4 := IntWalk.i64_in _ (by omega)
 have w2' : IntKind.i64.wrap ((f : Int) + tt) = f + tt := IntWalk.i64_in _ (by omega)
 have WC2 := Ad (fun (W : World) (hc : Ch [] w5 W) => WC.out W (H5.out.on hc))
 have WR2 := Ad (fun (W : World) (hc : Ch [] w5 W) => WR.out W (H5.out.on hc) (R5.out.on hc))
 have SK := Ad (fun (W' : World) (hc : Ch [] w5 W') => (⟨hc.cell z3 (by simp), hc.cell d0 (by simp), hc.cell d1 (by simp)⟩ : W'.cell? ⟨g, 3, none⟩ = some (.slice A3 m3 c3) /\ W'.cell? ⟨g3, 0, none⟩ = some (.int .i64 tb) /\ W'.cell? ⟨g3, 1, none⟩ = some (.int .i64 f)))
 clear hF5 hC5 hqf5 H4 F4 D4 WC WR x0 lg4 R5
 go_wp2_with fail
 go_region_held3 (fun W' => W'.cell? ⟨g, 3, none⟩ = some (.slice A3 m3 c3) /\ W'.cell? ⟨g3, 0, none⟩ = some (.int .i64 tb) /\ W'.cell? ⟨g3, 1, none⟩ = some (.int .i64 f))
   (first | assumption | exact SK.out _ (by first | exact CQ2.out | exact (Ch.refl _ _).drew))
   ((first
     | (go_at_call 45
        have CP := Ad (show Ch [] w5 _ from (by first | exact CQ2.out | exact (Ch.refl _ _).drew))
        refine (WC2.out _ CP.out).mono ?_
        rintro e w6 ⟨rfl, hC6⟩
        have CQ2 := Ad (CP.out.then hC6)
        clear hC6)
     | (go_at_call 26
        refine (WR2.out _ CQ2.out).mono ?_
        rintro e w7 ⟨⟨v7, rfl⟩, q17, q27, hL7, hC7, hf1, hf2, h37⟩
        have hS : (fun W' : World => W'.cell? ⟨g, 3, none⟩ = some (.slice A3 m3 c3) /\ W'.cell? ⟨g3, 0, none⟩ = some (.int .i64 tb) /\ W'.cell? ⟨g3, 1, none⟩ = some (.int .i64 f)) w7 := by
          have n3 : g3 ∉ g :: (q1.toList ++ q2.toList) := fun hm => by
            have h9 := SZ.out g3 (by simp [lfp] at hm ⊢; rcases hm with e | e | e <;> simp [e])
            have h8 := G3.out
            omega
          exact ⟨h37.trans (CQ2.out.cell z3 (by simp)), hC7.cell (CQ2.out.cell d0 (by simp)) n3, hC7.cell (CQ2.out.cell d1 (by simp)) n3⟩
        have L7 := Ad hL7
        have C7 := Ad hC7
        have F71 := Ad hf1
        have F72 := Ad hf2
        clear hL7 hC7 hf1 hf2 h37)
     | fail))
 have L6 := H5.out.on CQ2.out
 have F6 := F5.out.on CQ2.out
 have sub3 : ∀ j, j ∈ g :: (q1.toList ++ q2.toList) -> j ∈ lfp g q1 q2 q3 := fun j hj => by
   simp [lfp] at hj ⊢
   rcases hj with e | e | e <;> simp [e]
 have F7 := Ad (F6.keep C7.out (fun hm => L6.noT F6.blk (by decide) (sub3 _ hm)) (fun j hj hm => by
   have h9 := F6.row
   rw [hj] at h9
   obtain ⟨cur, hb⟩ := h9.blk
   exact L6.noT hb (by decide) (sub3 _ hm)))
 obtain ⟨A17, c17, m17, A27, c27, m27, A37, c37, m37, hg7, ⟨e17, hO17⟩, ⟨e27, hO27⟩, -⟩ := L7.out.ex
 have G7 := Ad hg7
 have lg7 := hg7.lt
 have f7 := hg7.free 3
 have P1 := Ad (And.intro e17 hO17)
 have P2 := Ad (And.intro e27 hO27)
 have OWN := Ad H.out.own
 clear hg7 e17 hO17 e27 hO27 L6 F6 sub3 z3 d0 d1 ld lg5 hS
 go_wp2_with (refine wpList_put_Cs rfl 39 (.tmp 64) _ rfl 3 (.slice none 0 0) (by rfl) (by rfl) size39 rfl G7.out (show 3 < 4 by decide) ?_)
 intro w8 hd8 hc8
 have G8 := Ad (show Cs w8 g 80 [.pointer (some ⟨pf, 0, none⟩), .slice A17 m17 c17, .slice A27 m27 c27, .slice none 0 0] from hd8)
 have owg : ∀ {α : Type} {E : El α} {b7 c7 : Nat} {A7 : Option Addr} {q7 : Option Nat} {l7 : List α}, Ow E w7 b7 q7 A7 c7 l7 -> E.t ≠ 80 -> Ow E w8 b7 q7 A7 c7 l7 := fun h7 ht => h7.keep hc8 (fun j hj hm => by
   rw [List.mem_singleton.1 hm] at hj
   exact h7.ne G7.out ht hj)
 have P18 := Ad (And.intro P1.out.1 (owg P1.out.2 (by decide)))
 have P28 := Ad (And.intro P2.out.1 (owg P2.out.2 (by decide)))
 have F8 := Ad (F7.out.keep hc8 (fun hm => by
   have h9 := F7.out.blk
   rw [List.mem_singleton.1 hm] at h9
   exact absurd rfl (h9.ne G7.out (by decide))) (fun j hj hm => by
   rw [List.mem_singleton.1 hm] at hj
   exact F7.out.row.ne G7.out (by decide) hj))
 have C8 := Ad hc8
 have x0 : w8.cell? ⟨g, 0, none⟩ = some (.pointer (some ⟨pf, 0, none⟩)) := G8.out.cell rfl
 have lg8 := G8.out.lt
 clear hd8 hc8 owg lg7 f7
 go_wp2_with fail
 refine (Fl.flush_calls b pf qf5 Af5 cf5 (nf + k4) (bs ++ Bl.bytes f wt) sf most w8 F8.out).mono ?_
 rintro e w9 ⟨rfl, hF9, hC9⟩
 have F9 := Ad hF9
 have C9 := Ad hC9
 clear hF9 hC9 x0 lg8
 go_wp2
 go_ret
 have npf : ∀ {k : Nat} {cur : Array Value} {T : TypeId}, w8.heap[k]? = some (.cells cur T (0, 0)) -> T ≠ 68 -> k ∉ [pf] := fun hk hT hm => by
   rw [List.mem_singleton.1 hm, show w8.heap[pf]? = _ from F8.out.blk] at hk
   cases hk
   exact hT rfl
 have owf : ∀ {α : Type} {E : El α} {b7 c7 : Nat} {A7 : Option Addr} {q7 : Option Nat} {l7 : List α}, Ow E w8 b7 q7 A7 c7 l7 -> E.t ≠ 68 -> Ow E w9 b7 q7 A7 c7 l7 := fun h7 ht => h7.keep C9.out (fun j hj => by
   rw [hj] at h7
   obtain ⟨cur, hb⟩ := h7.blk
   exact npf hb ht)
 refine ⟨rfl, q17, q27, qf5, Af5, cf5, ⟨⟨A17, c17, m17, A27, c27, m27, none, 0, 0, G8.out.keep C9.out (npf G8.out (by decide)), ⟨P18.out.1, owf P18.out.2 (by decide)⟩, ⟨P28.out.1, owf P28.out.2 (by decide)⟩, ⟨rfl, Ow.nil Rv _ _⟩⟩, OWN.out, fun j hj => by simp⟩, F9.out, ?_, fun j hj => ?_⟩
 rotate_left
 · have z4 := C4.out.size
   have z5 := S5.out
   have z6 := CQ2.out.size
   simp [lfp, ffp] at hj ⊢
   rcases hj with h | h | h | h | h
   · exact .inl (.inl h)
   · exact .inr (by have := F71.out j h; omega)
   · rcases F72.out with h2 | h2
     · exact .inl (.inr (.inr (.inl (by rw [<- h2]; exact h))))
     · exact .inr (by have := h2 j h; omega)
   · exact .inl (.inr (.inr (.inr (.inl h))))
   · rcases QF.out with h2 | h2
     · exact .inl (.inr (.inr (.inr (.inr (by rw [<- h2]; exact h)))))
     · rw [h2] at h
       cases h
       exact .inr z4
 have s1 : Ch (lfp g q1 q2 none ++ ffp pf qf) w w5 := C4.out.any.then (C5.out.sub (fun x hx => by simp [hx]))
 have s2 : Ch (lfp g q1 q2 none ++ ffp pf qf) w w7 := (s1.then CQ2.out.any).then (C7.out.sub (fun x hx => by simp [lfp] at hx ⊢; rcases hx with e | e | e <;> simp [e]))
 exact (s2.then (C8.out.sub (fun x hx => by simp [lfp] at hx ⊢; simp [hx]))).then (C9.out.sub (fun x hx => by simp [ffp] at hx ⊢; simp [hx]))
end Lo
section
open Go.RowKit Go.Shelf Go.Proofs.YtjoehjclaonneaaGreatW.PrintWords
attribute [local go_sem] Oper.semAt_some
namespace Lo
def sumT : List (List Run) -> Nat
 | [] => 0
 | l :: B => (Pl.tot l).toNat + sumT B
def bks : Nat -> List (List Run) -> List Int
 | _, [] => []
 | f, l :: B => Bl.bytes f l ++ bks (f + (Pl.tot l).toNat) B
theorem sumT_app : ∀ B C : List (List Run), sumT (B ++ C) = sumT B + sumT C
 | [], C => by simp [sumT]
 | l :: B, C => by simp only [List.cons_append, sumT, sumT_app B C]; omega
theorem bks_app : ∀ (B C : List (List Run)) (f : Nat), bks f (B ++ C) = bks f B ++ bks (f + sumT B) C
 | [], C, f => by simp [bks, sumT]
 | l :: B, C, f => by simp only [List.cons_append, bks, sumT, bks_app B C, List.append_assoc, Nat.add_assoc]
def offT (B : List (List Run)) (k : Nat) : Nat := sumT (B.take k)
def offB (B : List (List Run)) (k : Nat) : Nat := (bks 0 (B.take k)).length
theorem bytes_rng (f : Nat) (l : List Run) : ∀ x ∈ Bl.bytes f l, 0 <= x /\ x < 256 :=
 Sm.Pl.sealed_byte (fun x hx => (List.mem_append.1 hx).elim (Vr.put_rng _ x) (Vr.Pl.row_rng _ x))
theorem bks_rng : ∀ (B : List (List Run)) (f : Nat), ∀ x ∈ bks f B, 0 <= x /\ x < 256
 | [], _, x, hx => by simp [bks] at hx
 | l :: B, f, x, hx => by
   rw [bks] at hx
   rcases List.mem_append.1 hx with h | h
   · exact bytes_rng f l x h
   · exact bks_rng B _ x h
section
variable {B : List (List Run)} {k : Nat} {l : List Run}
theorem take_succ (h : B[k]? = some l) : B.take (k + 1) = B.take k ++ [l] := by rw [List.take_add_one, h]; rfl
theorem offT_succ (h : B[k]? = some l) : offT B (k + 1) = offT B k + (Pl.tot l).toNat := by
 unfold offT
 rw [take_succ h, sumT_app]
 simp [sumT]
theorem offB_succ (h : B[k]? = some l) : offB B (k + 1) = offB B k + (Bl.bytes (offT B k) l).length := by
 unfold offB
 rw [take_succ h, bks_app, List.length_append]
 simp [bks, offT]
theorem bks_drop (h : B[k]? = some l) : (bks 0 B).drop (offB B k) = Bl.bytes (offT B k) l ++ bks (offT B (k + 1)) (B.drop (k + 1)) := by
 have hk := (List.getElem?_eq_some_iff.1 h).1
 have e : B = B.take k ++ (l :: B.drop (k + 1)) := by
   have h1 := List.take_append_drop k B
   rw [List.drop_eq_getElem_cons hk, (List.getElem?_eq_some_iff.1 h).2] at h1
   exact h1.symm
 have e2 : bks 0 B = bks 0 (B.take k) ++ (Bl.bytes (offT B k) l ++ bks (offT B (k + 1)) (B.drop (k + 1))) := by
   conv => lhs; rw [e]
   rw [bks_app, bks, offT_succ h, Nat.zero_add]
   rfl
 unfold offB
 rw [e2, List.drop_left]
theorem offB_le (h : B[k]? = some l) : offB B k + (Bl.bytes (offT B k) l).length <= (bks 0 B).length := by
 have h1 := congrArg List.length (bks_drop h)
 rw [List.length_drop, List.length_append] at h1
 have h2 : (Bl.bytes (offT B k) l).length ≠ 0 := by rw [Bl.bytes_len]; omega
 omega
theorem offB_all : offB B B.length = (bks 0 B).length := by rw [offB, List.take_length]
end
structure OkB (B : List (List Run)) : Prop where
 ok : ∀ k l, B[k]? = some l -> Bl.Ok (offT B k) l /\ l.length <= 1000
 len : (bks 0 B).length <= 67108864
abbrev Item := Nat × Option Addr × Nat
def encB (B : List (List Run)) (x : Item) : Array Value := #[.agg #[.int .i64 (offT B x.1 : Nat), .slice x.2.1 (B.getD x.1 []).length x.2.2], .agg #[.int .i64 (offB B (x.1 + 1) : Nat), .int .i64 (offT B (x.1 + 1) : Nat)]]
def PxB (B : List (List Run)) (k : Nat) (x : Item) (W : World) : Prop := x.1 = k /\ Rd Rv W x.2.1 x.2.2 (B.getD k [])
structure BIt (J : Nat -> List Nat -> World -> Prop) (B : List (List Run)) (g3 Bn m c : Nat) (A : Option Addr) (k : Nat) (W : World) : Prop where
 j : ∃ F, J k F W /\ g3 ∉ F /\ Bn ∉ F /\ (∀ g o s, A = some ⟨g, o, s⟩ -> g ∉ F)
 at_ : Cs W g3 87 [.int .i64 (offB B k : Nat), .int .i64 (offT B k : Nat)]
 bn : Bx W Bn 64 (.slice A m c)
 rd : Rd By W A c (bks 0 B)
 lt : ∀ g o s, A = some ⟨g, o, s⟩ -> g < W.heap.size /\ g ≠ g3
set_option maxRecDepth 100000 in
theorem blocks_in (B : List (List Run)) (hB : OkB B) (A : Option Addr) (c m : Nat) (hm : (bks 0 B).length = m) (Bn : Nat) (F0 : List Nat) (w : World) (hBn : Bx w Bn 64 (.slice A m c)) (hR : Rd By w A c (bks 0 B)) (hF1 : Bn ∉ F0) (hF2 : ∀ g o s, A = some ⟨g, o, s⟩ -> g ∉ F0 /\ g < w.heap.size) (hF3 : ∀ j ∈ F0, j < w.heap.size) :
   SeqIn Tryz.prog 49 #[.pointer (some ⟨Bn, 0, none⟩)] (encB B) (PxB B) B.length F0 w := by
 intro r J F W hW hF hJ hY h0
 have hcap : m <= c := by have := hR.cap; omega
 have hm26 : m <= 67108864 := by rw [<- hm]; exact hB.len
 have ltF : ∀ j ∈ F, j < W.heap.size := fun j hj => by
   rcases hF j hj with h | h
   · have := hF3 j h; have := hW.size; omega
   · exact h.2
 have hb1 : Bn ∉ F := fun hm => by
   rcases hF _ hm with h | h
   · exact hF1 h
   · have := hBn.lt; omega
 have hb2 : ∀ g o s, A = some ⟨g, o, s⟩ -> g ∉ F := fun g o s e hm => by
   rcases hF _ hm with h | h
   · exact (hF2 g o s e).1 h
   · have := (hF2 g o s e).2; omega
 have hc0 := (Ch.refl [] W).alloc (.cells #[.int .i64 0, .int .i64 0] 87)
 have R0 := Ad (show BIt J B W.heap.size Bn m c A 0 (W.alloc (.cells #[.int .i64 0, .int .i64 0] 87)) from
   ⟨⟨F, hJ _ _ _ _ [] h0 hc0 (by simp), fun hm => by have := ltF _ hm; omega, hb1, hb2⟩, Cs.new W _ 87, (hBn.keep hW (by simp)).keep hc0 (by simp), (hR.on hW).on hc0, fun g o s e => by
     have := (hF2 g o s e).2
     have := hW.size
     have := hc0.size
     omega⟩)
 have HB := Ad hB
 have HM := Ad hm
 have HJ := Ad hJ
 have HY := Ad hY
 clear hm hB hBn hR hF1 hF2 hF3 hF hJ hY h0 ltF hb1 hb2 hc0 hW
 refine callsIn_of_wp Tryz.func49 rfl trivial ?_ rfl
 simp only [Tryz.ntmps49, List.size_toArray, List.length_cons, List.length_nil, Nat.reduceAdd, Nat.reduceSub, Array.replicate_succ, Array.replicate_zero, List.push_toArray, List.append_toArray, List.nil_append, List.cons_append]
 gi_wp2
 obtain ⟨g3, hg3⟩ : ∃ g3, W.heap.size = g3 := ⟨_, rfl⟩
 obtain ⟨W1, hW1⟩ : ∃ W1, W.alloc (.cells #[.int .i64 0, .int .i64 0] 87) = W1 := ⟨_, rfl⟩
 rw [hg3, hW1] at R0 ⊢
 have GS := Ad (show W.heap.size <= g3 from by omega)
 clear hg3 hW1
 gi_loopw [4] (fun _ wr => ∃ k : Nat, k <= B.length /\ Aside0 (BIt J B g3 Bn m c A k wr)) (fun _ wr => m + 1 - (intOf ((wr.cell? ⟨g3, 0, none⟩).getD (.int .i64 0))).toNat)
 case atStart => exact ⟨0, by omega, R0⟩
 case round =>
   obtain ⟨k, hk, HR⟩ := hrel
   have cX := HR.out.bn.cell
   have lX := HR.out.bn.lt
   have a0 : wr.cell? ⟨g3, 0, none⟩ = some (.int .i64 (offB B k : Nat)) := HR.out.at_.cell rfl
   have a1 : wr.cell? ⟨g3, 1, none⟩ = some (.int .i64 (offT B k : Nat)) := HR.out.at_.cell rfl
   have la := HR.out.at_.lt
   by_cases hlt : k < B.length
   · obtain ⟨l, hl⟩ : ∃ l, B[k]? = some l := ⟨_, List.getElem?_eq_getElem hlt⟩
     obtain ⟨ok1, ok2⟩ := HB.out.ok k l hl
     have t0 : 0 <= Pl.tot l := by have := Pl.ex_len l (fun x hx => by have := (ok1.rgt x hx).1; omega); omega
     have tends := ok1.ends
     obtain ⟨tt, htt⟩ : ∃ tt : Nat, Pl.tot l = tt := ⟨(Pl.tot l).toNat, by omega⟩
     have hT := offT_succ hl
     have hO := offB_succ hl
     have hle := offB_le hl
     have hdr := bks_drop hl
     rw [HM.out] at hle
     rw [htt] at hT tends
     rw [Int.toNat_natCast] at hT
     obtain ⟨f, hf⟩ : ∃ f, offT B k = f := ⟨_, rfl⟩
     obtain ⟨p, hp⟩ : ∃ p, offB B k = p := ⟨_, rfl⟩
     obtain ⟨nb, hnb⟩ : ∃ nb, (Bl.bytes f l).length = nb := ⟨_, rfl⟩
     rw [hf] at hT hO hdr ok1 tends
     rw [hf] at hle
     rw [hp] at hO hdr hle a0
     rw [hf] at a1
     rw [hnb] at hO hle
     have hp2 : p <= m := by omega
     obtain ⟨A2, cut1, kb, -⟩ := cut_drop By 64 rfl A c p m hp2 hcap
     have R2 := kb wr _ HM.out HR.out.rd
     rw [hdr] at R2
     obtain ⟨ml, hml⟩ : ∃ ml, l.length = ml := ⟨_, rfl⟩
     have GC := Ad ((callsIn_wide (n := 4)).2 (Bl.get_calls f A2 (c - p) ml (m - p) l _ hml (by omega) ok1 (bks_rng _ _) (by
       have h9 := congrArg List.length hdr
       rw [List.length_drop, HM.out] at h9
       exact h9.symm) wr R2))
     rw [hnb] at GC
     have TC := Ad (fun (X : World) (A5 : Option Addr) (c5 : Nat) (h : Rd Rv X A5 c5 l) => (callsIn_wide (n := 4)).2 (ticks_calls A5 c5 ml l hml ok1.rgt (by omega) X h))
     rw [htt] at TC
     have LG := Ad (show B.getD k [] = l from by rw [List.getD_eq_getElem?_getD, hl]; rfl)
     have PS := Ad (show offB B (k + 1) = p + nb /\ offT B (k + 1) = f + tt /\ offT B k = f /\ l.length = ml /\ offB B k = p from ⟨hO, hT, hf, hml, hp⟩)
     have hfb : (f : Int) + tt <= 1000000 := by omega
     have hpb : (p : Int) + nb <= 67108864 := by omega
     have p0 : (0 : Int) <= (p : Int) := by omega
     have p1 : (p : Int) <= (m : Int) := by omega
     have nb0 : 0 < nb := by
       have h9 : (Bl.bytes f l).length ≠ 0 := by rw [Bl.bytes_len]; omega
       omega
     clear hl ok1 ok2 t0 tends htt hT hO hle hdr hf hp hnb kb R2 hml hp2
     gi_wp2
     refine ⟨trivial, ?_⟩
     gi_at_call 50
     refine GC.out.mono ?_
     rintro ew w2 ⟨A5, c5, q5, rfl, hO5, hC5⟩
     have O5 := Ad hO5
     have C2 := Ad hC5
     have DN := Ad (Cs.new w2 [Value.int .i64 0, .slice none 0 0] 85)
     have CN := Ad ((Ch.refl [] w2).alloc (.cells [Value.int .i64 0, .slice none 0 0].toArray 85))
     clear hO5 hC5 GC a0 a1
     gi_wp2_with (refine wpListIn_store_all rfl 85 (.tmp 4) (.tmp 15) rfl [Value.int .i64 f, .slice A5 ml c5] (by rfl) (by rfl) DN.out rfl size85 (by simp [Value.oneCell']) ?_)
     intro w3 h3 c3
     have C3 := Ad (show Ch [] wr w3 from C2.out.then (CN.out.trans c3 (by simp)))
     have D3 := Ad h3
     have O3 := Ad (O5.out.on (CN.out.trans c3 (by simp)))
     have A3 := Ad (HR.out.at_.on C3.out)
     have x0 : w3.cell? ⟨w2.heap.size, 0, none⟩ = some (.int .i64 f) := h3.cell rfl
     have x1 : w3.cell? ⟨w2.heap.size, 1, none⟩ = some (.slice A5 ml c5) := h3.cell rfl
     have a1 : w3.cell? ⟨g3, 1, none⟩ = some (.int .i64 f) := by rw [<- PS.out.2.2.1]; exact A3.out.cell rfl
     have lx := h3.lt
     have la3 := A3.out.lt
     obtain ⟨g4, hg4⟩ : ∃ g4, w2.heap.size = g4 := ⟨_, rfl⟩
     have G4 := Ad (show wr.heap.size <= g4 from by rw [<- hg4]; exact C2.out.size)
     rw [hg4] at x0 x1 lx D3 ⊢
     clear h3 c3 DN CN hg4 O5 C2 cX lX la cut1
     gi_wp2
     refine ⟨trivial, ?_⟩
     gi_at_call 36
     refine (TC.out w3 A5 c5 O3.out.rd).mono ?_
     rintro ew w4 ⟨rfl, hC4⟩
     have C4 := Ad (C3.out.then hC4)
     have D4 := Ad (D3.out.on hC4)
     have O4 := Ad (O3.out.on hC4)
     have A4 := Ad (show Cs w4 g3 87 [.int .i64 p, .int .i64 f] from by
       have h9 := A3.out.on hC4
       rwa [PS.out.2.2.1, PS.out.2.2.2.2] at h9)
     have y0 : w4.cell? ⟨g3, 0, none⟩ = some (.int .i64 p) := A4.out.cell rfl
     have ly := A4.out.lt
     clear hC4 TC x0 x1 a1 lx la3 D3 O3 A3 C3
     gi_wp2_with (refine wpListIn_put_Cs rfl 3 (.tmp 37) (.tmp 36) rfl 0 (.int .i64 ((p : Int) + nb)) (by rfl) (by rfl) size3 rfl A4.out (show 0 < 2 by decide) ?_)
     intro w5 h5 c5'
     have A5' := Ad h5
     have y1 : w5.cell? ⟨g3, 1, none⟩ = some (.int .i64 f) := h5.cell rfl
     have ly5 := h5.lt
     have C45 := Ad c5'
     clear h5 c5' y0 ly
     gi_wp2_with (refine wpListIn_put_Cs rfl 3 (.tmp 42) (.tmp 41) rfl 1 (.int .i64 ((f : Int) + tt)) (by rfl) (by rfl) size3 rfl A5'.out (show 1 < 2 by decide) ?_)
     intro w6 h6 c6
     have A6 := Ad (show Cs w6 g3 87 [.int .i64 ((p : Int) + nb), .int .i64 ((f : Int) + tt)] from h6)
     have C46 := Ad (show Ch [g3] w4 w6 from C45.out.then c6)
     have ng : ∀ {j : Nat} {cur : Array Value} {T : TypeId}, w4.heap[j]? = some (.cells cur T (0, 0)) -> T ≠ 87 -> j ∉ [g3] := fun hj hT hm => by
       rw [List.mem_singleton.1 hm, show w4.heap[g3]? = _ from A4.out] at hj
       cases hj
       exact hT rfl
     have D6 := Ad (D4.out.keep C46.out (ng D4.out (by decide)))
     have O6 := Ad (O4.out.keep C46.out (fun j hj => by
       have h9 := O4.out
       rw [hj] at h9
       obtain ⟨cur, hb⟩ := h9.blk
       exact ng hb (by decide)))
     obtain ⟨F1, hj1, hj2, hj3, hj4⟩ := HR.out.j
     have J6 := HJ.out k F1 wr w6 [g3] hj1 (C4.out.any.then C46.out) (fun j hj => by rw [List.mem_singleton.1 hj]; exact ⟨GS.out, hj2⟩)
     obtain ⟨fn, tmps, assign, body, hy, hRd⟩ := HY.out k F1 (k, A5, c5) w6 J6 ⟨rfl, by rw [LG.out]; exact O6.out.rd⟩ hlt
     have ee : encB B (k, A5, c5) = #[.agg #[.int .i64 f, .slice A5 ml c5], .agg #[.int .i64 ((p : Int) + nb), .int .i64 ((f : Int) + tt)]] := by
       simp only [encB, LG.out, PS.out.1, PS.out.2.1, PS.out.2.2.1, PS.out.2.2.2.1, Int.natCast_add]
     rw [ee] at hy
     clear h6 c6 y1 ly5 ng ee
     gi_wp2_with (first | refine wpListIn_load_Cs rfl 85 (.tmp 4) rfl 0 [Value.int .i64 f, .slice A5 ml c5] (by rfl) D6.out (fun j v hv => by rwa [Nat.zero_add]) Tryz.underlying85 rfl size85 ?_ | refine wpListIn_load_Cs rfl 87 (.tmp 3) rfl 0 [Value.int .i64 ((p : Int) + nb), .int .i64 ((f : Int) + tt)] (by rfl) A6.out (fun j v hv => by rwa [Nat.zero_add]) Tryz.underlying87 rfl size87 ?_)
     refine hRd.mono ?_
     rintro ew w7 ⟨rfl, F', hJ7, hC7, hF7⟩
     have z7 := A6.out.keep hC7 hj2
     have hl6 : wr.heap.size <= w6.heap.size := Nat.le_trans C4.out.size C46.out.size
     have nF : ∀ j, j < wr.heap.size -> j ∉ F1 -> j ∉ F' := fun j h1 h2 hm => by
       rcases hF7 j hm with h | h
       · exact h2 h
       · omega
     have R7 := Ad (show BIt J B g3 Bn m c A (k + 1) w7 from by
       refine ⟨⟨F', hJ7, nF g3 HR.out.at_.lt hj2, nF Bn HR.out.bn.lt hj3, fun g o s e => nF g (HR.out.lt g o s e).1 (hj4 g o s e)⟩, ?_, ((HR.out.bn.keep C4.out (by simp)).keep C46.out (fun hm => ?_)).keep hC7 hj3, ((HR.out.rd.on C4.out).keep C46.out (fun g o s e hm => (HR.out.lt g o s e).2 (List.mem_singleton.1 hm))).keep hC7 hj4, fun g o s e => ⟨?_, (HR.out.lt g o s e).2⟩⟩
       · rw [PS.out.1, PS.out.2.1, Int.natCast_add, Int.natCast_add]
         exact z7
       · have h9 := A4.out
         rw [<- List.mem_singleton.1 hm] at h9
         exact absurd rfl (h9.ne (show Cs w4 Bn 64 [.slice A m c] from HR.out.bn.keep C4.out (by simp)) (by decide))
       · have := (HR.out.lt g o s e).1
         have := hC7.size
         omega)
     have e7 : w7.cell? ⟨g3, 0, none⟩ = some (.int .i64 ((p : Int) + nb)) := z7.cell rfl
     have er : wr.cell? ⟨g3, 0, none⟩ = some (.int .i64 p) := by rw [<- PS.out.2.2.2.2]; exact HR.out.at_.cell rfl
     have E7 := Ad e7
     have ER := Ad er
     clear z7 hl6 nF hJ7 hC7 hF7 hRd hy J6 e7 er
     gi_wp2
     go_roundw
     case rel => exact ⟨k + 1, by omega, R7⟩
     case measure =>
       rw [E7.out, ER.out]
       simp [intOf]
       omega
   · have hkn : k = B.length := by omega
     have hp : offB B k = m := by rw [hkn, offB_all, HM.out]
     rw [hp] at a0
     obtain ⟨A2, cut1, -, -⟩ := cut_drop By 64 rfl A c m m (Nat.le_refl _) hcap
     rw [Nat.sub_self] at cut1
     have p0 : (0 : Int) <= (m : Int) := by omega
     have GC := Ad ((callsIn_wide (n := 4)).2 (Bl.get_nil A2 (c - m) wr))
     generalize offT B k = f at *
     gi_wp2
     refine ⟨trivial, ?_⟩
     gi_at_call 50
     refine GC.out.mono ?_
     rintro ew w2 ⟨rfl, hC5⟩
     have C2 := Ad hC5
     clear hC5 GC a0 a1 la cX lX
     gi_wp2
     refine bodyPost_ret (results_none rfl _ _ _) rfl ?_
     obtain ⟨F1, hj1, -, -, -⟩ := HR.out.j
     rw [hkn] at hj1
     exact ⟨⟨_, rfl⟩, F1, HJ.out _ _ _ _ [] hj1 (C2.out.then ((Ch.refl [] w2).alloc _)) (by simp)⟩
theorem blocks_calls (A : Option Addr) (n c : Nat) (w : World) :
   Calls Tryz.prog 25 #[.slice A n c] w fun e w' => e = .returned (.func (.func 49) #[] #[.pointer (some ⟨w.heap.size, 0, none⟩)]) /\ w' = w.alloc (.cells #[.slice A n c] 64) := by
 go_enter Tryz.func25, Tryz.ntmps25
 go_wp2
 go_ret
 exact ⟨rfl, rfl⟩
end Lo
end
section
open Go.RowKit Go.Shelf Go.Proofs.YtjoehjclaonneaaGreatW.PrintWords
attribute [local go_sem] Oper.semAt_some
namespace Lo
def wrB (B : List (List Run)) (k : Nat) : List Run := (B.take k).foldl (fun w l => Pl.jn (w ++ l)) []
def esB (B : List (List Run)) (k : Nat) : List End := (List.range k).map (fun i => ⟨(offB B (i + 1) : Nat), (offT B (i + 1) : Nat)⟩)
theorem wrB_succ {B : List (List Run)} {k : Nat} {l : List Run} (h : B[k]? = some l) : wrB B (k + 1) = Pl.jn (wrB B k ++ l) := by
 unfold wrB
 rw [take_succ h, List.foldl_append]
 rfl
theorem esB_succ (B : List (List Run)) (k : Nat) : esB B (k + 1) = esB B k ++ [⟨(offB B (k + 1) : Nat), (offT B (k + 1) : Nat)⟩] := by
 unfold esB
 rw [List.range_succ, List.map_append]
 rfl
theorem lastE_esB (B : List (List Run)) (k : Nat) : lastE (esB B k) = ⟨(offB B k : Nat), (offT B k : Nat)⟩ := by
 cases k with
 | zero => simp [lastE, esB, offB, offT, bks, sumT]
 | succ k => rw [esB_succ, lastE, List.getLast?_concat]; rfl
theorem wrB_facts {B : List (List Run)} (hB : OkB B) : ∀ k, k <= B.length -> (∀ r ∈ wrB B k, 1 <= r.n) /\ Pl.tot (wrB B k) = offT B k /\ (wrB B k).length <= 1000 * k
 | 0, _ => by simp [wrB, offT, sumT, Pl.tot]
 | k + 1, hk => by
   obtain ⟨h1, h2, h3⟩ := wrB_facts hB k (by omega)
   obtain ⟨l, hl⟩ : ∃ l, B[k]? = some l := ⟨_, List.getElem?_eq_getElem (by omega)⟩
   obtain ⟨ok1, ok2⟩ := hB.ok k l hl
   have hp : ∀ r ∈ wrB B k ++ l, 1 <= r.n := fun r hr => (List.mem_append.1 hr).elim (h1 r) (fun h => (ok1.rgt r h).1)
   obtain ⟨j1, j2, j3⟩ := Pl.jn_facts _ hp
   have t0 : 0 <= Pl.tot l := by have := Pl.ex_len l (fun x hx => by have := (ok1.rgt x hx).1; omega); omega
   rw [wrB_succ hl, offT_succ hl]
   refine ⟨fun r hr => (j2 r hr).1, ?_, ?_⟩
   · rw [j1, Pl.tot_app, h2]
     omega
   · rw [List.length_append] at j3
     omega
structure InOpen (B : List (List Run)) (w0 : World) (b g pf g5 : Nat) (qf : Option Nat) (Af : Option Addr) (cf nf : Nat) (bs : List Int) (sf : Nat) (most : Int) (k : Nat) (F : List Nat) (W : World) : Prop where
 log : ∃ q1 q2, F = lfp g q1 q2 none /\ LogAt W b g pf q1 q2 none (wrB B k) (esB B k) []
 box : Bx W g5 36 (.pointer (some ⟨g, 0, none⟩))
 file : FileAt W b pf qf Af cf nf bs sf most
 ge : ∀ j ∈ F, w0.heap.size <= j
 ch : Ch [] w0 W
set_option maxRecDepth 100000 in
theorem open_calls (B : List (List Run)) (hB : OkB B) (hN : B.length <= 90) (b pf : Nat) (qf : Option Nat) (Af : Option Addr) (cf nf : Nat) (sf : Nat) (most : Int) (w : World) (hF : FileAt w b pf qf Af cf nf (bks 0 B) sf most) :
   Calls Tryz.prog 9 #[.pointer (some ⟨pf, 0, none⟩)] w fun e w' => ∃ g q1 q2, e = .returned (.tuple #[.pointer (some ⟨g, 0, none⟩), .int .i64 0, .int .i64 0]) /\ LogAt w' b g pf q1 q2 none (wrB B B.length) (esB B B.length) [] /\ FileAt w' b pf qf Af nf nf (bks 0 B) sf most /\ Ch [pf] w w' /\ ∀ j ∈ lfp g q1 q2 none, w.heap.size <= j := by
 have F0 := Ad hF
 have HB := Ad hB
 have HN := Ad hN
 have hbw : b <= w.heap.size := by have := hF.own; have := hF.blk.lt; omega
 have BC := Ad (fun (W : World) (hc : Ch [] w W) => Fl.bytes_calls pf Af cf nf (bks 0 B) hF.len (by have := hF.fits; have := hF.rng; omega) W ((hF.on hc).cells.1) (hF.on hc).row.rd)
 have BK := Ad (fun (A : Option Addr) (c : Nat) (W : World) => blocks_calls A nf c W)
 have hfd0 : ∀ (x y : Value) (w : World), (Instr.field 87 (.agg #[x, y]) 0).run Tryz.prog w = .ok x w := fun x y w => by
   kernel_rfl
 have hnf : (nf : Int) <= 67108864 := by have := hF.fits; have := hF.rng; omega
 clear hF hB hN
 refine (callsIn_wide (n := 6)).1 ?_
 refine callsIn_of_wp_marks Tryz.func9 rfl trivial ?_ rfl
 simp only [Tryz.ntmps9, List.size_toArray, List.length_cons, List.length_nil, Nat.reduceAdd, Nat.reduceSub, Array.replicate_succ, Array.replicate_zero, List.push_toArray, List.append_toArray, List.nil_append, List.cons_append]
 refine wpIn_wide.2 ?_
 go_wp2_with fail
 have d1 := Cs.new w [Value.pointer (some ⟨pf, 0, none⟩), .slice none 0 0, .slice none 0 0, .slice none 0 0] 80
 have d2 := Bx.new (w.alloc (.cells #[Value.pointer (some ⟨pf, 0, none⟩), .slice none 0 0, .slice none 0 0, .slice none 0 0] 80)) (.pointer (some ⟨w.heap.size, 0, none⟩)) 36
 have e1 := (Ch.refl [] w).alloc (.cells #[Value.pointer (some ⟨pf, 0, none⟩), .slice none 0 0, .slice none 0 0, .slice none 0 0] 80)
 have e2 := (Ch.refl [] (w.alloc (.cells #[Value.pointer (some ⟨pf, 0, none⟩), .slice none 0 0, .slice none 0 0, .slice none 0 0] 80))).alloc (.cells #[Value.pointer (some ⟨w.heap.size, 0, none⟩)] 36)
 rw [World.size_alloc] at d2
 have d1' := d1.on e2
 obtain ⟨w2, hw2⟩ : ∃ w2, (w.alloc (.cells #[Value.pointer (some ⟨pf, 0, none⟩), .slice none 0 0, .slice none 0 0, .slice none 0 0] 80)).alloc (.cells #[Value.pointer (some ⟨w.heap.size, 0, none⟩)] 36) = w2 := ⟨_, rfl⟩
 have C2 := Ad (show Ch [] w w2 from by rw [<- hw2]; exact e1.then e2)
 rw [hw2] at d2 ⊢
 rw [show (w.alloc (.cells [Value.pointer (some ⟨pf, 0, none⟩), .slice none 0 0, .slice none 0 0, .slice none 0 0].toArray 80)).alloc (.cells #[Value.pointer (some ⟨w.heap.size, 0, none⟩)] 36) = w2 from hw2] at d1'
 have D1 := Ad d1'
 have D2 := Ad d2
 clear d1 d2 e1 e2 hw2 d1'
 refine (BC.out w2 C2.out).mono ?_
 rintro e w3 ⟨A3, c3, q3, rfl, hO3, hC3⟩
 have O3 := Ad hO3
 have C3 := Ad (C2.out.then hC3)
 have E1 := Ad (D1.out.on hC3)
 have E2 := Ad (D2.out.keep hC3 (by simp))
 have S2 := Ad C2.out.size
 clear hO3 hC3 BC D1 D2 C2
 go_wp2_with fail
 refine (BK.out A3 c3 w3).mono ?_
 rintro e w4 ⟨rfl, h4⟩
 have c4 : Ch [] w3 w4 := by rw [h4]; exact (Ch.refl [] w3).alloc _
 have b4 := Bx.new w3 (.slice A3 nf c3) 64
 rw [<- h4] at b4
 have B4 := Ad b4
 have C4 := Ad (C3.out.then c4)
 have O4 := Ad (O3.out.on c4)
 have G4 := Ad (E1.out.on c4)
 have X4 := Ad (E2.out.keep c4 (by simp))
 have S3 := Ad C3.out.size
 have L3 := Ad (show ∀ k, q3 = some k -> k < w3.heap.size from fun k hk => (O3.out.size k hk).2)
 clear h4 c4 b4 BK E1 E2 C3 O3
 obtain ⟨g, hg⟩ : ∃ g, w.heap.size = g := ⟨_, rfl⟩
 have IE := Ad (show InOpen B w b g pf (g + 1) qf Af cf nf (bks 0 B) sf most 0 (lfp g none none none) w4 from by
   subst hg
   refine ⟨⟨none, none, rfl, ⟨none, 0, 0, none, 0, 0, none, 0, 0, G4.out, ⟨rfl, Ow.nil Rv _ _⟩, ⟨rfl, Ow.nil Endv _ _⟩, ⟨rfl, Ow.nil Rv _ _⟩⟩, hbw, by simp⟩, X4.out, F0.out.on C4.out, fun j hj => ?_, C4.out⟩
   simp [lfp] at hj
   omega)
 have XL := X4.out.lt
 have GL := G4.out.lt
 rw [hg] at XL GL G4 X4 ⊢
 have HG := Ad hg
 clear hg
 go_wp2_with fail
 refine (wpIn_wide (n := 6)).1 ?_
 refine wpIn_rangeItems (gf := 49) (lb := #[.pointer (some ⟨w3.heap.size, 0, none⟩)]) rfl (enters_of Tryz.func49 (by kernel_rfl) rfl)
   (blocks_in B HB.out A3 c3 nf F0.out.len w3.heap.size (lfp g none none none) w4 B4.out O4.out.rd ?f1 ?f2 ?f3) (fun _ => rfl)
   (InOpen B w b g pf (g + 1) qf Af cf nf (bks 0 B) sf most) ?hI ?hF IE.out ?hround ?hdone
 case f1 =>
   intro hm
   simp [lfp] at hm
   have := S3.out
   have := HG.out
   have := C4.out.size
   exact (show Cs w4 w3.heap.size 64 [.slice A3 nf c3] from B4.out).ne G4.out (by decide) hm
 case f2 =>
   intro g' o s e
   rcases O4.out.addr with ⟨h1, _⟩ | ⟨g9, h1, h2⟩
   · rw [h1] at e; cases e
   · rw [h1] at e
     obtain rfl : g9 = g' := by cases e; rfl
     have h9 := (O4.out.size g9 h2)
     refine ⟨fun hm => ?_, h9.2⟩
     simp [lfp] at hm
     subst hm
     exact O4.out.ne G4.out (by decide) h2
 case f3 =>
   intro j hj
   simp [lfp] at hj
   omega
 case hI =>
   rintro k F X Y G ⟨⟨q1, q2, rfl, hl⟩, hb, hf, hge, hch⟩ hc hG
   have nb : ∀ j, j < w4.heap.size -> j ∉ G := fun j hj hm => by have := (hG j hm).1; omega
   refine ⟨⟨q1, q2, rfl, hl.keep hc (fun j hj hm => (hG j hm).2 hj)⟩, hb.keep hc (nb _ XL), hf.keep hc (nb _ (F0.out.on C4.out).blk.lt) (fun j hj => nb j ((F0.out.on C4.out).row.size j hj).2), hge, hch.trans hc (fun j hj => .inr ?_)⟩
   have := (hG j hj).1
   have := C4.out.size
   omega
 case hF =>
   rintro k F X ⟨⟨q1, q2, rfl, hl⟩, hb, hf, hge, hch⟩ j hj
   obtain ⟨-, cur, T, h1, -⟩ := hl.kinds j hj
   exact ⟨cur, T, h1⟩
 case hround =>
   rintro lp k F ⟨i, A5, c5⟩ W hi ⟨hik, hrd⟩ hk hlp ⟨r0, hr0⟩
   dsimp only at hik hrd
   subst hik
   obtain ⟨lr, hlr⟩ : ∃ lr, B[i]? = some lr := ⟨_, List.getElem?_eq_getElem hk⟩
   have hgd : B.getD i [] = lr := by rw [List.getD_eq_getElem?_getD, hlr]; rfl
   rw [hgd] at hrd
   obtain ⟨ok1, ok2⟩ := HB.out.ok i lr hlr
   obtain ⟨wf1, wf2, wf3⟩ := wrB_facts HB.out i (by omega)
   have hn := HN.out
   obtain ⟨ml, hml⟩ : ∃ ml, lr.length = ml := ⟨_, rfl⟩
   have WC := Ad (fun (X : World) (q1 q2 : Option Nat) (hL : LogAt X b g pf q1 q2 none (wrB B i) (esB B i) []) (hX : Rd Rv X A5 c5 lr) => write_calls b g pf q1 q2 none (wrB B i) [] (esB B i) A5 c5 ml lr hml ⟨(offB B (i + 1) : Nat), (offT B (i + 1) : Nat)⟩ (by omega) (by simp [esB]; omega)
     (fun r hr => (List.mem_append.1 hr).elim (wf1 r) (fun h => (ok1.rgt r h).1)) (by rw [Pl.tot_app, wf2]; exact ok1.ends) X hL hX)
   have NE := Ad (List.length_pos_iff.2 ok1.ne)
   have WS := Ad (wrB_succ hlr)
   have ES := Ad (esB_succ B i)
   simp only [encB, hgd, hml]
   obtain ⟨⟨q1, q2, rfl, hl⟩, hb, hf, hge, hch⟩ := hi
   have L0 := Ad hl
   have X0 := Ad hb
   have FF := Ad hf
   have GE := Ad hge
   have CH := Ad hch
   have RD := Ad hrd
   have LP := Ad hr0
   have HI := Ad hk
   clear hl hb hf hge hch hrd hr0 hlr hgd ok1 ok2 wf1 wf2 wf3 hn hml hk
   generalize (offB B (i + 1) : Nat) = tb at *
   generalize offT B (i + 1) = te at *
   generalize offT B i = ti at *
   gi_wp2
   have cA := ((Ch.refl [] W).alloc (.cells #[.int .i64 ti, .slice A5 ml c5] 85)).alloc (.cells #[.int .i64 tb, .int .i64 te] 87)
   have d85 := (Cs.new W [Value.int .i64 ti, .slice A5 ml c5] 85).on ((Ch.refl [] (W.alloc (.cells [Value.int .i64 ti, .slice A5 ml c5].toArray 85))).alloc (.cells #[.int .i64 tb, .int .i64 te] 87))
   have d87 := Cs.new (W.alloc (.cells [Value.int .i64 ti, .slice A5 ml c5].toArray 85)) [Value.int .i64 tb, .int .i64 te] 87
   rw [World.size_alloc] at d87
   refine ⟨cA, fun r => ?_⟩
   obtain ⟨W1, hW1⟩ : ∃ W1, (W.alloc (.cells #[.int .i64 ti, .slice A5 ml c5] 85)).alloc (.cells #[.int .i64 tb, .int .i64 te] 87) = W1 := ⟨_, rfl⟩
   rw [hW1] at cA ⊢
   rw [show (W.alloc (.cells [Value.int .i64 ti, .slice A5 ml c5].toArray 85)).alloc (.cells #[.int .i64 tb, .int .i64 te] 87) = W1 from hW1] at d85
   rw [show (W.alloc (.cells [Value.int .i64 ti, .slice A5 ml c5].toArray 85)).alloc (.cells [Value.int .i64 tb, .int .i64 te].toArray 87) = W1 from hW1] at d87
   have cP : Ch [lp] W1 (W1.putObj lp (.loop r)) := ch_put _
   have nl : ∀ {j : Nat} {cur : Array Value} {T : TypeId}, W1.heap[j]? = some (.cells cur T (0, 0)) -> j ∉ [lp] := fun hj hm => by
     rw [List.mem_singleton.1 hm, cA.blk LP.out (by simp)] at hj
     cases hj
   obtain ⟨WX, hWX⟩ : ∃ WX, W1.putObj lp (.loop r) = WX := ⟨_, rfl⟩
   rw [hWX] at cP ⊢
   have owl : ∀ {α : Type} {E : El α} {b7 c7 : Nat} {A7 : Option Addr} {q7 : Option Nat} {l7 : List α}, Ow E W1 b7 q7 A7 c7 l7 -> Ow E WX b7 q7 A7 c7 l7 := fun h7 => h7.keep cP (fun j hj => by
     rw [hj] at h7
     obtain ⟨cur, hbk⟩ := h7.blk
     exact nl hbk)
   have LX := Ad ((L0.out.on cA).keep cP (fun j hj => by
     obtain ⟨-, cur, T, h1, -⟩ := (L0.out.on cA).kinds j hj
     exact nl h1))
   have BX := Ad ((X0.out.keep cA (by simp)).keep cP (nl (X0.out.keep cA (by simp))))
   have FX := Ad ((FF.out.on cA).keep cP (nl (FF.out.on cA).blk) (fun j hj => by
     have h9 := (FF.out.on cA).row
     rw [hj] at h9
     obtain ⟨cur, hbk⟩ := h9.blk
     exact nl hbk))
   have RX := Ad ((RD.out.on cA).keep cP (fun g' o s e hm => by
     obtain ⟨x0, hx0⟩ : ∃ x0, lr[0]? = some x0 := ⟨_, List.getElem?_eq_getElem NE.out⟩
     obtain ⟨g9, o9, e9, hcl⟩ := (RD.out.on cA).cells hx0
     rw [e9] at e
     cases e
     obtain ⟨ob, h1, h2⟩ := cells_of_cell (hcl 0 _ rfl)
     rw [List.mem_singleton.1 hm, cA.blk LP.out (by simp)] at h1
     cases h1
     cases h2))
   have CX := Ad (show Ch [] w WX from (CH.out.then cA).trans cP (fun j hj => by
     rw [List.mem_singleton.1 hj]
     have := C4.out.size
     exact .inr (by omega)))
   have D85 := Ad (d85.keep cP (nl d85))
   have D87 := Ad (d87.keep cP (nl d87))
   have z5 := BX.out.cell
   have lz := BX.out.lt
   have z6 : WX.cell? ⟨W.heap.size, 1, none⟩ = some (.slice A5 ml c5) := D85.out.cell rfl
   have l6 := D85.out.lt
   have CALL := Ad (CallsIn.inRound lp ((callsIn_wide (n := 4 - 1)).2 (WC.out WX q1 q2 LX.out RX.out)))
   clear hW1 hWX cA cP nl owl d85 d87 WC
   gi_wp2_with (refine wpListIn_load_Cs rfl 87 (.tmp 7) rfl 0 [Value.int .i64 tb, .int .i64 te] (by rfl) D87.out (fun j v hv => by rwa [Nat.zero_add]) Tryz.underlying87 rfl size87 ?_)
   refine ⟨trivial, ?_⟩
   gi_at_call 26
   refine CALL.out.mono ?_
   rintro e w9 ⟨⟨v, rfl⟩, q1', q2', hL, hC, hf1, hf2, -⟩
   gi_wp2
   have sub : ∀ j, j ∈ g :: (q1.toList ++ q2.toList) -> j ∈ lfp g q1 q2 none := fun j hj => by
     simp [lfp] at hj ⊢
     exact hj
   have fr : ∀ j ∈ lfp g q1' q2' none, j ∈ lfp g q1 q2 none ∨ WX.heap.size <= j := fun j hj => by
     simp [lfp] at hj ⊢
     rcases hj with h | h | h
     · exact .inl (.inl h)
     · exact .inr (hf1 j h)
     · rcases hf2 with h2 | h2
       · exact .inl (.inr (.inr (by rw [<- h2]; exact h)))
       · exact .inr (h2 j h)
   refine ⟨lfp g q1' q2' none, ⟨⟨q1', q2', rfl, by rw [WS.out, ES.out]; exact hL⟩, BX.out.keep hC (fun hm => LX.out.noT BX.out (by decide) (sub _ hm)), FX.out.keep hC (fun hm => LX.out.noT FX.out.blk (by decide) (sub _ hm)) (fun j hj hm => ?_), fun j hj => ?_, CX.out.trans hC (fun j hj => .inr (GE.out j (sub j hj)))⟩, hC.sub sub, fr⟩
   · have h9 := FX.out.row
     rw [hj] at h9
     obtain ⟨cur, hbk⟩ := h9.blk
     exact LX.out.noT hbk (by decide) (sub _ hm)
   · rcases fr j hj with h | h
     · exact GE.out j h
     · have := CX.out.size
       omega
 case hdone =>
   rintro D F W hD ⟨⟨q1, q2, rfl, hl⟩, hb, hf, hge, hch⟩ hK
   have z5 := hb.cell
   have lz := hb.lt
   have hle : lastE (esB B B.length) = ⟨(nf : Int), (offT B B.length : Nat)⟩ := by
     rw [lastE_esB, offB_all, F0.out.len]
   have LC := Ad (fun (X : World) (hc : Ch [] W X) => last_calls b g pf q1 q2 none (wrB B B.length) [] (esB B B.length) X (hl.on hc))
   rw [hle] at LC
   have LN := Ad (fun (X : World) (hc : Ch [] W X) => Fl.len_calls pf Af cf nf X ((hf.on hc).cells.1))
   have CUT := Ad (fun (X : World) (hc : Ch [] W X) => Fl.cut_calls b pf qf Af cf nf (bks 0 B) sf most X (hf.on hc))
   have SK := Ad (fun (W' : World) (hc : Ch [] W W') => (⟨hc.cell z5 (by simp), ⟨hc⟩⟩ : W'.cell? ⟨g + 1, 0, none⟩ = some (.pointer (some ⟨g, 0, none⟩)) /\ Aside0 (Ch [] W W')))
   have L0 := Ad hl
   have FF := Ad hf
   have GE := Ad hge
   have CH := Ad hch
   have KD := Ad hK
   have FB := Ad hb
   clear hl hb hf hge hch hle hK
   generalize (offT B B.length : Nat) = te at *
   go_wp2_with fail
   go_region_held3 (fun W' => W'.cell? ⟨g + 1, 0, none⟩ = some (.pointer (some ⟨g, 0, none⟩)) /\ Aside0 (Ch [] W W'))
     (exact SK.out _ (by repeat (first | exact CQ.out | exact (Ch.refl _ _).drew)))
     ((first
       | (go_at_call 27
          refine (LN.out _ (by first | exact CQ.out | exact (Ch.refl _ _).drew)).mono ?_
          rintro e w8 ⟨rfl, rfl⟩)
       | (go_at_call 28
          have CP := Ad (show Ch [] W _ from (by first | exact CQ.out | exact (Ch.refl _ _).drew))
          refine (LC.out _ CP.out).mono ?_
          rintro e w9 ⟨rfl, hC9⟩
          have CQ := Ad (CP.out.then hC9)
          clear hC9)
       | fail))
   rw [show IntKind.i64.wrap 0 = 0 from rfl]
   have y5 := CQ.out.cell z5 (by simp)
   have ly := Nat.lt_of_lt_of_le lz CQ.out.size
   clear z5 lz
   go_wp2_with fail
   refine (LC.out w9 CQ.out).mono ?_
   rintro e w10 ⟨rfl, hC10⟩
   have C10 := Ad (CQ.out.then hC10)
   have y5 := C10.out.cell FB.out.cell (by simp)
   have ly := Nat.lt_of_lt_of_le FB.out.lt C10.out.size
   clear hC10
   go_wp2_with fail
   refine (CUT.out w10 C10.out).mono ?_
   rintro e w11 ⟨rfl, hF11, hC11⟩
   have npf : ∀ {k : Nat} {cur : Array Value} {T : TypeId}, w10.heap[k]? = some (.cells cur T (0, 0)) -> T ≠ 68 -> k ∉ [pf] := fun hk hT hm => by
     rw [List.mem_singleton.1 hm, show w10.heap[pf]? = _ from (FF.out.on C10.out).blk] at hk
     cases hk
     exact hT rfl
   have F11 := Ad hF11
   have C11 := Ad hC11
   have B10 := FB.out.keep C10.out (by simp)
   have B11 := B10.keep hC11 (npf B10 (by decide))
   have L11 := Ad ((L0.out.on C10.out).keep hC11 (fun j hj => by
     obtain ⟨-, cur, T, h1, h2⟩ := (L0.out.on C10.out).kinds j hj
     exact npf h1 (by rcases h2 with e | e | e <;> subst e <;> decide)))
   have K11 := Ad (hC11.blk (C10.out.blk KD.out (by simp)) (fun hm => by
     have h9 := (FF.out.on C10.out).blk
     have h8 := C10.out.blk KD.out (by simp)
     rw [List.mem_singleton.1 hm, show w10.heap[pf]? = _ from h9] at h8
     cases h8))
   have y11 := B11.cell
   have ly11 := B11.lt
   clear hF11 hC11 npf B10 B11 y5 ly
   go_wp2_with fail
   refine ⟨by simp, .inl ⟨_, _, rfl, run_takeDeferred K11.out, ?_⟩⟩
   have CD : Ch [D] w11 (w11.putObj D (.deferred none)) := ch_put _
   have nD : ∀ {k : Nat} {cur : Array Value} {T : TypeId}, w11.heap[k]? = some (.cells cur T (0, 0)) -> k ∉ [D] := fun hk hm => by
     rw [List.mem_singleton.1 hm, K11.out] at hk
     cases hk
   refine ⟨.tuple #[.pointer (some ⟨g, 0, none⟩), .int .i64 0, .int .i64 0], by simp [results, Tryz.f9, go_sem], g, q1, q2, rfl, L11.out.keep CD (fun j hj => ?_), F11.out.keep CD (nD F11.out.blk) (fun j hj => ?_), ?_, GE.out⟩
   · obtain ⟨-, cur, T, h1, -⟩ := L11.out.kinds j hj
     exact nD h1
   · have h9 := F11.out.row
     rw [hj] at h9
     obtain ⟨cur, hbk⟩ := h9.blk
     exact nD hbk
   · have h1 := C4.out.size
     exact ((CH.out.then C10.out).any.then C11.out).trans CD (fun j hj => by rw [List.mem_singleton.1 hj]; exact .inr (by omega))
end Lo
end
end Go.Proofs.YtjoehjclaonneaaGreat
