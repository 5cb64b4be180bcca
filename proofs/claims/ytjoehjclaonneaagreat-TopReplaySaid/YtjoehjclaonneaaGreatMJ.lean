/- A part of the proof of TopReplay (no condition of its own). -/
import Derived.OwnWalk
import Derived.Deep.RegionLaw
import Derived.Test.YtjoehjclaonneaaGreatMH
import Derived.Test.YtjoehjclaonneaaGreatMC
namespace Go.Proofs.YtjoehjclaonneaaGreat
open Go.RowKit Go.Proofs.YtjoehjclaonneaaGreatW.PrintWords
set_option maxHeartbeats 8000000
set_option linter.unusedVariables false
set_option linter.unusedSimpArgs false
section
def Pl.ev (f : Pl.Fr) (kind : Int) : Ev := ⟨0, 0, kind, if kind = 1 ∨ kind = 2 then f else Pl.Fr.zero⟩
def Pl.Td.evs (t : Pl.Td) : List Ev := t.kinds.map (Pl.ev t.f)
section
variable {b g : Nat} {L : Lay} {x : Pl.Nd}
theorem NT.begin {w : World} (h : NodeAt w b g L x) (hb : b <= w.heap.size) : NT (w.alloc (.cells (tdc none 0 Pl.Td.none).toArray 168)) b g w.heap.size (L.fp g ++ [w.heap.size]) x Pl.Td.none := by
 have hc := (Ch.refl [] w).alloc (.cells (tdc none 0 Pl.Td.none).toArray 168)
 refine ⟨Nat.le_trans hb hc.size, L, none, 0, none, h.on hc, ⟨Cs.new w _ 168, Ow.nil _ _ _, hb⟩, ?_, by simp⟩
 intro k hk
 cases hk
set_option maxRecDepth 100000 in
theorem nstep_calls (w : World) (h : NodeAt w b g L x) (hb : b <= w.heap.size) (lv : Int) (hlv : lv = 0 ∨ lv = 1) (hx : x.fit) (hn : (x.step Pl.Td.none lv).2.kinds.length <= 100) :
   Calls Tryz.prog 62 #[.pointer (some ⟨g, 0, none⟩), .int .i64 lv] w fun e w' => (∃ A c q n, e = .returned (.tuple #[.slice A n c, .int .i64 0]) /\ n = (x.step Pl.Td.none lv).2.evs.length /\ Ow Evv w' w.heap.size q A c (x.step Pl.Td.none lv).2.evs) /\
     ∃ L', NodeAt w' b g L' (x.step Pl.Td.none lv).1 /\ Ch (L.fp g) w w' /\ ∀ k, k ∈ L'.fp g -> k ∈ L.fp g ∨ w.heap.size <= k := by
 have T0 := NT.begin h hb
 obtain ⟨w0, hw0⟩ : ∃ w0, w.alloc (.cells (tdc none 0 Pl.Td.none).toArray 168) = w0 := ⟨_, rfl⟩
 have C0 := Ad (show Ch [] w w0 from hw0 ▸ (Ch.refl [] w).alloc _)
 rw [hw0] at T0
 have H0 := Ad T0
 obtain ⟨fn, hix, hcf, hfn⟩ := dispatch b g w.heap.size (L.fp g ++ [w.heap.size]) x Pl.Td.none lv hlv hx (by simp [Pl.Td.none])
 have c4 : w0.cell? ⟨g, 4, none⟩ = some (.int .i64 x.mode) := (h.on C0.out).cs.cell (by rfl)
 have ST : Aside0 (Calls Tryz.prog 80 #[] w0.drew (fun e w1 => e = .returned stepsv /\ w1.cell? ⟨g, 4, none⟩ = some (.int .i64 x.mode) /\ Aside0 (NT w1 b g w.heap.size (L.fp g ++ [w.heap.size]) x Pl.Td.none /\ Ch [] w0 w1))) := ⟨(steps_calls w0.drew).mono (by
   rintro e w1 ⟨rfl, hC⟩
   have hc := ((Ch.refl [] w0).drew).then hC
   exact ⟨rfl, hc.cell c4 (by simp), ⟨T0.on hc, hc⟩⟩)⟩
 have SC := Ad hfn
 have hgl : g < w0.heap.size := by have := h.cs.lt; have := C0.out.size; omega
 have b0 : (lv != 0 && lv != 1) = false := by rcases hlv with rfl | rfl <;> rfl
 have HN := Ad hn
 have HB := Ad hb
 have HL := Ad h
 simp only [tdc, frc, Pl.Td.none, Pl.Fr.zero, List.length_nil] at hw0
 have HW := Ad hw0
 have hm0 := hx.mode
 clear T0 hfn hn hb h hw0 hx
 generalize x.mode = md at *
 generalize hst : x.step Pl.Td.none lv = st at *
 have HST := Ad hst
 clear hst
 rcases hlv with rfl | rfl
 all_goals
   go_enter Tryz.func62, Tryz.ntmps62
   go_wp2_with fail
   rw [HW.out]
   go_region_with ((first | (go_at_call 80; refine ST.out.mono ?_; rintro e w1 ⟨rfl, d4, hX⟩) | (rename Aside0 (NT _ _ _ _ _ _ _ /\ _) => hX; refine (SC.out _ hX.out.1).mono ?_; rintro e w2 ⟨rfl, F2, h2, s2⟩)))
 all_goals
   have hS2 : St (L.fp g ++ [w.heap.size]) w0 w2 F2 := by
     refine St.trans (F' := L.fp g ++ [w.heap.size]) ?_ s2
     exact St.of hX.out.2
   have S2 := Ad hS2
   have H2 := Ad h2
   clear hS2 h2 s2 hX d4 ST SC hix hcf c4 b0
   obtain ⟨A, c, q, hT, hb2, _, _⟩ := NT.told H2.out
   obtain ⟨n, hnn⟩ : ∃ n, st.2.kinds.length = n := ⟨_, rfl⟩
   have k0 : w2.cell? ⟨w.heap.size, 0, none⟩ = some (.slice A n c) := by rw [<- hnn]; exact hT.cs.cell (by rfl)
   have TL := Ad hT
   have HNN := Ad hnn
   have n1 : n <= 100 := by rw [<- hnn]; exact HN.out
   clear hT hb2 hnn
   go_wp2_with fail
   go_loopw [7, 33] (fun v i wr => ∃ k : Nat, k <= n /\ i = .int .i64 k /\ (∃ A c q, v = .slice A k c /\ Aside0 (Ow Evv wr w2.heap.size q A c (st.2.evs.take k))) /\ Aside0 (Ch [] w2 wr)) (fun _ i _ => n - (intOf i).toNat)
   case atStart => exact ⟨0, by omega, rfl, ⟨none, 0, none, rfl, ⟨Ow.nil _ _ _⟩⟩, ⟨Ch.refl _ _⟩⟩
   case round =>
     obtain ⟨k, hk, rfl, ⟨A2, c2, q2, rfl, O⟩, CR⟩ := hrel
     by_cases hlt : k < n
     · obtain ⟨kd, hkd⟩ : ∃ kd, st.2.kinds[k]? = some kd := ⟨_, List.getElem?_eq_getElem (by rw [HNN.out]; exact hlt)⟩
       obtain ⟨g2, o2, rfl, hcell⟩ := (TL.out.kinds.rd.on CR.out).cells hkd
       have kc : wr.cell? ⟨g2, o2 + k, none⟩ = some (.int .i64 kd) := by
         have := hcell 0 (.int .i64 kd) rfl
         rwa [show o2 + k * Iv.sz + 0 = o2 + k by simp [Iv]] at this
       have TK := Ad (show st.2.evs.take (k + 1) = st.2.evs.take k ++ [Pl.ev st.2.f kd] by
         have e : st.2.evs[k]? = some (Pl.ev st.2.f kd) := by unfold Pl.Td.evs; rw [List.getElem?_map, hkd]; rfl
         rw [List.take_add_one, e]
         rfl)
       have HLK := Ad (show (st.2.evs.take k).length = k by unfold Pl.Td.evs; rw [List.length_take, List.length_map, HNN.out]; omega)
       have k00 : (0 : Int) <= (k : Int) := by omega
       have k01 : (k : Int) < (n : Int) := by omega
       have DN := Ad (Cs.new wr ([Value.int .i64 0, .int .i64 0, .int .i64 0] ++ zf) 51)
       have CN := Ad ((Ch.refl [] wr).alloc (.cells ([Value.int .i64 0, .int .i64 0, .int .i64 0] ++ zf).toArray 51))
       clear hcell hkd
       go_wp2_with (refine wpList_store_all rfl 51 (.tmp 10) (.tmp 38) rfl ([Value.int .i64 0, .int .i64 0, .int .i64 kd] ++ zf) (by rfl) (by rfl) DN.out rfl size51 (by simp [zf, Value.oneCell']) ?_)
       intro wa ha ca
       have CA := Ad (CR.out.then (CN.out.trans ca (by simp)))
       have DA := Ad ha
       have TA := Ad (TL.out.cs.on CA.out)
       have OA := Ad (O.out.on (CN.out.trans ca (by simp)))
       clear ha ca DN CN kc
       by_cases hs : kd = 1 ∨ kd = 2
       · have EV := Ad (show Pl.ev st.2.f kd = ⟨0, 0, kd, st.2.f⟩ by unfold Pl.ev; rw [if_pos hs])
         have TP := Ad (show ∀ j v, (frc st.2.f)[j]? = some v -> (tdc (some ⟨g2, o2, none⟩) c st.2)[1 + j]? = some v from fun j v hv => by unfold tdc; rw [Nat.add_comm, List.getElem?_cons_succ]; exact hv)
         rcases hs with rfl | rfl
         · go_wp2_with (first | refine wpList_load_Cs rfl 49 (.tmp 45) rfl 1 (frc st.2.f) (by rfl) TA.out TP.out Tryz.underlying49 rfl size49 ?_ | refine wpList_store_Cs rfl 49 (.tmp 47) (.tmp 46) rfl 3 (frc st.2.f) (by rfl) (by rfl) DA.out (show 3 + 12 <= 15 by decide) size49 (frc_one _) ?_)
           intro wb hb9 cb9
           have DZ := Ad (show Cs wb wr.heap.size 51 (Evv.enc (⟨0, 0, 1, st.2.f⟩ : Ev)) from hb9)
           have OZ := Ad (OA.out.keep cb9 (fun k hk hm => by have := (O.out.size k hk).2; simp at hm; omega))
           have CZ := Ad (CA.out.trans cb9 (fun y hy => .inr (by simp at hy; subst hy; exact CR.out.size)))
           rw [EV.out] at TK
           clear hb9 cb9 TA OA DA EV TP
           have Y := Ad (Ow.lit Evv wb [(⟨0, 0, 1, st.2.f⟩ : Ev)] [Value.int .i64 0, .int .i64 0, .int .i64 1, .int .i64 st.2.f.id, .bool st.2.f.ext, .bool st.2.f.rtr, .int .i64 st.2.f.len, .int .u8 st.2.f.d0, .int .u8 st.2.f.d1, .int .u8 st.2.f.d2, .int .u8 st.2.f.d3, .int .u8 st.2.f.d4, .int .u8 st.2.f.d5, .int .u8 st.2.f.d6, .int .u8 st.2.f.d7].toArray (by rfl) (by decide : 1 <= maxLen)).rd
           have CY := Ad ((Ch.refl [] wb).alloc (.cells [Value.int .i64 0, .int .i64 0, .int .i64 1, .int .i64 st.2.f.id, .bool st.2.f.ext, .bool st.2.f.rtr, .int .i64 st.2.f.len, .int .u8 st.2.f.d0, .int .u8 st.2.f.d1, .int .u8 st.2.f.d2, .int .u8 st.2.f.d3, .int .u8 st.2.f.d4, .int .u8 st.2.f.d5, .int .u8 st.2.f.d6, .int .u8 st.2.f.d7].toArray 51))
           have OY := Ad (OZ.out.on CY.out)
           have BY := Ad (show w2.heap.size <= (wb.alloc (.cells [Value.int .i64 0, .int .i64 0, .int .i64 1, .int .i64 st.2.f.id, .bool st.2.f.ext, .bool st.2.f.rtr, .int .i64 st.2.f.len, .int .u8 st.2.f.d0, .int .u8 st.2.f.d1, .int .u8 st.2.f.d2, .int .u8 st.2.f.d3, .int .u8 st.2.f.d4, .int .u8 st.2.f.d5, .int .u8 st.2.f.d6, .int .u8 st.2.f.d7].toArray 51)).heap.size from (CZ.out.then CY.out).size)
           have EZ := Ad (show ∀ j v, ([Value.int .i64 0, .int .i64 0, .int .i64 1, .int .i64 st.2.f.id, .bool st.2.f.ext, .bool st.2.f.rtr, .int .i64 st.2.f.len, .int .u8 st.2.f.d0, .int .u8 st.2.f.d1, .int .u8 st.2.f.d2, .int .u8 st.2.f.d3, .int .u8 st.2.f.d4, .int .u8 st.2.f.d5, .int .u8 st.2.f.d6, .int .u8 st.2.f.d7] : List Value)[j]? = some v -> (Evv.enc (⟨0, 0, 1, st.2.f⟩ : Ev))[0 + j]? = some v from fun j v hv => by rwa [Nat.zero_add])
           go_wp2_with (first | refine wpList_load_Cs rfl 51 (.tmp 10) rfl 0 [Value.int .i64 0, .int .i64 0, .int .i64 1, .int .i64 st.2.f.id, .bool st.2.f.ext, .bool st.2.f.rtr, .int .i64 st.2.f.len, .int .u8 st.2.f.d0, .int .u8 st.2.f.d1, .int .u8 st.2.f.d2, .int .u8 st.2.f.d3, .int .u8 st.2.f.d4, .int .u8 st.2.f.d5, .int .u8 st.2.f.d6, .int .u8 st.2.f.d7] (by rfl) DZ.out EZ.out Tryz.underlying51 rfl size51 ?_ | (at_builtin; go_loud (refine wpList_append_Ow rfl (.tmp 48) (.tmp 50) 42 (by rfl) (by rfl) (some ⟨wb.heap.size, 0, none⟩) 1 1 [(⟨0, 0, 1, st.2.f⟩ : Ev)] (by rfl) (by rfl) HLK.out OY.out Y.out rfl (by show (k + 1) * 56 <= _; omega) BY.out ?_)))
           intro A4 c4 q4 w4 hO hC hq
           have O4 := Ad (show Ow Evv w4 w2.heap.size q4 A4 c4 (st.2.evs.take (k + 1)) from by rw [TK.out]; exact hO)
           have C4 := Ad ((CZ.out.then CY.out).trans hC (fun y hy => by rw [Option.mem_toList] at hy; exact .inr (OY.out.size y hy).1))
           clear hO hC hq Y OY BY EZ DZ OZ CZ CY TK O CR HLK
           go_wp2_with fail
           go_roundw
           case rel => exact ⟨k + 1, by omega, by go_num, ⟨A4, c4, q4, rfl, O4⟩, C4⟩
           case measure => simp [intOf]; omega
         · go_wp2_with (first | refine wpList_load_Cs rfl 49 (.tmp 45) rfl 1 (frc st.2.f) (by rfl) TA.out TP.out Tryz.underlying49 rfl size49 ?_ | refine wpList_store_Cs rfl 49 (.tmp 47) (.tmp 46) rfl 3 (frc st.2.f) (by rfl) (by rfl) DA.out (show 3 + 12 <= 15 by decide) size49 (frc_one _) ?_)
           intro wb hb9 cb9
           have DZ := Ad (show Cs wb wr.heap.size 51 (Evv.enc (⟨0, 0, 2, st.2.f⟩ : Ev)) from hb9)
           have OZ := Ad (OA.out.keep cb9 (fun k hk hm => by have := (O.out.size k hk).2; simp at hm; omega))
           have CZ := Ad (CA.out.trans cb9 (fun y hy => .inr (by simp at hy; subst hy; exact CR.out.size)))
           rw [EV.out] at TK
           clear hb9 cb9 TA OA DA EV TP
           have Y := Ad (Ow.lit Evv wb [(⟨0, 0, 2, st.2.f⟩ : Ev)] [Value.int .i64 0, .int .i64 0, .int .i64 2, .int .i64 st.2.f.id, .bool st.2.f.ext, .bool st.2.f.rtr, .int .i64 st.2.f.len, .int .u8 st.2.f.d0, .int .u8 st.2.f.d1, .int .u8 st.2.f.d2, .int .u8 st.2.f.d3, .int .u8 st.2.f.d4, .int .u8 st.2.f.d5, .int .u8 st.2.f.d6, .int .u8 st.2.f.d7].toArray (by rfl) (by decide : 1 <= maxLen)).rd
           have CY := Ad ((Ch.refl [] wb).alloc (.cells [Value.int .i64 0, .int .i64 0, .int .i64 2, .int .i64 st.2.f.id, .bool st.2.f.ext, .bool st.2.f.rtr, .int .i64 st.2.f.len, .int .u8 st.2.f.d0, .int .u8 st.2.f.d1, .int .u8 st.2.f.d2, .int .u8 st.2.f.d3, .int .u8 st.2.f.d4, .int .u8 st.2.f.d5, .int .u8 st.2.f.d6, .int .u8 st.2.f.d7].toArray 51))
           have OY := Ad (OZ.out.on CY.out)
           have BY := Ad (show w2.heap.size <= (wb.alloc (.cells [Value.int .i64 0, .int .i64 0, .int .i64 2, .int .i64 st.2.f.id, .bool st.2.f.ext, .bool st.2.f.rtr, .int .i64 st.2.f.len, .int .u8 st.2.f.d0, .int .u8 st.2.f.d1, .int .u8 st.2.f.d2, .int .u8 st.2.f.d3, .int .u8 st.2.f.d4, .int .u8 st.2.f.d5, .int .u8 st.2.f.d6, .int .u8 st.2.f.d7].toArray 51)).heap.size from (CZ.out.then CY.out).size)
           have EZ := Ad (show ∀ j v, ([Value.int .i64 0, .int .i64 0, .int .i64 2, .int .i64 st.2.f.id, .bool st.2.f.ext, .bool st.2.f.rtr, .int .i64 st.2.f.len, .int .u8 st.2.f.d0, .int .u8 st.2.f.d1, .int .u8 st.2.f.d2, .int .u8 st.2.f.d3, .int .u8 st.2.f.d4, .int .u8 st.2.f.d5, .int .u8 st.2.f.d6, .int .u8 st.2.f.d7] : List Value)[j]? = some v -> (Evv.enc (⟨0, 0, 2, st.2.f⟩ : Ev))[0 + j]? = some v from fun j v hv => by rwa [Nat.zero_add])
           go_wp2_with (first | refine wpList_load_Cs rfl 51 (.tmp 10) rfl 0 [Value.int .i64 0, .int .i64 0, .int .i64 2, .int .i64 st.2.f.id, .bool st.2.f.ext, .bool st.2.f.rtr, .int .i64 st.2.f.len, .int .u8 st.2.f.d0, .int .u8 st.2.f.d1, .int .u8 st.2.f.d2, .int .u8 st.2.f.d3, .int .u8 st.2.f.d4, .int .u8 st.2.f.d5, .int .u8 st.2.f.d6, .int .u8 st.2.f.d7] (by rfl) DZ.out EZ.out Tryz.underlying51 rfl size51 ?_ | (at_builtin; go_loud (refine wpList_append_Ow rfl (.tmp 48) (.tmp 50) 42 (by rfl) (by rfl) (some ⟨wb.heap.size, 0, none⟩) 1 1 [(⟨0, 0, 2, st.2.f⟩ : Ev)] (by rfl) (by rfl) HLK.out OY.out Y.out rfl (by show (k + 1) * 56 <= _; omega) BY.out ?_)))
           intro A4 c4 q4 w4 hO hC hq
           have O4 := Ad (show Ow Evv w4 w2.heap.size q4 A4 c4 (st.2.evs.take (k + 1)) from by rw [TK.out]; exact hO)
           have C4 := Ad ((CZ.out.then CY.out).trans hC (fun y hy => by rw [Option.mem_toList] at hy; exact .inr (OY.out.size y hy).1))
           clear hO hC hq Y OY BY EZ DZ OZ CZ CY TK O CR HLK
           go_wp2_with fail
           go_roundw
           case rel => exact ⟨k + 1, by omega, by go_num, ⟨A4, c4, q4, rfl, O4⟩, C4⟩
           case measure => simp [intOf]; omega
       · have EV := Ad (show Pl.ev st.2.f kd = ⟨0, 0, kd, Pl.Fr.zero⟩ by unfold Pl.ev; rw [if_neg hs])
         have b1 : (kd == 1) = false := by simp; omega
         have b2 : (kd == 2) = false := by simp; omega
         have DZ := Ad (show Cs wa wr.heap.size 51 (Evv.enc (⟨0, 0, kd, Pl.Fr.zero⟩ : Ev)) from DA.out)
         have OZ := OA
         have CZ := CA
         rw [EV.out] at TK
         clear TA OA DA EV hs
         have Y := Ad (Ow.lit Evv wa [(⟨0, 0, kd, Pl.Fr.zero⟩ : Ev)] [Value.int .i64 0, .int .i64 0, .int .i64 kd, .int .i64 Pl.Fr.zero.id, .bool Pl.Fr.zero.ext, .bool Pl.Fr.zero.rtr, .int .i64 Pl.Fr.zero.len, .int .u8 Pl.Fr.zero.d0, .int .u8 Pl.Fr.zero.d1, .int .u8 Pl.Fr.zero.d2, .int .u8 Pl.Fr.zero.d3, .int .u8 Pl.Fr.zero.d4, .int .u8 Pl.Fr.zero.d5, .int .u8 Pl.Fr.zero.d6, .int .u8 Pl.Fr.zero.d7].toArray (by rfl) (by decide : 1 <= maxLen)).rd
         have CY := Ad ((Ch.refl [] wa).alloc (.cells [Value.int .i64 0, .int .i64 0, .int .i64 kd, .int .i64 Pl.Fr.zero.id, .bool Pl.Fr.zero.ext, .bool Pl.Fr.zero.rtr, .int .i64 Pl.Fr.zero.len, .int .u8 Pl.Fr.zero.d0, .int .u8 Pl.Fr.zero.d1, .int .u8 Pl.Fr.zero.d2, .int .u8 Pl.Fr.zero.d3, .int .u8 Pl.Fr.zero.d4, .int .u8 Pl.Fr.zero.d5, .int .u8 Pl.Fr.zero.d6, .int .u8 Pl.Fr.zero.d7].toArray 51))
         have OY := Ad (OZ.out.on CY.out)
         have BY := Ad (show w2.heap.size <= (wa.alloc (.cells [Value.int .i64 0, .int .i64 0, .int .i64 kd, .int .i64 Pl.Fr.zero.id, .bool Pl.Fr.zero.ext, .bool Pl.Fr.zero.rtr, .int .i64 Pl.Fr.zero.len, .int .u8 Pl.Fr.zero.d0, .int .u8 Pl.Fr.zero.d1, .int .u8 Pl.Fr.zero.d2, .int .u8 Pl.Fr.zero.d3, .int .u8 Pl.Fr.zero.d4, .int .u8 Pl.Fr.zero.d5, .int .u8 Pl.Fr.zero.d6, .int .u8 Pl.Fr.zero.d7].toArray 51)).heap.size from (CZ.out.then CY.out).size)
         have EZ := Ad (show ∀ j v, ([Value.int .i64 0, .int .i64 0, .int .i64 kd, .int .i64 Pl.Fr.zero.id, .bool Pl.Fr.zero.ext, .bool Pl.Fr.zero.rtr, .int .i64 Pl.Fr.zero.len, .int .u8 Pl.Fr.zero.d0, .int .u8 Pl.Fr.zero.d1, .int .u8 Pl.Fr.zero.d2, .int .u8 Pl.Fr.zero.d3, .int .u8 Pl.Fr.zero.d4, .int .u8 Pl.Fr.zero.d5, .int .u8 Pl.Fr.zero.d6, .int .u8 Pl.Fr.zero.d7] : List Value)[j]? = some v -> (Evv.enc (⟨0, 0, kd, Pl.Fr.zero⟩ : Ev))[0 + j]? = some v from fun j v hv => by rwa [Nat.zero_add])
         go_wp2_with (first | refine wpList_load_Cs rfl 51 (.tmp 10) rfl 0 [Value.int .i64 0, .int .i64 0, .int .i64 kd, .int .i64 Pl.Fr.zero.id, .bool Pl.Fr.zero.ext, .bool Pl.Fr.zero.rtr, .int .i64 Pl.Fr.zero.len, .int .u8 Pl.Fr.zero.d0, .int .u8 Pl.Fr.zero.d1, .int .u8 Pl.Fr.zero.d2, .int .u8 Pl.Fr.zero.d3, .int .u8 Pl.Fr.zero.d4, .int .u8 Pl.Fr.zero.d5, .int .u8 Pl.Fr.zero.d6, .int .u8 Pl.Fr.zero.d7] (by rfl) DZ.out EZ.out Tryz.underlying51 rfl size51 ?_ | (at_builtin; go_loud (refine wpList_append_Ow rfl (.tmp 48) (.tmp 50) 42 (by rfl) (by rfl) (some ⟨wa.heap.size, 0, none⟩) 1 1 [(⟨0, 0, kd, Pl.Fr.zero⟩ : Ev)] (by rfl) (by rfl) HLK.out OY.out Y.out rfl (by show (k + 1) * 56 <= _; omega) BY.out ?_)))
         intro A4 c4 q4 w4 hO hC hq
         have O4 := Ad (show Ow Evv w4 w2.heap.size q4 A4 c4 (st.2.evs.take (k + 1)) from by rw [TK.out]; exact hO)
         have C4 := Ad ((CZ.out.then CY.out).trans hC (fun y hy => by rw [Option.mem_toList] at hy; exact .inr (OY.out.size y hy).1))
         clear hO hC hq Y OY BY EZ DZ OZ CZ CY TK O CR HLK
         go_wp2_with fail
         go_roundw
         case rel => exact ⟨k + 1, by omega, by go_num, ⟨A4, c4, q4, rfl, O4⟩, C4⟩
         case measure => simp [intOf]; omega
     · have hkn : k = n := by omega
       subst hkn
       have TKN := Ad (show st.2.evs.take k = st.2.evs by rw [List.take_of_length_le]; unfold Pl.Td.evs; rw [List.length_map, HNN.out]; exact Nat.le_refl _)
       clear hlt hk
       go_wp2_with fail
       refine bodyPost_ret (v := .tuple #[.slice A2 k c2, .int .i64 0]) (by simp [results, Tryz.f62, go_sem]) rfl ?_
       have hlen : k = st.2.evs.length := by unfold Pl.Td.evs; rw [List.length_map, HNN.out]
       have hO := O.out
       rw [TKN.out] at hO
       obtain ⟨hb9, L9, A9, c9, q9, h91, h92, h93, h94⟩ := H2.out.on CR.out
       have hC2 : Ch (L.fp g) w w2 := (C0.out.any (F := L.fp g)).trans S2.out.1 (fun y hy => by
         rw [List.mem_append] at hy
         rcases hy with hy | hy
         · exact .inl hy
         · simp at hy; exact .inr (by omega))
       refine ⟨⟨A2, c2, q2, k, rfl, hlen, hO.less hC2.size⟩, L9, h91, hC2.then (CR.out.any), ?_⟩
       intro y hy
       have hy2 : y ∈ F2 := by rw [h94]; simp [hy]
       rcases S2.out.2 y hy2 with h | h
       · rw [List.mem_append] at h
         rcases h with h | h
         · exact .inl h
         · simp at h; exact .inr (by omega)
       · exact .inr (Nat.le_trans C0.out.size h)
end
end
section
section
variable {b g : Nat} {L : Lay} {x : Pl.Nd} {w : World}
theorem NodeAt.queued (h : NodeAt w b g L x) {w' : World} {qq' : Option Nat} {l : List Pl.Fr} (hQ : Qu w' b L.gq qq' l) (hC : Ch (L.gq :: L.qq.toList) w w') : NodeAt w' b g { L with qq := qq' } { x with queue := l } := by
 have hf := h.qfree
 exact ⟨h.cs.keep hC (hf g (.inl rfl)), h.raw.keep hC (fun k hk => hf k (.inr (.inl hk))), h.row.keep hC (fun k hk => hf k (.inr (.inr hk))), hQ, h.apart, h.gb, h.qb, h.lv⟩
theorem nput_calls (f : Pl.Fr) (hf : f.wf) (h : NodeAt w b g L x) (hb : b <= w.heap.size) :
   Calls Tryz.prog 55 #[.pointer (some ⟨g, 0, none⟩), frv f] w fun e w' => (∃ z : Int, e = .returned (.int .i64 z)) /\ ∃ L', NodeAt w' b g L' { x with queue := Pl.pput f x.queue } /\ Ch (L.fp g) w w' /\ ∀ k, k ∈ L'.fp g -> k ∈ L.fp g ∨ w.heap.size <= k := by
 have D0 := Ad (Cs.new w (frc f) 49)
 have C0 := Ad ((Ch.refl [] w).alloc (.cells (frc f).toArray 49))
 obtain ⟨w0, hw0⟩ : ∃ w0, w.alloc (.cells (frc f).toArray 49) = w0 := ⟨_, rfl⟩
 rw [hw0] at C0 D0
 have h0 := h.on C0.out.drew
 have PC := Ad (put_calls' f hf w0.drew b L.gq L.qq x.queue h0.qu (Nat.le_trans hb C0.out.drew.size))
 have c3 : w0.cell? ⟨g, 3, none⟩ = some (.pointer (some ⟨L.gq, 0, none⟩)) := h0.cs.cell (by rfl)
 obtain ⟨b0, b1, b2, b3, b4, b5, b6, b7, b8, b9, b10, b11⟩ := cells12 (o := 0) (f := f) (fun j v hv => by rw [Nat.zero_add]; exact D0.out.cell hv)
 have hgl : g < w0.heap.size := h0.cs.lt
 have hbl := D0.out.lt
 have H0 := Ad h0
 simp only [frc] at hw0
 have HW := Ad hw0
 clear h h0 hw0 hf hb
 unfold frv at *
 go_enter Tryz.func55, Tryz.ntmps55
 go_wp2_with fail
 rw [HW.out]
 go_region_with ((go_at_call 77; refine PC.out.mono ?_; rintro e w1 ⟨z, rfl, q', hQ, hC, hq⟩))
 all_goals
   have Q1 := Ad hQ
   have C1 := Ad hC
   have HQ := Ad hq
   clear hQ hC hq PC b0 b1 b2 b3 b4 b5 b6 b7 b8 b9 b10 b11
   go_wp2_with fail
   go_ret
   refine ⟨⟨z, rfl⟩, { L with qq := q' }, H0.out.queued Q1.out C1.out, (C0.out.drew.any (F := L.fp g)).then (C1.out.sub (fun k hk => ?_)), fun k hk => ?_⟩
   · simp only [List.mem_cons, Option.mem_toList] at hk
     rcases hk with rfl | hk
     · simp [Lay.fp]
     · simp [Lay.fp, hk]
   · simp only [Lay.fp, List.mem_cons, List.mem_append, Option.mem_toList] at hk ⊢
     rcases hk with hk | hk | (hk | hk) | hk
     · simp [hk]
     · simp [hk]
     · simp [hk]
     · simp [hk]
     · rcases HQ.out with e | ⟨k', e, hk'⟩
       · left; right; right; right; rw [<- e]; exact hk
       · rw [e] at hk; cases hk; exact .inr (Nat.le_trans C0.out.drew.size hk')
theorem nnew_calls (w : World) :
   Calls Tryz.prog 53 #[] w fun e w' => ∃ g, e = .returned (.pointer (some ⟨g, 0, none⟩)) /\ ∃ L, NodeAt w' w.heap.size g L Pl.Nd.new /\ Ch [] w w' /\ ∀ k, k ∈ L.fp g -> w.heap.size <= k := by
 have QN := Ad (qnew_calls w)
 go_enter Tryz.func53, Tryz.ntmps53
 go_wp2_with fail
 refine QN.out.mono ?_
 rintro e w1 ⟨rfl, hQ, hC, hs⟩
 have Q1 := Ad hQ
 have C1 := Ad hC
 have S1 := Ad hs
 clear hQ hC hs QN
 go_wp2_with fail
 go_ret
 have hs := S1.out
 let L : Lay := ⟨none, 0, none, w.heap.size, none, none, 0, none⟩
 have hn : NodeAt (w1.alloc (.cells (ndc L Pl.Nd.new).toArray 166)) w.heap.size w1.heap.size L Pl.Nd.new :=
   ⟨Cs.new w1 _ 166, Ow.nil _ _ _, Ow.nil _ _ _, Q1.out.on ((Ch.refl [] w1).alloc _), (fun k hk => by cases hk), (by omega), Nat.le_refl _, (fun y hy => by simp [Pl.Nd.new] at hy)⟩
 refine ⟨w1.heap.size, rfl, L, hn, C1.out.alloc _, fun k hk => ?_⟩
 simp [Lay.fp, L] at hk
 rcases hk with rfl | rfl
 · omega
 · exact Nat.le_refl _
end
end
theorem nat_div_pow (m i : Nat) : ((m : Int) / 2 ^ i) = ((m / 2 ^ i : Nat) : Int) := by
 rw [show ((2 : Int) ^ i) = ((2 ^ i : Nat) : Int) by simp]
 exact (Int.natCast_ediv m (2 ^ i)).symm
theorem and_one (x : Nat) (h : x < 4294967296) : bits BinOp.and IntKind.u32 (x : Int) 1 = ((x % 2 : Nat) : Int) := by
 have := u32_and_nat x 1 h (by omega)
 rw [show ((1 : Nat) : Int) = 1 from rfl] at this
 rw [this, Nat.and_one_is_mod]
theorem has_calls (m i : Nat) (hm : m < 4294967296) (hi : i < 32) (w : World) :
   Calls Tryz.prog 61 #[.int .u32 m, .int .i64 i] w fun e w' => e = .returned (.bool (m.testBit i)) /\ w' = w := by
 have hlt : m / 2 ^ i < 4294967296 := Nat.lt_of_le_of_lt (Nat.div_le_self _ _) hm
 have e1 : (bits BinOp.and IntKind.u32 ((m : Int) / 2 ^ i) 1 == 1) = m.testBit i := by
   rw [nat_div_pow, and_one _ hlt, Nat.testBit_eq_decide_div_mod_eq]
   generalize m / 2 ^ i = y
   rcases Nat.mod_two_eq_zero_or_one y with h | h <;> rw [h] <;> rfl
 go_enter Tryz.func61, Tryz.ntmps61
 go_wp2_with fail
 go_ret
 refine ⟨?_, rfl⟩
 rw [<- e1]
 rfl
theorem look_calls (gB i n c : Nat) (A : Option Addr) (x : Value) (w : World) (h : Cs w gB 129 [.slice A n c, x]) (hi : i < n) (hn : n <= 32) :
   Calls Tryz.prog 54 #[.pointer (some ⟨gB, 0, none⟩), .int .i64 i] w fun e w' => e = .returned (.int .i64 0) /\ w' = w := by
 have c0 : w.cell? ⟨gB, 0, none⟩ = some (.slice A n c) := h.cell (by rfl)
 have hg := h.lt
 clear h
 go_enter Tryz.func54, Tryz.ntmps54
 go_wp2_with fail
 go_ret
 exact ⟨rfl, rfl⟩
def fps (ps : List (Nat × Lay)) : List Nat := ps.flatMap (fun p => p.2.fp p.1)
theorem mem_fps {ps : List (Nat × Lay)} {k : Nat} : k ∈ fps ps ↔ ∃ (i : Nat) (p : Nat × Lay), ps[i]? = some p /\ k ∈ p.2.fp p.1 := by
 unfold fps
 rw [List.mem_flatMap]
 constructor
 · rintro ⟨p, hp, hk⟩
   obtain ⟨i, hi, rfl⟩ := List.getElem_of_mem hp
   exact ⟨i, _, List.getElem?_eq_getElem hi, hk⟩
 · rintro ⟨i, p, hp, hk⟩
   exact ⟨p, List.mem_of_getElem? hp, hk⟩
structure Nodes (w : World) (b : Nat) (ps : List (Nat × Lay)) (xs : List Pl.Nd) : Prop where
 len : ps.length = xs.length
 at_ : ∀ (i : Nat) (p : Nat × Lay) (x : Pl.Nd), ps[i]? = some p -> xs[i]? = some x -> NodeAt w b p.1 p.2 x
 apart : ∀ (i j : Nat) (p r : Nat × Lay), i ≠ j -> ps[i]? = some p -> ps[j]? = some r -> ∀ k, k ∈ p.2.fp p.1 -> k ∉ r.2.fp r.1
 base : b <= w.heap.size
theorem NodeAt.fp_lt {w : World} {b g : Nat} {L : Lay} {x : Pl.Nd} (h : NodeAt w b g L x) : ∀ k, k ∈ L.fp g -> k < w.heap.size := by
 obtain ⟨⟨Aq, cq, hq1, hq2⟩, _⟩ := h.qu
 intro k hk
 simp only [Lay.fp, List.mem_cons, List.mem_append, Option.mem_toList] at hk
 rcases hk with rfl | rfl | (hk | hk) | hk
 · exact h.cs.lt
 · exact hq1.lt
 · exact (h.raw.size k hk).2
 · exact (h.row.size k hk).2
 · exact (hq2.size k hk).2
theorem Nodes.keep {w w' : World} {b : Nat} {ps : List (Nat × Lay)} {xs : List Pl.Nd} (h : Nodes w b ps xs) {G : List Nat} (hc : Ch G w w') (hG : ∀ k, k ∈ fps ps -> k ∉ G) : Nodes w' b ps xs :=
 ⟨h.len, fun i p x hp hx => (h.at_ i p x hp hx).keep hc (fun k hk => hG k (mem_fps.2 ⟨i, p, hp, hk⟩)), h.apart, Nat.le_trans h.base hc.size⟩
theorem Nodes.on {w w' : World} {b : Nat} {ps : List (Nat × Lay)} {xs : List Pl.Nd} (h : Nodes w b ps xs) (hc : Ch [] w w') : Nodes w' b ps xs := h.keep hc (by simp)
theorem Nodes.turn {w w' : World} {b : Nat} {ps : List (Nat × Lay)} {xs : List Pl.Nd} (h : Nodes w b ps xs) {i : Nat} {p : Nat × Lay} {x : Pl.Nd} (hp : ps[i]? = some p) (hx : xs[i]? = some x) {L' : Lay} {x' : Pl.Nd} (hn : NodeAt w' b p.1 L' x') (hc : Ch (p.2.fp p.1) w w') (hk : ∀ k, k ∈ L'.fp p.1 -> k ∈ p.2.fp p.1 ∨ w.heap.size <= k) :
   Nodes w' b (ps.set i (p.1, L')) (xs.set i x') /\ St (fps ps) w w' (fps (ps.set i (p.1, L'))) := by
 have hi : i < ps.length := (List.getElem?_eq_some_iff.1 hp).1
 have hget : ∀ (j : Nat) (r : Nat × Lay), (ps.set i (p.1, L'))[j]? = some r -> (j = i /\ r = (p.1, L')) ∨ (j ≠ i /\ ps[j]? = some r) := by
   intro j r hr
   by_cases e : i = j
   · subst e
     rw [List.getElem?_set_self hi] at hr
     exact .inl ⟨rfl, (Option.some.inj hr).symm⟩
   · rw [List.getElem?_set_ne e] at hr
     exact .inr ⟨fun e2 => e e2.symm, hr⟩
 refine ⟨⟨by rw [List.length_set, List.length_set]; exact h.len, ?_, ?_, Nat.le_trans h.base hc.size⟩, ⟨hc.sub (fun k hk => mem_fps.2 ⟨i, p, hp, hk⟩), ?_⟩⟩
 · intro j r y hr hy
   rcases hget j r hr with ⟨rfl, rfl⟩ | ⟨hj, hr⟩
   · rw [List.getElem?_set_self (by rw [<- h.len]; exact hi)] at hy
     cases hy
     exact hn
   · rw [List.getElem?_set_ne (fun e => hj e.symm)] at hy
     exact (h.at_ j r y hr hy).keep hc (fun k hk => h.apart j i r p hj hr hp k hk)
 · intro j l r s hjl hr hs k hkr hks
   have old : ∀ (m : Nat) (q : Nat × Lay), ps[m]? = some q -> k ∈ q.2.fp q.1 -> k < w.heap.size := fun m q hq hkq => by
     have hm : m < xs.length := by rw [<- h.len]; exact (List.getElem?_eq_some_iff.1 hq).1
     exact (h.at_ m q _ hq (List.getElem?_eq_getElem hm)).fp_lt k hkq
   rcases hget j r hr with ⟨rfl, rfl⟩ | ⟨hj, hr'⟩
   · rcases hget l s hs with ⟨rfl, rfl⟩ | ⟨hl, hs⟩
     · exact hjl rfl
     · rcases hk k hkr with h1 | h1
       · exact h.apart _ l p s hjl hp hs k h1 hks
       · have := old l s hs hks; omega
   · rcases hget l s hs with ⟨rfl, rfl⟩ | ⟨hl, hs⟩
     · rcases hk k hks with h1 | h1
       · exact h.apart j _ r p hjl hr' hp k hkr h1
       · have := old j r hr' hkr; omega
     · exact h.apart j l r s hjl hr' hs k hkr hks
 · intro k hk2
   obtain ⟨j, r, hr, hk3⟩ := mem_fps.1 hk2
   rcases hget j r hr with ⟨rfl, rfl⟩ | ⟨hj, hr⟩
   · rcases hk k hk3 with h1 | h1
     · exact .inl (mem_fps.2 ⟨_, p, hp, h1⟩)
     · exact .inr h1
   · exact .inl (mem_fps.2 ⟨j, r, hr, hk3⟩)
section
theorem NodeAt.kinds {w : World} {b g : Nat} {L : Lay} {x : Pl.Nd} (h : NodeAt w b g L x) : ∀ k, k ∈ L.fp g -> ∃ cur T, w.heap[k]? = some (.cells cur T (0, 0)) /\ T ≠ 129 /\ T ≠ 130 /\ T ≠ 51 /\ T ≠ 93 := by
 obtain ⟨⟨Aq, cq, hq1, hq2⟩, _⟩ := h.qu
 intro k hk
 simp only [Lay.fp, List.mem_cons, List.mem_append, Option.mem_toList] at hk
 rcases hk with rfl | rfl | (hk | hk) | hk
 · exact ⟨_, _, h.cs, by decide, by decide, by decide, by decide⟩
 · exact ⟨_, _, hq1, by decide, by decide, by decide, by decide⟩
 · have := h.raw
   rw [hk] at this
   obtain ⟨cur, hc⟩ := this.blk
   exact ⟨_, _, hc, by decide, by decide, by decide, by decide⟩
 · have := h.row
   rw [hk] at this
   obtain ⟨cur, hc⟩ := this.blk
   exact ⟨_, _, hc, by decide, by decide, by decide, by decide⟩
 · rw [hk] at hq2
   obtain ⟨cur, hc⟩ := hq2.blk
   exact ⟨_, _, hc, by decide, by decide, by decide, by decide⟩
structure BusAt (w : World) (b gB : Nat) (A : Option Addr) (c : Nat) (q : Option Nat) (ps : List (Nat × Lay)) (xs : List Pl.Nd) (tick : Int) : Prop where
 cs : Cs w gB 129 [.slice A xs.length c, .int .i64 tick]
 ow : Ow Pv w b q A c (ps.map (·.1))
 ns : Nodes w b ps xs
 gb : b <= gB
def bfp (gB : Nat) (q : Option Nat) (ps : List (Nat × Lay)) : List Nat := gB :: (q.toList ++ fps ps)
section
variable {w w' : World} {b gB c : Nat} {A : Option Addr} {q : Option Nat} {ps : List (Nat × Lay)} {xs : List Pl.Nd} {tick : Int}
theorem BusAt.keep (h : BusAt w b gB A c q ps xs tick) {G : List Nat} (hc : Ch G w w') (hG : ∀ k, k ∈ bfp gB q ps -> k ∉ G) : BusAt w' b gB A c q ps xs tick :=
 ⟨h.cs.keep hc (hG _ (by simp [bfp])), h.ow.keep hc (fun k hk => hG k (by simp [bfp, hk])), h.ns.keep hc (fun k hk => hG k (by simp [bfp, hk])), h.gb⟩
theorem BusAt.on (h : BusAt w b gB A c q ps xs tick) (hc : Ch [] w w') : BusAt w' b gB A c q ps xs tick := h.keep hc (by simp)
theorem BusAt.free (h : BusAt w b gB A c q ps xs tick) : ∀ k, k ∈ fps ps -> k ≠ gB /\ q ≠ some k := by
 intro k hk
 obtain ⟨i, p, hp, hk2⟩ := mem_fps.1 hk
 have hi : i < xs.length := by rw [<- h.ns.len]; exact (List.getElem?_eq_some_iff.1 hp).1
 obtain ⟨cur, T, hb, h1, h2, _⟩ := (h.ns.at_ i p _ hp (List.getElem?_eq_getElem hi)).kinds k hk2
 refine ⟨fun e => ?_, fun e => ?_⟩
 · subst e; exact blk_ne hb h.cs h1 rfl
 · have := h.ow
   rw [e] at this
   obtain ⟨cur', hc⟩ := this.blk
   exact blk_ne hb hc h2 rfl
theorem BusAt.turn (h : BusAt w b gB A c q ps xs tick) {i : Nat} {p : Nat × Lay} {x : Pl.Nd} (hp : ps[i]? = some p) (hx : xs[i]? = some x) {L' : Lay} {x' : Pl.Nd} (hn : NodeAt w' b p.1 L' x') (hc : Ch (p.2.fp p.1) w w') (hk : ∀ k, k ∈ L'.fp p.1 -> k ∈ p.2.fp p.1 ∨ w.heap.size <= k) :
   BusAt w' b gB A c q (ps.set i (p.1, L')) (xs.set i x') tick /\ St (bfp gB q ps) w w' (bfp gB q (ps.set i (p.1, L'))) := by
 obtain ⟨h1, h2⟩ := h.ns.turn hp hx hn hc hk
 have hin : ∀ k, k ∈ p.2.fp p.1 -> k ∈ fps ps := fun k hk => mem_fps.2 ⟨i, p, hp, hk⟩
 refine ⟨⟨by rw [List.length_set]; exact h.cs.keep hc (fun hm => (h.free _ (hin _ hm)).1 rfl), ?_, h1, h.gb⟩, ⟨h2.1.sub (fun k hk => by simp [bfp, hk]), fun k hk => ?_⟩⟩
 · rw [List.map_set]
   have e : (ps.map (·.1)).set i (p.1, L').1 = ps.map (·.1) := by
     apply List.ext_getElem?
     intro j
     rw [List.getElem?_set]
     split
     · rename_i e; subst e
       split
       · rw [List.getElem?_map, hp]; rfl
       · rename_i h9; rw [List.getElem?_eq_none (by omega)]
     · rfl
   rw [e]
   exact h.ow.keep hc (fun k hk hm => (h.free _ (hin _ hm)).2 hk)
 · simp only [bfp, List.mem_cons, List.mem_append] at hk ⊢
   rcases hk with hk | hk | hk
   · exact .inl (.inl hk)
   · exact .inl (.inr (.inl hk))
   · rcases h2.2 k hk with h3 | h3
     · exact .inl (.inr (.inr h3))
     · exact .inr h3
theorem Ow.ptr (h : Ow Pv w b q A c (ps.map (·.1))) {i : Nat} {p : Nat × Lay} (hp : ps[i]? = some p) : ∃ g2 o2, A = some ⟨g2, o2, none⟩ /\ w.cell? ⟨g2, o2 + i, none⟩ = some (.pointer (some ⟨p.1, 0, none⟩)) := by
 obtain ⟨g2, o2, e, hc⟩ := h.rd.cells (k := i) (x := p.1) (by rw [List.getElem?_map, hp]; rfl)
 refine ⟨g2, o2, e, ?_⟩
 have := hc 0 _ rfl
 rwa [show o2 + i * Pv.sz + 0 = o2 + i by simp [Pv]] at this
theorem bput_calls (f : Pl.Fr) (hf : f.wf) (i : Nat) (x : Pl.Nd) (h : BusAt w b gB A c q ps xs tick) (hx : xs[i]? = some x) (hn : xs.length <= 32) :
   Calls Tryz.prog 32 #[.pointer (some ⟨gB, 0, none⟩), .int .i64 i, frv f] w fun e w' => (∃ z : Int, e = .returned (.int .i64 z)) /\ ∃ ps', BusAt w' b gB A c q ps' (xs.set i { x with queue := Pl.pput f x.queue }) tick /\ St (bfp gB q ps) w w' (bfp gB q ps') := by
 have hi : i < xs.length := (List.getElem?_eq_some_iff.1 hx).1
 obtain ⟨p, hp⟩ : ∃ p, ps[i]? = some p := ⟨_, List.getElem?_eq_getElem (by rw [h.ns.len]; exact hi)⟩
 have D0 := Ad (Cs.new w (frc f) 49)
 have C0 := Ad ((Ch.refl [] w).alloc (.cells (frc f).toArray 49))
 obtain ⟨w0, hw0⟩ : ∃ w0, w.alloc (.cells (frc f).toArray 49) = w0 := ⟨_, rfl⟩
 rw [hw0] at C0 D0
 have h0 := h.on C0.out
 obtain ⟨n, hnn⟩ : ∃ n, xs.length = n := ⟨_, rfl⟩
 have LC := Ad (look_calls gB i n c A _ w0 (by rw [<- hnn]; exact h0.cs) (by rw [<- hnn]; exact hi) (by rw [<- hnn]; exact hn))
 have c0 : w0.cell? ⟨gB, 0, none⟩ = some (.slice A n c) := by rw [<- hnn]; exact h0.cs.cell (by rfl)
 obtain ⟨g2, o2, rfl, cp⟩ := h0.ow.ptr hp
 obtain ⟨b0, b1, b2, b3, b4, b5, b6, b7, b8, b9, b10, b11⟩ := cells12 (o := 0) (f := f) (fun j v hv => by rw [Nat.zero_add]; exact D0.out.cell hv)
 have hgl : gB < w0.heap.size := h0.cs.lt
 have hbl := D0.out.lt
 have NP := Ad (nput_calls f hf ((h0.on (Ch.refl [] w0).drew).ns.at_ i p x hp hx) (h0.on (Ch.refl [] w0).drew).ns.base)
 have H0 := Ad (h0.on (Ch.refl [] w0).drew)
 have k0 : (0 : Int) <= (i : Int) := by omega
 have k1 : (i : Int) < (n : Int) := by omega
 have HP := Ad hp
 have HX := Ad hx
 simp only [frc] at hw0
 have HW := Ad hw0
 clear h h0 hw0 hf hx hp hnn hi hn
 unfold frv at *
 go_enter Tryz.func32, Tryz.ntmps32
 go_wp2_with fail
 rw [HW.out]
 refine LC.out.mono ?_
 rintro e w9 ⟨rfl, hw9⟩
 rw [hw9]
 clear hw9 w9
 go_wp2_with fail
 go_region_with ((go_at_call 55; refine NP.out.mono ?_; rintro e w1 ⟨⟨z, rfl⟩, L', h1, h2, h3⟩))
 all_goals
   have H1 := Ad h1
   have H2 := Ad h2
   have H3 := Ad h3
   clear h1 h2 h3 NP LC b0 b1 b2 b3 b4 b5 b6 b7 b8 b9 b10 b11
   go_wp2_with fail
   go_ret
   obtain ⟨r1, r2⟩ := H0.out.turn HP.out HX.out H1.out H2.out H3.out
   exact ⟨⟨z, rfl⟩, _, r1, (St.of C0.out.drew).trans r2⟩
end
end
section
section
variable {w w' : World} {b gB c : Nat} {A : Option Addr} {q : Option Nat} {ps : List (Nat × Lay)} {xs : List Pl.Nd} {tick : Int}
theorem Qu.less {g b' : Nat} {l : List Pl.Fr} (h : Qu w b g q l) (hb : b' <= b) : Qu w b' g q l := by
 obtain ⟨⟨A, c, h1, h2⟩, h3, h4⟩ := h
 exact ⟨⟨A, c, h1, h2.less hb⟩, h3, h4⟩
theorem NodeAt.less {g b' : Nat} {L : Lay} {x : Pl.Nd} (h : NodeAt w b g L x) (hb : b' <= b) : NodeAt w b' g L x :=
 ⟨h.cs, h.raw.less hb, h.row.less hb, h.qu.less hb, h.apart, Nat.le_trans hb h.gb, Nat.le_trans hb h.qb, h.lv⟩
theorem Nodes.push (h : Nodes w b ps xs) {w1 : World} (hC : Ch [] w w1) {g : Nat} {L : Lay} {x : Pl.Nd} (hn : NodeAt w1 w.heap.size g L x) (hk : ∀ k, k ∈ L.fp g -> w.heap.size <= k) : Nodes w1 b (ps ++ [(g, L)]) (xs ++ [x]) := by
 have h1 := h.on hC
 have hget : ∀ (j : Nat) (r : Nat × Lay), (ps ++ [(g, L)])[j]? = some r -> ps[j]? = some r ∨ (j = ps.length /\ r = (g, L)) := by
   intro j r hr
   by_cases hj : j < ps.length
   · rw [List.getElem?_append_left hj] at hr; exact .inl hr
   · rw [List.getElem?_append_right (by omega)] at hr
     have hj2 := (List.getElem?_eq_some_iff.1 hr).1
     simp at hj2
     have e : j - ps.length = 0 := by omega
     rw [e] at hr
     simp at hr
     exact .inr ⟨by omega, hr.symm⟩
 have old : ∀ (m : Nat) (r : Nat × Lay), ps[m]? = some r -> ∀ k, k ∈ r.2.fp r.1 -> k < w.heap.size := fun m r hr k hkr => by
   have hm : m < xs.length := by rw [<- h.len]; exact (List.getElem?_eq_some_iff.1 hr).1
   exact (h.at_ m r _ hr (List.getElem?_eq_getElem hm)).fp_lt k hkr
 refine ⟨by simp [h.len], ?_, ?_, Nat.le_trans h.base hC.size⟩
 · intro i p y hp hy
   rcases hget i p hp with hp' | ⟨rfl, rfl⟩
   · have hi : i < xs.length := by rw [<- h.len]; exact (List.getElem?_eq_some_iff.1 hp').1
     rw [List.getElem?_append_left hi] at hy
     exact h1.at_ i p y hp' hy
   · rw [h.len, List.getElem?_append_right (Nat.le_refl _), Nat.sub_self] at hy
     simp at hy
     subst hy
     exact hn.less h.base
 · intro i j p r hij hp hr k hkp hkr
   rcases hget i p hp with hp' | ⟨hi, rfl⟩
   · rcases hget j r hr with hr' | ⟨hj, rfl⟩
     · exact h.apart i j p r hij hp' hr' k hkp hkr
     · have := old i p hp' k hkp
       have := hk k hkr
       omega
   · rcases hget j r hr with hr' | ⟨hj, rfl⟩
     · have := old j r hr' k hkr
       have := hk k hkp
       omega
     · omega
theorem BusAt.push (h : BusAt w b gB A c q ps xs tick) {w1 w2 : World} (hC : Ch [] w w1) {g : Nat} {L : Lay} {x : Pl.Nd} (hn : NodeAt w1 w.heap.size g L x) (hk : ∀ k, k ∈ L.fp g -> w.heap.size <= k) {A' : Option Addr} {c' : Nat} {q' : Option Nat} (hO : Ow Pv w2 b q' A' c' (ps.map (·.1) ++ [g])) (hC2 : Ch q.toList w1 w2) :
   (∃ cs, Cs w2 gB 129 cs /\ 0 < cs.length) /\ BusAt (w2.setCell ⟨gB, 0, none⟩ (.slice A' (xs.length + 1) c')) b gB A' c' q' (ps ++ [(g, L)]) (xs ++ [x]) tick := by
 have hf := h.free
 have k1 := h.ns.push hC hn hk
 have hgq : gB ∉ q.toList := fun hm => by
   rw [Option.mem_toList] at hm
   have := h.ow
   rw [hm] at this
   obtain ⟨cur, hc⟩ := this.blk
   exact blk_ne h.cs hc (by decide) rfl
 have kcs := (h.cs.on hC).keep hC2 hgq
 have hql : ∀ k, q = some k -> k < w.heap.size := fun k hk => (h.ow.size k hk).2
 have hgl := h.cs.lt
 have hfp : ∀ k, k ∈ fps (ps ++ [(g, L)]) -> k ∉ q.toList /\ k ≠ gB := by
   intro k hk3
   have hk4 : k ∈ fps ps ∨ k ∈ L.fp g := by simpa [fps] using hk3
   rcases hk4 with h5 | h5
   · exact ⟨fun hm => (hf k h5).2 (by rw [Option.mem_toList] at hm; exact hm), (hf k h5).1⟩
   · have := hk k h5
     exact ⟨fun hm => by rw [Option.mem_toList] at hm; have := hql k hm; omega, by omega⟩
 have k2 := k1.keep hC2 (fun k hk3 => (hfp k hk3).1)
 have hs : Ch [gB] w2 (w2.setCell ⟨gB, 0, none⟩ (.slice A' (xs.length + 1) c')) := (Ch.refl [gB] w2).set _ _ (.inl (by simp))
 refine ⟨⟨_, kcs, by simp⟩, ⟨?_, ?_, k2.keep hs (fun k hk3 => by simpa using (hfp k hk3).2), h.gb⟩⟩
 · have := kcs.set 0 (.slice A' (xs.length + 1) c')
   rw [List.length_append]
   exact this
 · rw [List.map_append]
   exact hO.keep hs (fun k hk3 => by
     simp only [List.mem_cons, List.not_mem_nil, or_false]
     rintro rfl
     rw [hk3] at hO
     obtain ⟨cur, hc⟩ := hO.blk
     exact blk_ne kcs hc (by decide) rfl)
end
end
theorem NodeAt.fp_ge {w : World} {b g : Nat} {L : Lay} {x : Pl.Nd} (h : NodeAt w b g L x) : ∀ k, k ∈ L.fp g -> b <= k := by
 obtain ⟨⟨Aq, cq, hq1, hq2⟩, _⟩ := h.qu
 intro k hk
 simp only [Lay.fp, List.mem_cons, List.mem_append, Option.mem_toList] at hk
 rcases hk with rfl | rfl | (hk | hk) | hk
 · exact h.gb
 · exact h.qb
 · exact (h.raw.size k hk).1
 · exact (h.row.size k hk).1
 · exact (hq2.size k hk).1
theorem BusAt.fp_ge {w : World} {b gB c : Nat} {A : Option Addr} {q : Option Nat} {ps : List (Nat × Lay)} {xs : List Pl.Nd} {tick : Int} (h : BusAt w b gB A c q ps xs tick) : ∀ k, k ∈ bfp gB q ps -> b <= k := by
 intro k hk
 simp only [bfp, List.mem_cons, List.mem_append, Option.mem_toList] at hk
 rcases hk with rfl | hk | hk
 · exact h.gb
 · exact (h.ow.size k hk).1
 · obtain ⟨i, p, hp, hk2⟩ := mem_fps.1 hk
   have hi : i < xs.length := by rw [<- h.ns.len]; exact (List.getElem?_eq_some_iff.1 hp).1
   exact (h.ns.at_ i p _ hp (List.getElem?_eq_getElem hi)).fp_ge k hk2
set_option maxRecDepth 100000 in
theorem bnew_calls (w : World) (n : Nat) (h1 : 1 <= n) (h2 : n <= 32) :
   Calls Tryz.prog 31 #[.int .i64 n] w fun e w' => ∃ gB A c q ps, e = .returned (.tuple #[.pointer (some ⟨gB, 0, none⟩), .int .i64 0]) /\ BusAt w' w.heap.size gB A c q ps (List.replicate n Pl.Nd.new) 0 /\ Ch [] w w' /\ ∀ k, k ∈ bfp gB q ps -> w.heap.size <= k := by
 go_enter Tryz.func31, Tryz.ntmps31
 go_wp2_with fail
 go_loopw [14] (fun i wr => ∃ k : Nat, k <= n /\ i = .int .i64 k /\ (∃ A c q ps, Aside0 (BusAt wr w.heap.size w.heap.size A c q ps (List.replicate k Pl.Nd.new) 0)) /\ Aside0 (Ch [] w wr)) (fun i _ => n - (intOf i).toNat)
 case atStart =>
   refine ⟨0, by omega, rfl, ⟨none, 0, none, [], ⟨⟨Cs.new w [.slice none 0 0, .int .i64 0] 129, Ow.nil _ _ _, ⟨rfl, by simp, by simp, by simp⟩, Nat.le_refl _⟩⟩⟩, ⟨(Ch.refl _ _).alloc _⟩⟩
 case round =>
   obtain ⟨k, hk, rfl, ⟨A, c, q, ps, HB⟩, HC⟩ := hrel
   by_cases hlt : k < n
   · have hb := HB.out
     have hrep : (List.replicate k Pl.Nd.new).length = k := by simp
     have c0 : wr.cell? ⟨w.heap.size, 0, none⟩ = some (.slice A k c) := by
       have := hb.cs.cell (j := 0) (v := .slice A (List.replicate k Pl.Nd.new).length c) (by rfl)
       rwa [hrep] at this
     have hgl := hb.cs.lt
     have HL := Ad (show (ps.map (·.1)).length = k by rw [List.length_map, hb.ns.len, hrep])
     have NN : Aside0 (Calls Tryz.prog 53 #[] wr.drew (fun e w1 => ∃ g, e = .returned (.pointer (some ⟨g, 0, none⟩)) /\ w1.cell? ⟨w.heap.size, 0, none⟩ = some (.slice A k c) /\ w.heap.size < w1.heap.size /\ Aside0 (∃ L, NodeAt w1 wr.heap.size g L Pl.Nd.new /\ Ch [] wr w1 /\ ∀ y, y ∈ L.fp g -> wr.heap.size <= y))) := ⟨(nnew_calls wr.drew).mono (by
       rintro e w1 ⟨g, rfl, L, h3, h4, h5⟩
       have hc := ((Ch.refl [] wr).drew).then h4
       exact ⟨g, rfl, hc.cell c0 (by simp), Nat.lt_of_lt_of_le hgl hc.size, ⟨L, h3, hc, h5⟩⟩)⟩
     clear hb
     go_wp2_with fail
     go_region_law ((first
       | (go_simp; go_at_call 53; refine NN.out.mono ?_; rintro e w1 ⟨g, rfl, d0, hgl1, hX⟩)
       | (refine step_append_Ow (by rfl) (.tmp 20) (.tmp 22) 127 (by rfl) (by rfl) (some ⟨w1.heap.size, 0, none⟩) 1 1 [g] (by rfl) (by rfl) HL.out (HB.out.ow.on (hX.out.choose_spec.2.1.alloc _)) (Ow.lit Pv w1 [g] #[.pointer (some ⟨g, 0, none⟩)] (by rfl) (by decide : 1 <= maxLen)).rd rfl (by show (k + 1) * 8 <= _; omega) (Nat.le_trans HB.out.ns.base (hX.out.choose_spec.2.1.alloc _).size) ?_
          intro A' c' q' w2 hO hC2 hq
          have hB2 := HB.out.push (hX.out.choose_spec.2.1.alloc (.cells #[.pointer (some ⟨g, 0, none⟩)] 130)) (hX.out.choose_spec.1.on ((Ch.refl [] w1).alloc (.cells #[.pointer (some ⟨g, 0, none⟩)] 130))) hX.out.choose_spec.2.2 hO hC2
          obtain ⟨⟨cs, hcs, hcl⟩, hB3⟩ := hB2
          have e0 : w2.cell? ⟨w.heap.size, 0, none⟩ = some (cs[0]'hcl) := hcs.cell (List.getElem?_eq_getElem hcl)
          have f0 := hcs.free 0
          have B3 := Ad hB3
          have C3 := Ad hC2
          have Q3 := Ad hq
          clear hO hC2 hq hB3 hcs)
       | fail))
     all_goals
       obtain ⟨wz, hwz⟩ : ∃ wz, w2.setCell ⟨w.heap.size, 0, none⟩ (.slice A' (k + 1) c') = wz := ⟨_, rfl⟩
       obtain ⟨ps4, hB4⟩ : ∃ ps4, BusAt wz w.heap.size w.heap.size A' c' q' ps4 (List.replicate (k + 1) Pl.Nd.new) 0 := ⟨_, by
         have := B3.out
         rw [hrep, hwz] at this
         rw [List.replicate_succ']
         exact this⟩
       have B4 := Ad hB4
       have C4 := Ad (show Ch [] w wz from hwz ▸ (((HC.out.then (hX.out.choose_spec.2.1.alloc (.cells #[.pointer (some ⟨g, 0, none⟩)] 130))).trans C3.out (fun y hy => by rw [Option.mem_toList] at hy; exact .inr (HB.out.ow.size y hy).1)).set _ _ (.inr (Nat.le_refl _))))
       rw [hwz]
       clear hB4 B3 C3 Q3 hwz e0 f0 d0 hgl1 hX NN HB HC c0 hgl HL
       go_wp2_with fail
       go_roundw
       case rel => exact ⟨k + 1, by omega, by go_num, ⟨A', c', q', _, B4⟩, C4⟩
       case measure => simp [intOf]; omega
   · have hkn : k = n := by omega
     subst hkn
     clear hlt hk
     go_wp2_with fail
     refine bodyPost_ret (v := .tuple #[.pointer (some ⟨w.heap.size, 0, none⟩), .int .i64 0]) (by simp [results, Tryz.f31, go_sem]) rfl ?_
     exact ⟨w.heap.size, A, c, q, ps, rfl, HB.out, HC.out, HB.out.fp_ge⟩
def Pl.bjoin (l : List Run) (r : Run) : List Run :=
 match l.getLast? with
 | some y => if y.bus = r.bus /\ y.drv = r.drv then l.set (l.length - 1) { y with n := y.n + r.n } else l ++ [r]
 | none => l ++ [r]
def rnc (r : Run) : List Value := [.int .i64 r.n, .int .i64 r.bus, .int .u32 r.drv]
set_option maxRecDepth 100000 in
theorem join_calls (A : Option Addr) (b c n : Nat) (q : Option Nat) (l : List Run) (hn : l.length = n) (hn1 : n <= 10000000) (r : Run) (w : World) (h : Ow Rv w b q A c l) (hb : b <= w.heap.size) (hs : ∀ y, l.getLast? = some y -> 0 <= y.n /\ y.n <= 1000000000 /\ 0 <= r.n /\ r.n <= 1000000000) :
   Calls Tryz.prog 34 #[.slice A n c, .agg #[.int .i64 r.n, .int .i64 r.bus, .int .u32 r.drv]] w fun e w' => ∃ A' c' q', e = .returned (.slice A' (Pl.bjoin l r).length c') /\ Ow Rv w' b q' A' c' (Pl.bjoin l r) /\ Ch q.toList w w' /\ (q' = q ∨ ∃ k, q' = some k /\ w.heap.size <= k) := by
 have D0 := Cs.new w (rnc r) 93
 have C0 := Ad ((Ch.refl [] w).alloc (.cells (rnc r).toArray 93))
 obtain ⟨w0, hw0⟩ : ∃ w0, w.alloc (.cells (rnc r).toArray 93) = w0 := ⟨_, rfl⟩
 rw [hw0] at C0 D0
 have x0 : w0.cell? ⟨w.heap.size, 0, none⟩ = some (.int .i64 r.n) := D0.cell (by rfl)
 have x1 : w0.cell? ⟨w.heap.size, 1, none⟩ = some (.int .i64 r.bus) := D0.cell (by rfl)
 have x2 : w0.cell? ⟨w.heap.size, 2, none⟩ = some (.int .u32 r.drv) := D0.cell (by rfl)
 have hbl := D0.lt
 have DD := Ad D0
 have H0 := Ad (h.on C0.out)
 have HN := Ad hn
 have HB := Ad hb
 simp only [rnc] at hw0
 have HW := Ad hw0
 cases hl : l.getLast? with
 | none =>
   have hnil : l = [] := by simpa using hl
   have hn0 : n = 0 := by rw [<- hn, hnil]; rfl
   have BJ := Ad (show Pl.bjoin l r = l ++ [r] by unfold Pl.bjoin; rw [hl])
   subst hn0
   clear h hb hn hs hw0 hl D0 hnil
   go_enter Tryz.func34, Tryz.ntmps34
   go_wp2_with fail
   rw [HW.out]
   go_quiet (fail)
   obtain ⟨wd, hwd⟩ : ∃ wd, w0.drewN nq = wd := ⟨_, rfl⟩
   have CD := Ad (show Ch [] w0 wd from hwd ▸ (Ch.refl [] w0).drewN _)
   have y0 := CD.out.cell x0 (by simp)
   have y1 := CD.out.cell x1 (by simp)
   have y2 := CD.out.cell x2 (by simp)
   have OW := Ad ((H0.out.on CD.out).on ((Ch.refl [] wd).alloc (.cells #[.int .i64 r.n, .int .i64 r.bus, .int .u32 r.drv] 93)))
   have YW := Ad (Ow.lit Rv wd [r] #[.int .i64 r.n, .int .i64 r.bus, .int .u32 r.drv] (by rfl) (by decide : 1 <= maxLen)).rd
   have BW := Ad (show b <= (wd.alloc (.cells #[.int .i64 r.n, .int .i64 r.bus, .int .u32 r.drv] 93)).heap.size from Nat.le_trans HB.out ((C0.out.then CD.out).alloc _).size)
   rw [hwd]
   clear hwd
   go_wp2_with (at_builtin; refine wpList_append_Ow rfl (.tmp 44) (.tmp 46) 39 (by rfl) (by rfl) (some ⟨wd.heap.size, 0, none⟩) 1 1 [r] (by rfl) (by rfl) HN.out OW.out YW.out rfl (by show (0 + 1) * 24 <= _; omega) BW.out ?_)
   intro A' c' q' w4 hO hC hq
   have O4 := Ad hO
   have C4 := Ad (((C0.out.then CD.out).alloc (.cells #[.int .i64 r.n, .int .i64 r.bus, .int .u32 r.drv] 93)).any.then hC)
   have Q4 := Ad (show q' = q ∨ ∃ k, q' = some k /\ w.heap.size <= k from by
     rcases hq with e | e
     · exact .inl e
     · exact .inr ⟨_, e, by have := (C0.out.then CD.out).size; omega⟩)
   clear hO hC hq OW YW BW
   go_wp2_with fail
   go_ret
   rw [BJ.out]
   refine ⟨A', c', q', ?_, O4.out, C4.out, Q4.out⟩
   rw [List.length_append, HN.out]
   rfl
 | some y =>
   obtain ⟨m, rfl⟩ : ∃ m, n = m + 1 := ⟨n - 1, by
     have : l ≠ [] := by intro e; rw [e] at hl; simp at hl
     have := List.length_pos_iff.2 this
     omega⟩
   have hy : l[m]? = some y := by rw [List.getLast?_eq_getElem?, hn] at hl; exact hl
   obtain ⟨s1, s2, s3, s4⟩ := hs y hl
   rcases H0.out.addr with ⟨_, _, _, e⟩ | ⟨g, rfl, rfl⟩
   · rw [e] at hl; simp at hl
   have cc0 := (H0.out.cell hy rfl 0 (.int .i64 y.n) rfl)
   have cc1 := (H0.out.cell hy rfl 1 (.int .i64 y.bus) rfl)
   have cc2 := (H0.out.cell hy rfl 2 (.int .u32 y.drv) rfl)
   have d0 : w0.cell? ⟨g, m * 3, none⟩ = some (.int .i64 y.n) := cc0.1
   have d1 : w0.cell? ⟨g, m * 3 + 1, none⟩ = some (.int .i64 y.bus) := cc1.1
   have d2 : w0.cell? ⟨g, m * 3 + 2, none⟩ = some (.int .u32 y.drv) := cc2.1
   have f0 : w0.frozen? ⟨g, m * 3, none⟩ = false := cc0.2
   have HY := Ad hy
   have BJ0 := Ad (show Pl.bjoin l r = if y.bus = r.bus /\ y.drv = r.drv then l.set m { y with n := y.n + r.n } else l ++ [r] by unfold Pl.bjoin; rw [hl]; simp only []; rw [hn]; rfl)
   have k0 : (0 : Int) <= (m : Int) := by omega
   have wr1 : IntKind.i64.wrap (y.n + r.n) = y.n + r.n := by rw [IntKind.wrap_i64]; omega
   clear h hb hn hs hw0 hl D0 hy cc0 cc1 cc2
   by_cases hbus : y.bus = r.bus
   · have bb : (y.bus == r.bus) = true := by simpa using hbus
     by_cases hdrv : y.drv = r.drv
     · have bd : (y.drv == r.drv) = true := by simpa using hdrv
       have BJ := Ad (show Pl.bjoin l r = l.set m { y with n := y.n + r.n } by rw [BJ0.out, if_pos ⟨hbus, hdrv⟩])
       clear hbus hdrv BJ0
       go_enter Tryz.func34, Tryz.ntmps34
       go_wp2_with fail
       rw [HW.out]
       go_quiet (fail)
       go_wp2_with fail
       obtain ⟨wd, hwd⟩ : ∃ wd, w0.drewN nq = wd := ⟨_, rfl⟩
       have CD := Ad (show Ch [] w0 wd from hwd ▸ (Ch.refl [] w0).drewN _)
       have y0 := CD.out.cell x0 (by simp)
       have g0 := CD.out.cell d0 (by simp)
       have OD := Ad (H0.out.on CD.out)
       have fz : wd.frozen? ⟨g, m * 3, none⟩ = false := (OD.out.cell HY.out rfl 0 (.int .i64 y.n) rfl).2
       rw [hwd]
       clear hwd
       have wm1 : IntKind.i64.wrap (m : Int) = m := by rw [IntKind.wrap_i64]; omega
       have bm1 : (m : Int) < (m : Int) + 1 := by omega
       go_still_tail 11, (by kernel_rfl)
       change wpList _ _ _ _ _ wd.drew
       go_wp2_with fail
       go_ret
       rw [BJ.out]
       refine ⟨some ⟨g, 0, none⟩, c, some g, ?_, ?_, ?_, .inl rfl⟩
       · rw [List.length_set, HN.out]
         rfl
       · exact (OD.out.on (Ch.refl [] wd).drew).setc HY.out rfl 0 (.int .i64 (y.n + r.n)) (by decide) rfl
       · exact ((C0.out.then CD.out).drew.any (F := (some g).toList)).set _ _ (.inl (by simp))
     · have bd : (y.drv == r.drv) = false := by simpa using hdrv
       have BJ := Ad (show Pl.bjoin l r = l ++ [r] by rw [BJ0.out, if_neg (fun h => hdrv h.2)])
       clear hbus hdrv BJ0
       go_enter Tryz.func34, Tryz.ntmps34
       go_wp2_with fail
       rw [HW.out]
       go_quiet (fail)
       obtain ⟨wd, hwd⟩ : ∃ wd, w0.drewN nq = wd := ⟨_, rfl⟩
       have CD := Ad (show Ch [] w0 wd from hwd ▸ (Ch.refl [] w0).drewN _)
       have y0 := CD.out.cell x0 (by simp)
       have y1 := CD.out.cell x1 (by simp)
       have y2 := CD.out.cell x2 (by simp)
       have OW := Ad ((H0.out.on CD.out).on ((Ch.refl [] wd).alloc (.cells #[.int .i64 r.n, .int .i64 r.bus, .int .u32 r.drv] 93)))
       have YW := Ad (Ow.lit Rv wd [r] #[.int .i64 r.n, .int .i64 r.bus, .int .u32 r.drv] (by rfl) (by decide : 1 <= maxLen)).rd
       have BW := Ad (show b <= (wd.alloc (.cells #[.int .i64 r.n, .int .i64 r.bus, .int .u32 r.drv] 93)).heap.size from Nat.le_trans HB.out ((C0.out.then CD.out).alloc _).size)
       rw [hwd]
       clear hwd
       go_wp2_with (at_builtin; refine wpList_append_Ow rfl (.tmp 44) (.tmp 46) 39 (by rfl) (by rfl) (some ⟨wd.heap.size, 0, none⟩) 1 1 [r] (by rfl) (by rfl) HN.out OW.out YW.out rfl (by show (m + 1 + 1) * 24 <= _; omega) BW.out ?_)
       intro A' c' q' w4 hO hC hq
       have O4 := Ad hO
       have C4 := Ad (((C0.out.then CD.out).alloc (.cells #[.int .i64 r.n, .int .i64 r.bus, .int .u32 r.drv] 93)).any.then hC)
       have Q4 := Ad (show q' = some g ∨ ∃ k, q' = some k /\ w.heap.size <= k from by
         rcases hq with e | e
         · exact .inl e
         · exact .inr ⟨_, e, by have := (C0.out.then CD.out).size; omega⟩)
       clear hO hC hq OW YW BW
       go_wp2_with fail
       go_ret
       rw [BJ.out]
       refine ⟨A', c', q', ?_, O4.out, C4.out, Q4.out⟩
       rw [List.length_append, HN.out]
       rfl
   · have bb : (y.bus == r.bus) = false := by simpa using hbus
     have BJ := Ad (show Pl.bjoin l r = l ++ [r] by rw [BJ0.out, if_neg (fun h => hbus h.1)])
     clear hbus BJ0
     go_enter Tryz.func34, Tryz.ntmps34
     go_wp2_with fail
     rw [HW.out]
     go_quiet (fail)
     obtain ⟨wd, hwd⟩ : ∃ wd, w0.drewN nq = wd := ⟨_, rfl⟩
     have CD := Ad (show Ch [] w0 wd from hwd ▸ (Ch.refl [] w0).drewN _)
     have y0 := CD.out.cell x0 (by simp)
     have y1 := CD.out.cell x1 (by simp)
     have y2 := CD.out.cell x2 (by simp)
     have OW := Ad ((H0.out.on CD.out).on ((Ch.refl [] wd).alloc (.cells #[.int .i64 r.n, .int .i64 r.bus, .int .u32 r.drv] 93)))
     have YW := Ad (Ow.lit Rv wd [r] #[.int .i64 r.n, .int .i64 r.bus, .int .u32 r.drv] (by rfl) (by decide : 1 <= maxLen)).rd
     have BW := Ad (show b <= (wd.alloc (.cells #[.int .i64 r.n, .int .i64 r.bus, .int .u32 r.drv] 93)).heap.size from Nat.le_trans HB.out ((C0.out.then CD.out).alloc _).size)
     rw [hwd]
     clear hwd
     go_wp2_with (at_builtin; refine wpList_append_Ow rfl (.tmp 44) (.tmp 46) 39 (by rfl) (by rfl) (some ⟨wd.heap.size, 0, none⟩) 1 1 [r] (by rfl) (by rfl) HN.out OW.out YW.out rfl (by show (m + 1 + 1) * 24 <= _; omega) BW.out ?_)
     intro A' c' q' w4 hO hC hq
     have O4 := Ad hO
     have C4 := Ad (((C0.out.then CD.out).alloc (.cells #[.int .i64 r.n, .int .i64 r.bus, .int .u32 r.drv] 93)).any.then hC)
     have Q4 := Ad (show q' = some g ∨ ∃ k, q' = some k /\ w.heap.size <= k from by
       rcases hq with e | e
       · exact .inl e
       · exact .inr ⟨_, e, by have := (C0.out.then CD.out).size; omega⟩)
     clear hO hC hq OW YW BW
     go_wp2_with fail
     go_ret
     rw [BJ.out]
     refine ⟨A', c', q', ?_, O4.out, C4.out, Q4.out⟩
     rw [List.length_append, HN.out]
     rfl
def Pl.chkL (n : Int) : List Act' -> Int
 | [] => 0
 | a :: l => if a.tick < 0 ∨ a.node < 0 ∨ n <= a.node then 10 else if a.fault = false /\ a.f.ok = false then 14 else Pl.chkL n l
def Pl.chk (n : Int) (l : List Act') : Int := if n < 1 ∨ 32 < n then 10 else Pl.chkL n l
set_option maxRecDepth 100000 in
theorem bcheck_calls (n : Int) (A : Option Addr) (c m : Nat) (l : List Act') (hm : l.length = m) (hwf : ∀ a ∈ l, a.f.wf) (w : World) (h : Rd Av w A c l) :
   Calls Tryz.prog 4 #[.int .i64 n, .slice A m c] w fun e w' => e = .returned (.int .i64 (Pl.chk n l)) /\ Ch [] w w' := by
 have hlen := h.len63 hm
 subst hm
 have H := Ad h
 clear h
 unfold Pl.chk
 by_cases h1 : n < 1
 · rw [if_pos (.inl h1)]
   go_enter Tryz.func4, Tryz.ntmps4
   go_wp2_with fail
   go_ret
   exact ⟨rfl, Ch.refl _ _⟩
 · by_cases h2 : 32 < n
   · rw [if_pos (.inr h2)]
     go_enter Tryz.func4, Tryz.ntmps4
     go_wp2_with fail
     go_ret
     exact ⟨rfl, Ch.refl _ _⟩
   · rw [if_neg (by omega)]
     go_enter Tryz.func4, Tryz.ntmps4
     go_wp2_with fail
     go_loopw [16] (fun v wr => ∃ k : Nat, k <= l.length /\ v = .int .i64 k /\ Aside0 (Pl.chkL n l = Pl.chkL n (l.drop k)) /\ Aside0 (Ch [] w wr)) (fun v _ => l.length - (intOf v).toNat)
     case atStart => exact ⟨0, by omega, rfl, ⟨rfl⟩, ⟨Ch.refl _ _⟩⟩
     case round =>
       obtain ⟨k, hk, rfl, HI, HC⟩ := hrel
       by_cases hlt : k < l.length
       · obtain ⟨x, hx⟩ : ∃ x, l[k]? = some x := ⟨_, List.getElem?_eq_getElem hlt⟩
         have hxw := hwf x (List.mem_of_getElem? hx)
         obtain ⟨g, o, rfl, hr⟩ := (H.out.on HC.out).cells hx
         have R := Ad (show wr.rangeAt g (o + k * 15) (Av.enc x) from fun j v hv => hr j v hv)
         have HD := Ad (show Pl.chkL n l = if x.tick < 0 ∨ x.node < 0 ∨ n <= x.node then 10 else if x.fault = false /\ x.f.ok = false then 14 else Pl.chkL n (l.drop (k + 1)) by
           rw [HI.out, show l.drop k = x :: l.drop (k + 1) by rw [List.drop_eq_getElem_cons hlt]; congr 1; exact (List.getElem?_eq_some_iff.1 hx).2]
           rfl)
         have FC := Ad (fcheck_calls x.f hxw)
         have k0 : (0 : Int) <= (k : Int) := by omega
         have k1 : (k : Int) < (l.length : Int) := by omega
         have DN := Ad (Cs.new wr ([Value.int .i64 0, .int .i64 0, .bool false] ++ zf) 55)
         have CN := Ad (HC.out.alloc (.cells ([Value.int .i64 0, .int .i64 0, .bool false] ++ zf).toArray 55))
         have P1 := Ad (show ∀ u ∈ Av.enc x, u.oneCell' = true from fun u hu => Av.hone x u hu)
         clear hr hx hxw
         go_wp2_with (first | refine wpList_load_mid rfl 55 (.tmp 18) rfl g (o + k * 15) (by rfl) (Av.enc x) _ R.out Tryz.underlying55 rfl size55 ?_ | refine wpList_store_all rfl 55 (.tmp 6) (.tmp 19) rfl (Av.enc x) (by rfl) (by rfl) DN.out rfl size55 P1.out ?_)
         intro wa ha ca
         have CA := Ad (show Ch [] w wa from CN.out.trans ca (fun y hy => by simp at hy; subst hy; exact .inr HC.out.size))
         have DA := Ad ha
         have a0 : wa.cell? ⟨wr.heap.size, 0, none⟩ = some (.int .i64 x.tick) := ha.cell (by rfl)
         have a1 : wa.cell? ⟨wr.heap.size, 1, none⟩ = some (.int .i64 x.node) := ha.cell (by rfl)
         have a2 : wa.cell? ⟨wr.heap.size, 2, none⟩ = some (.bool x.fault) := ha.cell (by rfl)
         have hal := ha.lt
         have AP := Ad (show ∀ j v, (frc x.f)[j]? = some v -> (Av.enc x)[3 + j]? = some v from fun j v hv => by
           show (Value.int .i64 x.tick :: .int .i64 x.node :: .bool x.fault :: frc x.f)[3 + j]? = some v
           rw [show 3 + j = j + 1 + 1 + 1 by omega, List.getElem?_cons_succ, List.getElem?_cons_succ, List.getElem?_cons_succ]
           exact hv)
         clear ha ca DN CN R
         by_cases q1 : x.tick < 0
         · have RES := Ad (show Pl.chkL n l = 10 by rw [HD.out, if_pos (.inl q1)])
           go_wp2_with fail
           go_ret
           exact ⟨by rw [RES.out]; rfl, CA.out⟩
         · by_cases q2 : x.node < 0
           · have RES := Ad (show Pl.chkL n l = 10 by rw [HD.out, if_pos (.inr (.inl q2))])
             go_wp2_with fail
             go_ret
             exact ⟨by rw [RES.out]; rfl, CA.out⟩
           · by_cases q3 : n <= x.node
             · have RES := Ad (show Pl.chkL n l = 10 by rw [HD.out, if_pos (.inr (.inr q3))])
               go_wp2_with fail
               go_ret
               exact ⟨by rw [RES.out]; rfl, CA.out⟩
             · have HD2 := Ad (show Pl.chkL n l = if x.fault = false /\ x.f.ok = false then 14 else Pl.chkL n (l.drop (k + 1)) by rw [HD.out, if_neg (by omega)])
               clear HD
               go_wp2_with (refine wpList_load_Cs rfl 49 (.tmp 34) rfl 3 (frc x.f) (by rfl) DA.out AP.out Tryz.underlying49 rfl size49 ?_)
               refine (FC.out wa).mono ?_
               rintro e wb ⟨rfl, hC⟩
               have CB := Ad (CA.out.then hC)
               have b2 : wb.cell? ⟨wr.heap.size, 2, none⟩ = some (.bool x.fault) := hC.cell a2 (by simp)
               clear hC FC AP DA a0 a1 a2 hal
               cases hok : x.f.ok
               · cases hfa : x.fault
                 · have RES := Ad (show Pl.chkL n l = 14 by rw [HD2.out, if_pos ⟨hfa, hok⟩])
                   rw [hfa] at b2
                   clear hok hfa
                   go_wp2_with fail
                   go_ret
                   exact ⟨by rw [RES.out]; rfl, CB.out⟩
                 · have RES := Ad (show Pl.chkL n l = Pl.chkL n (l.drop (k + 1)) by rw [HD2.out, if_neg (fun h => by rw [hfa] at h; exact absurd h.1 (by decide))])
                   rw [hfa] at b2
                   clear hok hfa HD2
                   go_wp2_with fail
                   go_roundw
                   case rel => exact ⟨k + 1, by omega, by go_num, RES, CB⟩
                   case measure => simp [intOf]; omega
               · have RES := Ad (show Pl.chkL n l = Pl.chkL n (l.drop (k + 1)) by rw [HD2.out, if_neg (fun h => by rw [hok] at h; exact absurd h.2 (by decide))])
                 cases hfa : x.fault
                 · rw [hfa] at b2
                   clear hok hfa HD2
                   go_wp2_with fail
                   go_roundw
                   case rel => exact ⟨k + 1, by omega, by go_num, RES, CB⟩
                   case measure => simp [intOf]; omega
                 · rw [hfa] at b2
                   clear hok hfa HD2
                   go_wp2_with fail
                   go_roundw
                   case rel => exact ⟨k + 1, by omega, by go_num, RES, CB⟩
                   case measure => simp [intOf]; omega
       · have HI2 := Ad (show Pl.chkL n l = 0 by rw [HI.out, List.drop_eq_nil_of_le (by omega)]; rfl)
         go_wp2_with fail
         go_ret
         exact ⟨by rw [HI2.out]; rfl, HC.out⟩
end Go.Proofs.YtjoehjclaonneaaGreat
