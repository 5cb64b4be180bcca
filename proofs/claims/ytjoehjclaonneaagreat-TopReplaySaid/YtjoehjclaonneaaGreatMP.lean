/- A part of the proof of TopReplay (no condition of its own). -/
import Derived.Stop.RegionWithIn
import Derived.Laws.OwnMore
import Derived.Test.YtjoehjclaonneaaGreatMO
import Derived.Test.YtjoehjclaonneaaGreatMM
namespace Go.Proofs.YtjoehjclaonneaaGreat
open Go.RowKit Go.Proofs.YtjoehjclaonneaaGreatW.PrintWords
set_option maxHeartbeats 8000000
set_option linter.unusedVariables false
set_option linter.unusedSimpArgs false
section
open Go.RowKit Go.Shelf Go.Proofs.YtjoehjclaonneaaGreatW.PrintWords
attribute [local go_sem] Oper.semAt_some
theorem blvl_calls (a b d : Int) (w : World) :
   Calls Tryz.prog 43 #[.agg #[.int .i64 a, .int .i64 b, .int .u32 d]] w fun e w' => e = .returned (.int .i64 b) /\ w' = w.alloc (.cells #[.int .i64 a, .int .i64 b, .int .u32 d] 93) := by
 go_enter Tryz.func43, Tryz.ntmps43
 go_wp2_with fail
 go_ret
 exact ⟨rfl, rfl⟩
def lvc (T : Nat) (l : List Int) : List Value := l.map (Value.int .i64) ++ List.replicate (T - l.length) (.int .i64 0)
theorem lvc_len {T : Nat} {l : List Int} (h : l.length <= T) : (lvc T l).length = T := by simp [lvc]; omega
theorem lvc_set {T : Nat} {l : List Int} (h : l.length < T) (x : Int) : (lvc T l).set l.length (.int .i64 x) = lvc T (l ++ [x]) := by
 unfold lvc
 rw [List.set_append_right _ _ (by simp), List.length_map, Nat.sub_self, show T - l.length = (T - (l ++ [x]).length) + 1 by simp; omega, List.replicate_succ, List.set_cons_zero, List.map_append]
 simp
theorem lvc_rd {W : World} {g T : Nat} {l : List Int} (h : Cs W g 3 (lvc T l)) (hl : l.length <= T) (hT : T <= 1000000) : Rd Iv W (some ⟨g, 0, none⟩) T l := by
 refine ⟨hl, ?_, fun _ => ⟨g, 0, rfl, fun k x hx j v hv => ?_⟩⟩
 · unfold maxLen
   omega
 · have hk := (List.getElem?_eq_some_iff.1 hx).1
   cases j with
   | zero =>
     have : v = .int .i64 x := by simpa [Iv] using hv.symm
     subst this
     refine h.cell ?_
     show (lvc T l)[0 + k * 1 + 0]? = _
     unfold lvc
     rw [show 0 + k * 1 + 0 = k by omega, List.getElem?_append_left (by simpa using hk), List.getElem?_map, hx]
     rfl
   | succ j => simp [Iv] at hv
structure InLv (L : List Run) (w : World) (bF bO gq bN T : Nat) (pre : List Nat) (W : World) : Prop where
 x3 : Bx W bF 112 (.func (.func 43) #[] #[])
 x8 : Bx W bO 57 (.slice (some ⟨gq, 0, none⟩) pre.length T)
 row : Cs W gq 3 (lvc T (pre.map (fun i => (Pl.tk L i).bus)))
 xn : ∃ v, Bx W bN 39 v
 ch : Ch [] w W
theorem InLv.on {L : List Run} {w : World} {bF bO gq bN T : Nat} {pre : List Nat} {W W' : World} (h : InLv L w bF bO gq bN T pre W) {F : List Nat} (hc : Ch F W W') (hF : ∀ k, k ∈ F -> w.heap.size <= k /\ ∀ cur t, W.heap[k]? ≠ some (.cells cur t (0, 0))) : InLv L w bF bO gq bN T pre W' := by
 obtain ⟨v, hv⟩ := h.xn
 exact ⟨h.x3.keep hc (fun hm => (hF _ hm).2 _ _ h.x3), h.x8.keep hc (fun hm => (hF _ hm).2 _ _ h.x8), h.row.keep hc (fun hm => (hF _ hm).2 _ _ h.row), ⟨v, hv.keep hc (fun hm => (hF _ hm).2 _ _ hv)⟩, h.ch.trans hc (fun k hk => .inr (hF k hk).1)⟩
theorem inLv_own (D : Nat) {L : List Run} {w : World} {bF bO gq bN T : Nat} (hw : w.heap.size <= D) : OwnFrom D (InLv L w bF bO gq bN T) := fun s X Y row hs hg hr =>
 hs.on (Ch.of_grown hg) (fun k hk => by
   rw [Option.mem_toList] at hk
   obtain ⟨h1, o, h2, h3⟩ := hr k hk
   refine ⟨by omega, fun cur T h4 => ?_⟩
   rw [h2] at h4
   cases h4
   cases h3)
set_option maxRecDepth 100000 in
theorem levels_calls (X : Option Addr) (cx mx : Nat) (L : List Run) (hmx : L.length = mx) (hL : ∀ r ∈ L, Pl.rgt r) (T : Nat) (hT : Pl.tot L = T) (hT9 : T <= 1000) (w : World) (hX : Rd Rv w X cx L) :
   Calls Tryz.prog 42 #[.slice X mx cx, .func (.func 43) #[] #[]] w fun e w' => ∃ A c, e = .returned (.tuple #[.slice A T c, .int .i64 0]) /\ Rd Iv w' A c ((List.range T).map (fun i => (Pl.tk L i).bus)) /\ Ch [] w w' := by
 have HX := Ad hX
 have HMX := Ad hmx
 have HL := Ad hL
 have HT := Ad hT
 have TC := Ad (fun (W : World) (hW : Rd Rv W X cx L) => ticks_calls X cx mx L hmx hL (by rw [hT]; omega) W hW)
 rw [hT] at TC
 have EC := Ad (fun w => each_calls X mx cx w)
 have LV := Ad (fun a b d w => blvl_calls a b d w)
 obtain ⟨i0, hi, hz⟩ := Option.map_eq_some_iff.1 Iv.info
 simp only [Prod.mk.injEq] at hz
 obtain ⟨hz0, hz1, hz2⟩ := hz
 have mk := fun W : World => run_make (P := Tryz.prog) W 57 3 i0 (.int .i64 0) Tryz.underlying57 hi hz0 .i64 .i64 0 T (by omega) (by omega) (by rw [hz2]; show (8 : Int) * T <= _; omega) (by omega)
 rw [hz1] at mk
 replace mk : ∀ W : World, (Instr.makeSlice 57 (.int .i64 0) (.int .i64 T)).run Tryz.prog W = .ok (.slice (some ⟨W.heap.size, 0, none⟩) 0 T) (W.alloc (.cells (madeCells #[.int .i64 0] T) 3)) := fun W => by
   have h := mk W
   rw [show (T : Int).toNat * Iv.sz = T by show (T : Int).toNat * 1 = T; omega, Int.toNat_natCast] at h
   exact h
 clear hz0 hz1 hz2 hi hX hmx hL hT
 have C1 := Ad ((Ch.refl [] w).alloc (.cells #[.func (.func 43) #[] #[]] 112))
 have B1 := Ad (Bx.new w (.func (.func 43) #[] #[]) 112)
 obtain ⟨w1, hw1⟩ : ∃ w1, w.alloc (.cells #[.func (.func 43) #[] #[]] 112) = w1 := ⟨_, rfl⟩
 have HW1 := Ad hw1
 rw [hw1] at C1 B1
 clear hw1
 refine (callsIn_wide (n := 6)).1 ?_
 refine callsIn_of_wp_marks Tryz.func42 rfl trivial ?_ rfl
 simp only [Tryz.ntmps42, List.size_toArray, List.length_cons, List.length_nil, Nat.reduceAdd, Nat.reduceSub, Array.replicate_succ, Array.replicate_zero, List.push_toArray, List.append_toArray, List.nil_append, List.cons_append]
 refine wpIn_wide.2 ?_
 go_wp2_with fail
 rw [HW1.out]
 refine (TC.out w1 (HX.out.on C1.out)).mono ?_
 rintro e w2 ⟨rfl, hC⟩
 have C2 := Ad (C1.out.then hC)
 have B2 := Ad (B1.out.keep hC (by simp))
 clear hC TC B1 HW1
 go_upto_region 6 with (fail)
 have B3 := Ad (B2.out.keep ((Ch.refl [] w2).alloc (Obj.cells (madeCells #[.int .i64 0] T) 3)) (by simp))
 have Q3 := Ad (show Cs (w2.alloc (Obj.cells (madeCells #[.int .i64 0] T) 3)) w2.heap.size 3 (lvc T []) from by
   have h := heap_alloc_new w2 (Obj.cells (madeCells #[.int .i64 0] T) 3)
   have e : (lvc T []).toArray = madeCells #[.int .i64 0] T := by
     rw [<- Array.toList_inj, toList_madeCells_one]
     simp [lvc]
   show (w2.alloc (Obj.cells (madeCells #[.int .i64 0] T) 3)).heap[w2.heap.size]? = some (Obj.cells (lvc T []).toArray 3 (0, 0))
   rw [e]
   exact h)
 have C3 := Ad (C2.out.alloc (Obj.cells (madeCells #[.int .i64 0] T) 3))
 obtain ⟨w3, hw3⟩ : ∃ w3, w2.alloc (Obj.cells (madeCells #[.int .i64 0] T) 3) = w3 := ⟨_, rfl⟩
 have HW3 := Ad hw3
 have S3 := Ad (show w3.heap.size = w2.heap.size + 1 by rw [<- hw3]; simp)
 rw [hw3] at B3 Q3 C3
 clear hw3
 obtain ⟨gq, hgq⟩ : ∃ gq, w2.heap.size = gq := ⟨_, rfl⟩
 rw [hgq] at Q3 S3
 have GQ := Ad hgq
 have B8 := Bx.new w3 (.slice (some ⟨gq, 0, none⟩) 0 T) 57
 obtain ⟨w4, hw4⟩ : ∃ w4, w3.alloc (.cells #[.slice (some ⟨gq, 0, none⟩) 0 T] 57) = w4 := ⟨_, rfl⟩
 have c4 : Ch [] w3 w4 := hw4 ▸ (Ch.refl [] w3).alloc _
 have s4 : w4.heap.size = gq + 1 + 1 := by rw [<- hw4]; simp [S3.out]
 rw [hw4, S3.out] at B8
 have bn := Bx.new w4 (.slice X mx cx) 39
 obtain ⟨w5, hw5⟩ : ∃ w5, w4.alloc (.cells #[.slice X mx cx] 39) = w5 := ⟨_, rfl⟩
 have c5 : Ch [] w4 w5 := hw5 ▸ (Ch.refl [] w4).alloc _
 rw [hw5, s4] at bn
 have C5 := Ad ((C3.out.then c4).then c5)
 have B3' := Ad ((B3.out.keep c4 (by simp)).keep c5 (by simp))
 have B8' := Ad (B8.keep c5 (by simp))
 have Q5 := Ad ((Q3.out.on c4).on c5)
 have BN := Ad bn
 have HW4 := Ad hw4
 have HW5 := Ad hw5
 have S4 := Ad s4
 clear hgq B8 hw4 hw5 c4 c5 s4 bn B3 Q3 C3
 go_upto_region 7 with (fail)
 rw [HW3.out, GQ.out, HW4.out]
 go_wp2_with fail
 refine (EC.out w4).mono ?_
 rintro e w99 ⟨rfl, hw⟩
 rw [hw, S4.out, HW5.out]
 clear hw w99 EC
 go_wp2_with fail
 have EXL := Ad (Pl.ex_len L (fun r hr => by have := (HL.out r hr).1; omega))
 have hwE : w.heap.size <= w5.heap.size := C5.out.size
 have IE := Ad (show InLv L w w.heap.size (gq + 1) gq (gq + 1 + 1) T [] w5 from ⟨B3'.out, B8'.out, Q5.out, ⟨_, BN.out⟩, C5.out⟩)
 have BOX := Ad (show w.heap.size < gq /\ gq + 1 + 1 < w5.heap.size from ⟨by rw [<- GQ.out]; exact B2.out.lt, BN.out.lt⟩)
 clear B3' B8' Q5 HW3 HW4 HW5 S4 S3 mk
 refine (wpIn_wide (n := 6)).1 ?_
 refine wpIn_rangeFunc_ownH rfl (by omega) (gf := 58) (lb := #[.pointer (some ⟨gq + 1 + 1, 0, none⟩)]) rfl trivial (enters_of Tryz.func58 (by kernel_rfl) rfl)
       (each_stops (6 - 1) (by omega) (gq + 1 + 1) mx X cx L HMX.out HL.out (by rw [HT.out]; omega) w HX.out w5 BN.out (C5.out.below (Nat.le_refl _) (by simp))) kpE_t (kpE_b hwE) (Below.refl _ _) (fun _ => rfl)
       (InLv L w w.heap.size (gq + 1) gq (gq + 1 + 1) T) (fun _ _ _ => False) (inLv_own _ hwE) (fun _ _ _ _ _ hs _ _ => hs.elim) IE.out
       (fun x a' W => ∃ B10, Cs W B10 93 [.int .i64 1, .int .i64 (Pl.tk L x).bus, .int .u32 (Pl.tk L x).drv] /\ a' = { tmps := #[Value.slice X mx cx, .func (.func 43) #[] #[], undef, .pointer (some ⟨w.heap.size, 0, none⟩), .slice none 0 0, .int .i64 0, .int .i64 T, .int .i64 0, .pointer (some ⟨gq + 1, 0, none⟩), undef, .pointer (some ⟨B10, 0, none⟩), .tuple #[Value.int .i64 T, .int .i64 0], .slice X mx cx, .tuple #[Value.int .i64 T, .int .i64 0], .int .i64 T, .int .i64 0, .bool false, .int .i64 0, .bool false, undef, .bool (decide ((1048576 : Int) < T)), .int .i64 T, .bool (decide ((1048576 : Int) < T)), .int .i64 T, .slice (some ⟨gq, 0, none⟩) 0 T, .slice X mx cx, .func (.func 58) #[] #[Value.pointer (some ⟨gq + 1 + 1, 0, none⟩)], .int .i64 (x : Int), .agg #[Value.int .i64 1, .int .i64 (Pl.tk L x).bus, .int .u32 (Pl.tk L x).drv], undef, undef, undef, undef, undef, undef, undef], defers := [] })
       (fun x a' _ X Y row hs hg hr => by
         obtain ⟨B10, h1, h2⟩ := hs
         refine ⟨B10, h1.keep (Ch.of_grown hg) (fun hm => ?_), h2⟩
         rw [Option.mem_toList] at hm
         obtain ⟨_, o, h3, h4⟩ := hr _ hm
         exact cells_row h1 h3 h4 rfl)
       ?assign ?body ?done ?stop
 case assign =>
   rintro r pre x W K hi hK
   unfold Pl.encE
   gi_wp2
   have hc := (Ch.refl [] W).alloc (.cells #[.int .i64 1, .int .i64 (Pl.tk L x).bus, .int .u32 (Pl.tk L x).drv] 93)
   exact hK _ _ ((KeepsOthers.alloc _ _).from _) (rnd_on hi.ch.size hc).2 (hi.on hc (by simp)) ⟨W.heap.size, Cs.new W _ 93, rfl⟩
 case body =>
   rintro r pre x a' W hl ⟨rr, hr⟩ hi ⟨B10, D10, rfl⟩ hlt
   have hlt2 : pre.length < T := by
     have h1 := EXL.out
     rw [HT.out] at h1
     omega
   have HI := Ad hi
   have D := Ad D10
   have d0 : W.cell? ⟨B10, 0, none⟩ = some (.int .i64 1) := D10.cell (by rfl)
   have d1 : W.cell? ⟨B10, 1, none⟩ = some (.int .i64 (Pl.tk L x).bus) := D10.cell (by rfl)
   have d2 : W.cell? ⟨B10, 2, none⟩ = some (.int .u32 (Pl.tk L x).drv) := D10.cell (by rfl)
   have hd := D10.lt
   have c3 := hi.x3.cell
   have l3 := hi.x3.lt
   have c8 := hi.x8.cell
   have l8 := hi.x8.lt
   have k8 := hi.x8.free
   have hq := hi.row.lt
   have hql : (pre.map (fun i => (Pl.tk L i).bus)).length = pre.length := by simp
   have cq : ∃ v, W.cell? ⟨gq, pre.length, none⟩ = some v := ⟨_, hi.row.cell (List.getElem?_eq_getElem (by rw [lvc_len (by rw [hql]; omega)]; exact hlt2))⟩
   obtain ⟨vq, cq⟩ := cq
   have kq := hi.row.free pre.length
   have rm : ¬ T < pre.length + 1 := by omega
   have rm2 : pre.length + 1 <= T := by omega
   have LB := Ad (fun W => CallsIn.inRound r ((callsIn_wide (n := 6 - 1 - 1 - 1)).2 (LV.out 1 (Pl.tk L x).bus (Pl.tk L x).drv W)))
   have sz := hi.ch.size
   obtain ⟨Wf, hWf⟩ : ∃ Wf, ((((W.setCell ⟨gq, pre.length, none⟩ (.int .i64 (Pl.tk L x).bus)).setCell ⟨gq + 1, 0, none⟩ (.slice (some ⟨gq, 0, none⟩) (pre.length + 1) T)).alloc (.cells #[.int .i64 1, .int .i64 (Pl.tk L x).bus, .int .u32 (Pl.tk L x).drv] 93)).alloc (.cells #[.int .i64 (Pl.tk L x).bus] 3)).drew = Wf := ⟨_, rfl⟩
   have POST := Ad (show KeepsOthers W Wf /\ KpE w.heap.size (gq + 1 + 1) W Wf /\ InLv L w w.heap.size (gq + 1) gq (gq + 1 + 1) T (pre ++ [x]) Wf from by
     have hc1 : Ch [gq] W (W.setCell ⟨gq, pre.length, none⟩ (.int .i64 (Pl.tk L x).bus)) := (Ch.refl _ _).set _ _ (.inl (by simp))
     have hc2 : Ch [gq + 1] (W.setCell ⟨gq, pre.length, none⟩ (.int .i64 (Pl.tk L x).bus)) ((W.setCell ⟨gq, pre.length, none⟩ (.int .i64 (Pl.tk L x).bus)).setCell ⟨gq + 1, 0, none⟩ (.slice (some ⟨gq, 0, none⟩) (pre.length + 1) T)) := (Ch.refl _ _).set _ _ (.inl (by simp))
     have hc3 : Ch [] ((W.setCell ⟨gq, pre.length, none⟩ (.int .i64 (Pl.tk L x).bus)).setCell ⟨gq + 1, 0, none⟩ (.slice (some ⟨gq, 0, none⟩) (pre.length + 1) T)) Wf := hWf ▸ (((Ch.refl [] _).alloc _).alloc _).drew
     have hc : Ch [gq, gq + 1] W Wf := ((hc1.sub (by simp)).then (hc2.sub (by simp))).then (hc3.sub (by simp))
     obtain ⟨b1, b2⟩ := BOX.out
     have hr := rnd_ch (n₀ := w.heap.size) (Bn := gq + 1 + 1) sz hc (fun k hk => .inr (by
       simp only [List.mem_cons, List.not_mem_nil, or_false] at hk
       rcases hk with rfl | rfl
       · exact ⟨by omega, by omega, _, _, hi.row, fun e => absurd e (by decide)⟩
       · exact ⟨by omega, by omega, _, _, hi.x8, fun e => absurd e (by decide)⟩))
     have hrow := (hi.row.set pre.length (.int .i64 (Pl.tk L x).bus))
     have e := lvc_set (T := T) (l := pre.map (fun i => (Pl.tk L i).bus)) (by rw [hql]; exact hlt2) (Pl.tk L x).bus
     rw [hql] at e
     rw [e] at hrow
     have h8 := hi.x8.keep hc1 (by simp)
     obtain ⟨vn, hn⟩ := hi.xn
     refine ⟨hr.1, hr.2, ⟨hi.x3.keep hc (by simp; omega), ?_, ?_, ⟨vn, hn.keep hc (by simp <;> omega)⟩, hi.ch.trans hc (fun k hk => .inr (by
       simp only [List.mem_cons, List.not_mem_nil, or_false] at hk
       rcases hk with rfl | rfl <;> omega))⟩⟩
     · have := (h8.set (.slice (some ⟨gq, 0, none⟩) (pre.length + 1) T)).keep hc3 (by simp)
       rw [List.length_append]
       exact this
     · have := (hrow.keep hc2 (by simp)).keep hc3 (by simp)
       rw [List.map_append]
       exact this)
   clear hi D10 hql LV
   gi_wp2
   gi_region_with ((refine ⟨trivial, ?_⟩; gi_at_call 43; refine (LB.out _).mono ?_; rintro e w' ⟨rfl, rfl⟩))
   all_goals
     gi_wp2
     exact ⟨POST.out.1.from _, POST.out.2⟩
 case done =>
   rintro D zs W hD1 hS hi hK
   subst hS
   have hTl : (Pl.ex L).length = T := by
     have h1 := EXL.out
     rw [HT.out] at h1
     omega
   rw [hTl] at hi
   have hlr : (List.range T).length = T := List.length_range
   have c8 := hi.x8.cell
   have l8 := hi.x8.lt
   rw [hlr] at c8
   have HI := Ad hi
   have HD := Ad hD1
   clear hi hD1
   go_wp2_with fail
   refine ⟨by simp, .inl ⟨_, _, rfl, run_takeDeferred hK, ?_⟩⟩
   have CD : Ch [D] W (W.putObj D (.deferred none)) := Ch.of_grown (grownBy_putObj' W D (.deferred none))
   refine ⟨.tuple #[.slice (some ⟨gq, 0, none⟩) T T, .int .i64 0], by simp [results, Tryz.f42, go_sem], ?_⟩
   obtain ⟨b1, b2⟩ := BOX.out
   have hd := HD.out
   have hrow := HI.out.row.keep CD (by simp; omega)
   exact ⟨_, T, rfl, lvc_rd hrow (by simp) (by omega), HI.out.ch.trans CD (fun y hy => by simp at hy; subst hy; exact .inr (by omega))⟩
 case stop =>
   rintro D k pre W hD1 hS hf
   exact hf.elim
theorem tbus_calls (X : Option Addr) (cx mx : Nat) (L : List Run) (hmx : L.length = mx) (hL : ∀ r ∈ L, Pl.rgt r) (T : Nat) (hT : Pl.tot L = T) (hT9 : T <= 1000) (w : World) (hX : Rd Rv w X cx L) :
   Calls Tryz.prog 16 #[.slice X mx cx] w fun e w' => ∃ A c, e = .returned (.tuple #[.slice A T c, .int .i64 0]) /\ Rd Iv w' A c ((List.range T).map (fun i => (Pl.tk L i).bus)) /\ Ch [] w w' := by
 have LC := Ad (levels_calls X cx mx L hmx hL T hT hT9 w hX)
 clear hmx hL hT hX
 go_enter Tryz.func16, Tryz.ntmps16
 go_wp2_with fail
 refine LC.out.mono ?_
 rintro e w1 ⟨A, c, rfl, hR, hC⟩
 have R := Ad hR
 have C := Ad hC
 clear hR hC LC
 go_wp2_with fail
 go_ret2
 exact ⟨A, c, rfl, R.out, C.out⟩
end
end Go.Proofs.YtjoehjclaonneaaGreat
