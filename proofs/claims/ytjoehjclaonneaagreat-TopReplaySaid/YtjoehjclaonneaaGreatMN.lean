/- A part of the proof of TopReplay (no condition of its own). -/
import Derived.RangeFuncNested
import Derived.RangeFuncBound
import Derived.RangeFuncCalls
import Derived.RangeFuncLeaves
import Derived.Shelf.Abstract
import Derived.OwnWalkIn
import Derived.TacticsInMore
import Derived.LoopNIn
import Derived.LoopIn
import Derived.Test.YtjoehjclaonneaaGreatMK
import Derived.Test.YtjoehjclaonneaaGreatMM
namespace Go.Proofs.YtjoehjclaonneaaGreat
open Go.RowKit Go.Proofs.YtjoehjclaonneaaGreatW.PrintWords
set_option maxHeartbeats 8000000
set_option linter.unusedVariables false
set_option linter.unusedSimpArgs false
section
open Go.RowKit Go.Shelf Go.Proofs.YtjoehjclaonneaaGreatW.PrintWords
theorem Ch.grown {w w' : World} (h : Ch [] w w') : w.grownBy w' none := ⟨h.os, h.tape, h.output, h.size, fun k hk _ => h.block k hk (by simp)⟩
section
variable {F : Fence} {n : Nat} {W : World} {g : Nat} {t : TypeId} {cs : List Value} {ops : Array Oper} {rest : List Oper} {op : Oper} {a : Act} {Q : Exit -> Act -> World -> Prop}
theorem wpListIn_load_row (hgd : op.guard = none) (ty : TypeId) (x : Operand) (ho : op.op = .load ty x) (o : Nat) (part : List Value) {d : TypeDesc}
   (hx : a.eval x = .pointer (some ⟨g, o, none⟩)) (hr : W.rangeAt g o part) (hu : Tryz.prog.underlying ty = some d) (hd : d.isRow = true) (hi : (Tryz.prog.info? ty).map (·.size) = some part.length)
   (hK : wpListIn F n Tryz.prog ops Q rest (a.put op.dst (.agg part.toArray)) W) : wpListIn F n Tryz.prog ops Q (op :: rest) a W := by
 have hrun := run_loadAt_mid W g o ty part d hr hu hd hi
 refine wpListIn_plain hgd fun K hK' => ?_
 unfold Oper.wpIn
 refine ⟨?_, ?_⟩
 · simp [Oper.about, ho]
 · rw [Oper.semAt_plain F _ _ (by rw [ho]; intro c hc'; cases hc')]
   simp [execOp, ho, hx, hrun, Result.andThen]
   exact hK' _ _ hK
theorem wpListIn_load_Cs (hgd : op.guard = none) (ty : TypeId) (x : Operand) (ho : op.op = .load ty x) (o : Nat) (part : List Value) {d : TypeDesc}
   (hx : a.eval x = .pointer (some ⟨g, o, none⟩)) (h : Cs W g t cs) (hp : ∀ j v, part[j]? = some v -> cs[o + j]? = some v) (hu : Tryz.prog.underlying ty = some d) (hd : d.isRow = true) (hi : (Tryz.prog.info? ty).map (·.size) = some part.length)
   (hK : wpListIn F n Tryz.prog ops Q rest (a.put op.dst (.agg part.toArray)) W) : wpListIn F n Tryz.prog ops Q (op :: rest) a W :=
 wpListIn_load_row hgd ty x ho o part hx (h.range o part hp) hu hd hi hK
theorem wpListIn_store_all (hgd : op.guard = none) (ty : TypeId) (x y : Operand) (ho : op.op = .store ty x y) (part : List Value)
   (hx : a.eval x = .pointer (some ⟨g, 0, none⟩)) (hy : a.eval y = .agg part.toArray) (h : Cs W g t cs) (hl : part.length = cs.length) (hi : (Tryz.prog.info? ty).map (·.size) = some part.length) (h1 : ∀ v ∈ part, v.oneCell' = true)
   (hK : ∀ W2, Cs W2 g t part -> Ch [g] W W2 -> wpListIn F n Tryz.prog ops Q rest (a.put op.dst undef) W2) : wpListIn F n Tryz.prog ops Q (op :: rest) a W := by
 obtain ⟨W2, hr, h2, h3⟩ := h.store ty part hl hi h1
 refine wpListIn_plain hgd fun K hK' => ?_
 unfold Oper.wpIn
 refine ⟨?_, ?_⟩
 · simp [Oper.about, ho]
 · rw [Oper.semAt_plain F _ _ (by rw [ho]; intro c hc'; cases hc')]
   simp [execOp, ho, hx, hy, hr, Result.andThen]
   exact hK' _ _ (hK W2 h2 h3)
theorem wpListIn_put_Cs (hgd : op.guard = none) (ty : TypeId) (x y : Operand) (ho : op.op = .store ty x y) (o : Nat) (v : Value)
   (hx : a.eval x = .pointer (some ⟨g, o, none⟩)) (hy : a.eval y = v) (hi : (Tryz.prog.info? ty).map (·.size) = some 1) (h1 : v.oneCell' = true) (h : Cs W g t cs) (hl : o < cs.length)
   (hK : ∀ W2, Cs W2 g t (cs.set o v) -> Ch [g] W W2 -> wpListIn F n Tryz.prog ops Q rest (a.put op.dst undef) W2) : wpListIn F n Tryz.prog ops Q (op :: rest) a W := by
 have hr := run_store_one W g o ty v hi h1 (by rw [h.cell (List.getElem?_eq_getElem hl)]; rfl) (h.free o)
 refine wpListIn_plain hgd fun K hK' => ?_
 unfold Oper.wpIn
 refine ⟨?_, ?_⟩
 · simp [Oper.about, ho]
 · rw [Oper.semAt_plain F _ _ (by rw [ho]; intro c hc'; cases hc')]
   simp [execOp, ho, hx, hy, hr, Result.andThen]
   exact hK' _ _ (hK _ (h.set o v) ((Ch.refl _ _).set _ _ (.inl (by simp))))
theorem wpListIn_append_Ow {α : Type} {E : El α} {b c m : Nat} {q : Option Nat} {A : Option Addr} {l : List α} (hgd : op.guard = none) (s x : Operand) (t : TypeId) (ht : E.s = t)
   (ho : op.op = .call { callee := .builtin .append, args := #[s, x], argTypes := #[t, t] }) (X : Option Addr) (k cx : Nat) (ys : List α) (hs : a.eval s = .slice A m c) (hx : a.eval x = .slice X k cx) (hn : l.length = m)
   (h : Ow E W b q A c l) (hY : Rd E W X cx ys) (hk : ys.length = k) (hl : (m + k) * E.bytes <= 140737488355328) (hbase : b <= W.heap.size)
   (hK : ∀ A' c' q' W', Ow E W' b q' A' c' (l ++ ys) -> Ch q.toList W W' -> (q' = q ∨ q' = some W.heap.size) -> wpListIn F n Tryz.prog ops Q rest (a.put op.dst (.slice A' (m + k) c')) W') :
   wpListIn F n Tryz.prog ops Q (op :: rest) a W := by
 subst hn ht
 obtain ⟨A', c', q', W', hr, h1, h2, h3⟩ := run_append_Ow h (cx := cx) hY hk hl hbase op.type
 refine wpListIn_plain hgd fun K hK' => ?_
 unfold Oper.wpIn
 refine ⟨?_, ?_⟩
 · simp [Oper.about, ho, resolve, Target.leads, Sem.run_pure]
 · rw [Oper.semAt_plain F _ _ (by rw [ho]; intro c hc'; cases hc')]
   simp [execOp, ho, resolve, invoke, builtin, hs, hx, hr, Result.andThen]
   exact hK' _ _ (hK A' c' q' W' h1 h2 h3)
end
end
section
open Go.RowKit Go.Shelf Go.Proofs.YtjoehjclaonneaaGreatW.PrintWords
attribute [local go_sem] Oper.semAt_some
def Pl.ex : List Run -> List Run
 | [] => []
 | r :: l => List.replicate r.n.toNat ⟨1, r.bus, r.drv⟩ ++ Pl.ex l
theorem Pl.ex_app : ∀ l m : List Run, Pl.ex (l ++ m) = Pl.ex l ++ Pl.ex m
 | [], m => rfl
 | r :: l, m => by simp [Pl.ex, Pl.ex_app l m]
theorem Pl.ex_len : ∀ l : List Run, (∀ r ∈ l, 0 <= r.n) -> ((Pl.ex l).length : Int) = Pl.tot l
 | [], _ => rfl
 | r :: l, h => by
   have h1 := h r (by simp)
   have h2 := Pl.ex_len l (fun x hx => h x (by simp [hx]))
   simp only [Pl.ex, List.length_append, List.length_replicate, Int.natCast_add, h2, Pl.tot]
   omega
def Pl.tk (l : List Run) (i : Nat) : Run := (Pl.ex l).getD i ⟨1, 0, 0⟩
theorem Pl.tk_at (l : List Run) (k : Nat) (x : Run) (h : l[k]? = some x) (y : Nat) (hy : (y : Int) < x.n) : Pl.tk l ((Pl.ex (l.take k)).length + y) = ⟨1, x.bus, x.drv⟩ := by
 have hk := (List.getElem?_eq_some_iff.1 h).1
 have e : l = l.take k ++ x :: l.drop (k + 1) := by
   have h1 := List.take_append_drop k l
   rw [List.drop_eq_getElem_cons hk, (List.getElem?_eq_some_iff.1 h).2] at h1
   exact h1.symm
 unfold Pl.tk
 rw [List.getD_eq_getElem?_getD]
 have e2 : Pl.ex l = Pl.ex (l.take k) ++ (List.replicate x.n.toNat ⟨1, x.bus, x.drv⟩ ++ Pl.ex (l.drop (k + 1))) := by
   conv => lhs; rw [e]
   rw [Pl.ex_app, Pl.ex]
 rw [e2, List.getElem?_append_right (Nat.le_add_right _ _), Nat.add_sub_cancel_left, List.getElem?_append_left (by rw [List.length_replicate]; omega), List.getElem?_replicate, if_pos (by omega)]
 rfl
def Pl.encE (l : List Run) (i : Nat) : Array Value := #[.int .i64 i, .agg #[.int .i64 1, .int .i64 (Pl.tk l i).bus, .int .u32 (Pl.tk l i).drv]]
def KpE (n₀ Bn : Nat) (W W' : World) : Prop := Below n₀ W W' /\ (∀ v, Bx W Bn 39 v -> Bx W' Bn 39 v) /\ ∀ g a b d, Cs W g 93 [a, b, d] -> Cs W' g 93 [a, b, d]
set_option maxRecDepth 100000 in
theorem each_in (n : Nat) (hn : 1 <= n) (r Bn m : Nat) (A : Option Addr) (c : Nat) (l : List Run) (hm : l.length = m) (hr : ∀ x ∈ l, Pl.rgt x) (ht : Pl.tot l <= 1000000) (w0 : World) (h : Rd Rv w0 A c l) (J Jx : List Nat -> World -> Prop) (W : World)
   (hJ : ∀ s X Y, J s X -> W.heap.size <= X.heap.size -> Ch [] X Y -> J s Y)
   (hY : ∀ pre x W, J pre W -> pre.length < (Pl.ex l).length -> YieldAt Fence.wide (n - 1) Tryz.prog r (Pl.encE l x) W fun e W' =>
     (e = .returned (.bool true) /\ J (pre ++ [x]) W' /\ KpE w0.heap.size Bn W W') ∨ (e = .returned (.bool false) /\ Jx (pre ++ [x]) W'))
   (hBn : Bx W Bn 39 (.slice A m c)) (hB : Below w0.heap.size w0 W) (h0 : J [] W) :
   CallsIn Fence.wide n Tryz.prog 58 #[.func (.yield r) #[] #[], .pointer (some ⟨Bn, 0, none⟩)] W fun e W' => (∃ v, e = .returned v) /\
     ((∃ ys, ys = List.range (Pl.ex l).length /\ J ys W') ∨ (∃ pre, True /\ Jx pre W')) := by
 have hnn : ∀ x ∈ l, 0 <= x.n := fun x hx => by have := (hr x hx).1; omega
 have hlen : (m : Int) <= 9223372036854775807 := h.len63 hm
 have TC := Ad ((callsIn_wide (n := n - 1)).2 (tcheck_calls A c m l hm hr ht W (h.below hB)))
 have H := Ad h
 have HM := Ad hm
 have HR := Ad hr
 have HN := Ad hnn
 have EXL := Ad (Pl.ex_len l hnn)
 have HB := Ad hB
 have HJ := Ad hJ
 have cX := hBn.cell
 have lX := hBn.lt
 have BX := Ad hBn
 clear h hm hr hnn hB hJ hBn
 refine callsIn_of_wp Tryz.func58 rfl trivial ?_ rfl
 simp only [Tryz.ntmps58, List.size_toArray, List.length_cons, List.length_nil, Nat.reduceAdd, Nat.reduceSub, Array.replicate_succ, Array.replicate_zero, List.push_toArray, List.append_toArray, List.nil_append, List.cons_append]
 gi_wp2
 refine ⟨trivial, ?_⟩
 gi_at_call 59
 refine TC.out.mono ?_
 rintro ew w2 ⟨rfl, hC⟩
 have C2 := Ad hC
 have J2 := Ad (HJ.out [] W w2 h0 (Nat.le_refl _) hC)
 have cX2 := hC.cell cX (by simp)
 have lX2 := Nat.lt_of_lt_of_le lX hC.size
 clear hC TC
 have K2 := Ad (HB.out.trans (C2.out.below HB.out.size (by simp)))
 have BX2 := Ad (BX.out.keep C2.out (by simp))
 have W2 := Ad C2.out.size
 gi_wp2
 gi_loopw [3, 11] (fun a i wr => ∃ k p : Nat, k <= m /\ i = .int .i64 k /\ a = .int .i64 p /\ Aside0 (p = (Pl.ex (l.take k)).length) /\ Aside0 (J (List.range p) wr) /\ Aside0 (Below w0.heap.size w0 wr /\ Bx wr Bn 39 (.slice A m c) /\ W.heap.size <= wr.heap.size)) (fun _ i _ => m - (intOf i).toNat)
 case atStart => exact ⟨0, 0, by omega, rfl, rfl, ⟨rfl⟩, J2, ⟨K2.out, BX2.out, W2.out⟩⟩
 case round =>
   obtain ⟨k, p, hk, rfl, rfl, HP, HJr, HW⟩ := hrel
   by_cases hlt : k < m
   · obtain ⟨x, hx⟩ : ∃ x, l[k]? = some x := ⟨_, List.getElem?_eq_getElem (by rw [HM.out]; exact hlt)⟩
     obtain ⟨g, o, rfl, hrc⟩ := (H.out.below HW.out.1).cells hx
     have R := Ad (show wr.rangeAt g (o + k * 3) (rnc x) from fun j v hv => hrc j v hv)
     obtain ⟨hx1, hx2, hx3⟩ := HR.out x (List.mem_of_getElem? hx)
     obtain ⟨xn, hxn⟩ : ∃ xn : Nat, x.n = xn := ⟨x.n.toNat, by omega⟩
     have TK := Ad (fun (y : Nat) (hy : (y : Int) < x.n) => Pl.tk_at l k x hx y hy)
     have HT := Ad (Pl.tot_take_succ l k x hx)
     have t1 := Pl.tot_take_le l HN.out k
     have t2 := Pl.tot_take_le l HN.out (k + 1)
     rw [HT.out] at t2
     have e1 := Pl.ex_len (l.take k) (fun r hr => HN.out r (List.mem_of_mem_take hr))
     rw [<- HP.out] at e1
     have PS := Ad (show p + xn = (Pl.ex (l.take (k + 1))).length from by
       rw [List.take_add_one, hx, Option.toList_some, Pl.ex_app, List.length_append, <- HP.out]
       simp [Pl.ex, hxn])
     have hpx : (p : Int) + x.n <= 1000000 := by omega
     have hpl : p + xn <= (Pl.ex l).length := by have := EXL.out; omega
     have XN := Ad hxn
     rw [hxn] at hpx
     have k0 : (0 : Int) <= (k : Int) := by omega
     have k1 : (k : Int) < (m : Int) := by omega
     have DN := Ad (Cs.new wr [Value.int .i64 0, .int .i64 0, .int .u32 0] 93)
     have CN := Ad ((Ch.refl [] wr).alloc (.cells [Value.int .i64 0, .int .i64 0, .int .u32 0].toArray 93))
     rw [HP.out.symm] at TK
     clear hrc hx hx1 hx2 hx3 hxn t1 t2 e1 HT
     gi_wp2_with (first | refine wpListIn_load_row rfl 93 (.tmp 13) rfl (o + k * 3) (rnc x) (by rfl) R.out Tryz.underlying93 rfl size93 ?_ | refine wpListIn_store_all rfl 93 (.tmp 5) (.tmp 14) rfl (rnc x) (by rfl) (by rfl) DN.out rfl size93 (by simp [rnc, Value.oneCell']) ?_)
     intro wa ha ca
     have CA := Ad (show Ch [] wr wa from CN.out.trans ca (by simp))
     have JA := Ad (HJ.out _ wr wa HJr.out HW.out.2.2 CA.out)
     have a0 : wa.cell? ⟨wr.heap.size, 0, none⟩ = some (.int .i64 xn) := by rw [<- XN.out]; exact ha.cell (by rfl)
     have hal := ha.lt
     have DA := Ad ha
     have WA := Ad (show Below w0.heap.size w0 wa /\ Bx wa Bn 39 (.slice (some ⟨g, o, none⟩) m c) /\ W.heap.size <= wa.heap.size from ⟨HW.out.1.trans (CA.out.below HW.out.1.size (by simp)), HW.out.2.1.keep CA.out (by simp), Nat.le_trans HW.out.2.2 CA.out.size⟩)
     clear ha ca DN CN R
     gi_wp2
     generalize wr.heap.size = g5 at *
     generalize wr = wA at *
     gi_loopw [3, 17] (fun a i wr => ∃ y : Nat, y <= xn /\ i = .int .i64 y /\ a = .int .i64 ((p : Int) + (y : Int)) /\ Aside0 (J (List.range (p + y)) wr) /\ Aside0 (Cs wr g5 93 (rnc x) /\ Below w0.heap.size w0 wr /\ Bx wr Bn 39 (.slice (some ⟨g, o, none⟩) m c) /\ W.heap.size <= wr.heap.size)) (fun _ i _ => xn - (intOf i).toNat)
     case atStart => exact ⟨0, by omega, rfl, by go_num, JA, ⟨DA.out, WA.out⟩⟩
     case round =>
       obtain ⟨y, hy, rfl, rfl, HJy, HY⟩ := hrel
       have c1 : wr.cell? ⟨g5, 1, none⟩ = some (.int .i64 x.bus) := HY.out.1.cell (by rfl)
       have c2 : wr.cell? ⟨g5, 2, none⟩ = some (.int .u32 x.drv) := HY.out.1.cell (by rfl)
       have hg5 := HY.out.1.lt
       by_cases hlt2 : y < xn
       · obtain ⟨fn, tmps, assign, body, hy2, hR⟩ := hY (List.range (p + y)) (p + y) wr HJy.out (by rw [List.length_range]; omega)
         have e9 : Pl.tk l (p + y) = ⟨1, x.bus, x.drv⟩ := TK.out y (by rw [XN.out]; omega)
         simp only [Pl.encE, e9, Int.natCast_add] at hy2
         have RG := Ad (show List.range (p + y) ++ [p + y] = List.range (p + (y + 1)) from by rw [<- Nat.add_assoc, List.range_succ])
         clear e9 TK
         gi_wp2
         refine hR.mono ?_
         rintro ew W3 (⟨rfl, hJ3, hk3⟩ | ⟨rfl, hJx3⟩)
         · have J3 := Ad (show J (List.range (p + (y + 1))) W3 from by rw [<- RG.out]; exact hJ3)
           have Y3 := Ad (show Cs W3 g5 93 (rnc x) /\ Below w0.heap.size w0 W3 /\ Bx W3 Bn 39 (.slice (some ⟨g, o, none⟩) m c) /\ W.heap.size <= W3.heap.size from ⟨hk3.2.2 _ _ _ _ HY.out.1, HY.out.2.1.trans hk3.1, hk3.2.1 _ HY.out.2.2.1, Nat.le_trans HY.out.2.2.2 hk3.1.size⟩)
           clear hJ3 hk3 hR hy2
           gi_wp2
           go_roundw
           case rel => exact ⟨y + 1, by omega, by go_num, by go_num, J3, Y3⟩
           case measure => simp [intOf]; omega
         · gi_wp2
           refine bodyPost_ret (results_none rfl _ _ _) rfl ?_
           exact ⟨⟨_, rfl⟩, .inr ⟨_, trivial, hJx3⟩⟩
       · have hyx : y = xn := by omega
         subst hyx
         gi_wp2
         go_roundw
         case rel => exact ⟨k + 1, p + y, by omega, by go_num, by go_num, PS, HJy, ⟨HY.out.2⟩⟩
         case measure => simp [intOf]; omega
   · have hkm : k = m := by omega
     subst hkm
     have e : l.take k = l := List.take_of_length_le (by rw [HM.out]; exact Nat.le_refl _)
     rw [e] at HP
     have HP2 := Ad HP.out
     clear e HP
     gi_wp2
     go_end0
     refine ⟨⟨_, rfl⟩, .inl ⟨_, rfl, ?_⟩⟩
     rw [<- HP2.out]
     exact HJr.out
theorem each_stops (n : Nat) (hn : 1 <= n) (Bn m : Nat) (A : Option Addr) (c : Nat) (l : List Run) (hm : l.length = m) (hr : ∀ x ∈ l, Pl.rgt x) (ht : Pl.tot l <= 1000000) (w0 : World) (h : Rd Rv w0 A c l) (w : World) (hBn : Bx w Bn 39 (.slice A m c)) (hB : Below w0.heap.size w0 w) :
   SeqStopsK Fence.wide n Tryz.prog 58 #[.pointer (some ⟨Bn, 0, none⟩)] (Pl.encE l) (KpE w0.heap.size Bn) (fun ys => ys = List.range (Pl.ex l).length) (fun _ => True) (Pl.ex l).length w := fun r J Jx W hW hA _ hY h0 =>
 each_in n hn r Bn m A c l hm hr ht w0 h J Jx W (fun s X Y hs _ hC => hA s X Y none hs hC.grown (fun r e => by cases e)) hY ((hW.block Bn hBn.lt).trans hBn) (hB.trans (hW.mono hB.size)) h0
theorem each_calls (A : Option Addr) (n c : Nat) (w : World) :
   Calls Tryz.prog 38 #[.slice A n c] w fun e w' => e = .returned (.func (.func 58) #[] #[.pointer (some ⟨w.heap.size, 0, none⟩)]) /\ w' = w.alloc (.cells #[.slice A n c] 39) := by
 go_enter Tryz.func38, Tryz.ntmps38
 go_wp2
 go_ret
 exact ⟨rfl, rfl⟩
end
namespace Pl
def Bus.re1 (live : List Act') (mask : Nat) (L : List Run) (b : Bus) (i : Nat) : Bus × Run × List Ev := (b.acted (at' live i)).1.force (b.acted (at' live i)).2 mask (tk L i).drv.toNat
def Bus.re (live : List Act') (mask : Nat) (L : List Run) (s : Bus × List Run × List Ev) (i : Nat) : Bus × List Run × List Ev :=
 ((Bus.re1 live mask L s.1 i).1, s.2.1 ++ [(Bus.re1 live mask L s.1 i).2.1], s.2.2 ++ (Bus.re1 live mask L s.1 i).2.2)
def Bus.res (live : List Act') (mask : Nat) (L : List Run) (b : Bus) (pre : List Nat) : Bus × List Run × List Ev := pre.foldl (Bus.re live mask L) (b, [], [])
theorem Bus.res_snoc (live : List Act') (mask : Nat) (L : List Run) (b : Bus) (pre : List Nat) (i : Nat) : Bus.res live mask L b (pre ++ [i]) = Bus.re live mask L (Bus.res live mask L b pre) i := by simp [Bus.res]
theorem force_evs {n m : Nat} {b : Bus} (h : b.good n m) (f mask d : Nat) : (b.force f mask d).2.2.length <= 4 * n := by
 have := stepsE_le f mask (b.run mask d).bus b.tick b.nodes 0
 rw [show b.nodes.length = n from h.len] at this
 exact this
theorem snoc_ind {α : Type} {P : List α -> Prop} (h0 : P []) (h1 : ∀ l x, P l -> P (l ++ [x])) : ∀ (n : Nat) (l : List α), l.length = n -> P l
 | 0, l, h => by rw [List.eq_nil_of_length_eq_zero h]; exact h0
 | n + 1, l, h => by
   have hne : l ≠ [] := by intro e; rw [e] at h; simp at h
   have e := List.dropLast_concat_getLast hne
   rw [<- e]
   exact h1 _ _ (snoc_ind h0 h1 n _ (by rw [List.length_dropLast, h]; rfl))
theorem res_good {n : Nat} {live : List Act'} {mask : Nat} {L : List Run} {b : Bus} (h : b.good n 0) (hb : b.tick = 0) (hl : ∀ a ∈ live, 0 <= a.node /\ a.node < n) : ∀ pre : List Nat,
   (Bus.res live mask L b pre).1.good n pre.length /\ (Bus.res live mask L b pre).1.tick = pre.length /\ (Bus.res live mask L b pre).2.1.length = pre.length /\ (∀ r ∈ (Bus.res live mask L b pre).2.1, rgt r /\ r.n = 1) /\ (Bus.res live mask L b pre).2.2.length <= 4 * n * pre.length := by
 intro pre
 refine snoc_ind (P := fun pre => (Bus.res live mask L b pre).1.good n pre.length /\ (Bus.res live mask L b pre).1.tick = pre.length /\ (Bus.res live mask L b pre).2.1.length = pre.length /\ (∀ r ∈ (Bus.res live mask L b pre).2.1, rgt r /\ r.n = 1) /\ (Bus.res live mask L b pre).2.2.length <= 4 * n * pre.length) ?_ ?_ pre.length pre rfl
 · exact ⟨h, hb, rfl, by simp [Bus.res], by simp [Bus.res]⟩
 · intro pre i ih
   obtain ⟨h1, h2, h3, h4, h5⟩ := ih
   rw [Bus.res_snoc, Bus.re]
   generalize Bus.res live mask L b pre = s at *
   obtain ⟨g1, g2, g3⟩ := acted_good (at' live i) (s.1, 0) h1 (Nat.pow_pos (by decide)) (fun a ha => hl a (at_mem ha))
   obtain ⟨g4, g5⟩ := force_good g1 (s.1.acted (at' live i)).2 mask (tk L i).drv.toNat
   have g6 := force_evs g1 (s.1.acted (at' live i)).2 mask (tk L i).drv.toNat
   rw [List.length_append, List.length_singleton]
   refine ⟨g4, ?_, by simp [h3], ?_, ?_⟩
   · show (Bus.re1 live mask L s.1 i).1.tick = _
     rw [show (Bus.re1 live mask L s.1 i).1.tick = (s.1.acted (at' live i)).1.tick + 1 from g5, show (s.1.acted (at' live i)).1.tick = s.1.tick from g3, h2]
     simp
   · intro r hr
     rcases List.mem_append.1 hr with hr | hr
     · exact h4 r hr
     · simp at hr
       subst hr
       exact ⟨(run_rgt _ _ _).1, (run_rgt _ _ _).2.1⟩
   · rw [List.length_append, Nat.mul_add, Nat.mul_one]
     exact Nat.add_le_add h5 g6
end Pl
section
open Go.RowKit Go.Shelf Go.Proofs.YtjoehjclaonneaaGreatW.PrintWords
section
variable {α : Type} {E : El α} {w w' W : World} {b b' : Nat} {q q' : Option Nat} {A A' : Option Addr} {c c' : Nat} {l m : List α}
theorem run_append_Ow2 (h : Ow E W b q A c l) {X : Option Addr} {cx k : Nat} {ys : List α} (hY : Rd E W X cx ys) (hk : ys.length = k) (hl : (l.length + k) * E.bytes <= 140737488355328) (hbase : b <= W.heap.size) (ty : TypeId) :
   ∃ A' c' q' W', (Builtin.append_ #[E.s, E.s] ty #[.slice A l.length c, .slice X k cx]).run Tryz.prog W = .ok (.slice A' (l.length + k) c') W' /\ Ow E W' b q' A' c' (l ++ ys) /\ Ch q.toList W W' /\ (q' = q ∨ q' = some W.heap.size) /\ (l.length + k <= c ∨ Ch [] W W') := by
 subst hk
 obtain ⟨i0, hi, hzz⟩ := Option.map_eq_some_iff.1 E.info
 simp only [Prod.mk.injEq] at hzz
 obtain ⟨hz0, hz1, hz2⟩ := hzz
 have ht := E.und
 have hs0 := E.sz0
 have hbig : l.length + ys.length <= 140737488355328 := Nat.le_trans (Nat.le_mul_of_pos_right _ E.by0) hl
 rcases Nat.eq_zero_or_pos ys.length with h0 | h0
 · obtain rfl : ys = [] := List.eq_nil_of_length_eq_zero h0
   refine ⟨A, c, q, W, ?_, by simpa using h, Ch.refl _ W, .inl rfl, .inr (Ch.refl _ W)⟩
   have hf : (Builtin.firstCells i0.size 0 (.slice X 0 cx)).run Tryz.prog W = .ok #[] W := by
     cases X <;> simp [Builtin.firstCells, loadCells, loadCellsFrom]
   rcases h.lies with ⟨rfl, rfl, rfl, _⟩ | ⟨g, cur, _, rfl, _, hg, h1, h2, h3, h4⟩
   · simp [Builtin.append_, run_underlying ht, sizeOf, typeInfo, hi, Builtin.lenOf, hf]
   · simp [Builtin.append_, run_underlying ht, sizeOf, typeInfo, hi, Builtin.lenOf, hf, h1, storeCells]
 · obtain ⟨gx, ox, rfl, _⟩ := hY.at_ h0
   have hcells := hY.flat rfl
   have hone := E.flat_one ys
   have hlm : l.length + ys.length <= maxLen := by unfold maxLen; omega
   have grown : ∀ (old : Nat), old < l.length + ys.length -> ∀ (row : Option Nat),
       Ow E (W.drew.alloc (.cells ((E.flat l).toArray ++ (E.flat ys).toArray ++ Builtin.zeroCells E.zero.cells (grownCap W (l.length + ys.length) old E.t - (l.length + ys.length))) E.t)) b (some W.heap.size) (some ⟨W.heap.size, 0, none⟩) (grownCap W (l.length + ys.length) old E.t) (l ++ ys) /\
       Ch row.toList W (W.drew.alloc (.cells ((E.flat l).toArray ++ (E.flat ys).toArray ++ Builtin.zeroCells E.zero.cells (grownCap W (l.length + ys.length) old E.t - (l.length + ys.length))) E.t)) := by
     intro old ho row
     have hge := grownCap_ge W (l.length + ys.length) old E.t
     have hcm : grownCap W (l.length + ys.length) old E.t <= maxLen := grownCap_le_maxLen W (l.length + ys.length) old E.t hlm
     refine ⟨⟨.inr ⟨W.heap.size, _, rfl, rfl, hbase, heap_alloc_new W.drew _, by rw [List.length_append]; exact hge, ?_, hcm, ?_⟩⟩, (Ch.refl _ _).drew.alloc _⟩
     · simp only [Array.size_append, List.size_toArray, size_zeroCells, El.flat_length, E.hz]
       rw [<- Nat.add_mul, <- Nat.add_mul]
       exact Nat.mul_le_mul_right _ (by omega)
     · simp only [Array.toList_append]
       rw [<- El.flat_app, <- El.flat_length]
       exact List.take_left
   rcases h.lies with ⟨rfl, rfl, rfl, rfl⟩ | ⟨g, cur, rfl, rfl, hbg, hg, h1, h2, h3, h4⟩
   · have hr := run_append_nil (P := Tryz.prog) W E.s ty E.t i0 E.zero ht hi hz0 ⟨gx, ox, none⟩ ys.length cx (E.flat ys) (by rw [hz1, El.flat_length]) hcells h0 (by simp at hbig; omega) (by rw [hz2]; simp at hl; omega)
     have hgr := grown 0 (by simp; omega) none
     simp only [List.length_nil, Nat.zero_add, List.nil_append] at hgr ⊢
     have e0 : (E.flat []).toArray = #[] := rfl
     rw [e0, Array.empty_append] at hgr
     exact ⟨_, _, _, _, hr, hgr.1, hgr.2, .inr rfl, .inr hgr.2⟩
   · by_cases hroom : l.length + ys.length <= c
     · have hfit : l.length * i0.size + (E.flat ys).length <= cur.size := by
         rw [El.flat_length, hz1, <- Nat.add_mul]
         exact Nat.le_trans (Nat.mul_le_mul_right _ hroom) h2
       have hr := run_append_room (P := Tryz.prog) W E.s ty E.t i0 ht hi g l.length c cur hg ⟨gx, ox, none⟩ ys.length cx (E.flat ys) (by rw [hz1, El.flat_length]) hcells hone hroom hfit
       refine ⟨_, _, some g, _, hr, ⟨.inr ⟨g, _, rfl, rfl, hbg, setRow_heap W g cur _ E.t _ hg, by rw [List.length_append]; exact hroom, ?_, h3, ?_⟩⟩, ⟨rfl, rfl, rfl, by simp, fun k _ hk => setRow_other W g k _ (fun e => hk (by simp [e]))⟩, .inl rfl, .inl hroom⟩
       · simp only [List.size_toArray, List.length_append, List.length_take, List.length_drop, Array.length_toList, hz1]
         rw [hz1] at hfit
         omega
       · rw [hz1, h4, <- El.flat_app, <- El.flat_length]
         exact List.take_left
     · have holds : ∀ j u, (E.flat l)[j]? = some u -> W.cell? ((⟨g, 0, none⟩ : Addr).add j) = some u := h.rd.flat rfl
       have hr := run_append_grow (P := Tryz.prog) W E.s ty E.t i0 E.zero ht hi hz0 ⟨g, 0, none⟩ l.length c (E.flat l) (by rw [hz1, El.flat_length]) holds ⟨gx, ox, none⟩ ys.length cx (E.flat ys) (by rw [hz1, El.flat_length]) hcells (by omega) (by omega) (growslice_fits (by omega) (by rw [hz2]; omega))
       have hgr := grown c (by omega) none
       exact ⟨_, _, _, _, hr, hgr.1, hgr.2.any, .inr rfl, .inr hgr.2⟩
theorem wpListIn_append_Ow2 {F : Fence} {n : Nat} {ops : Array Oper} {rest : List Oper} {op : Oper} {a : Act} {Q : Exit -> Act -> World -> Prop} {m : Nat} (hgd : op.guard = none) (s x : Operand) (t : TypeId) (ht : E.s = t)
   (ho : op.op = .call { callee := .builtin .append, args := #[s, x], argTypes := #[t, t] }) (X : Option Addr) (k cx : Nat) (ys : List α) (hs : a.eval s = .slice A m c) (hx : a.eval x = .slice X k cx) (hn : l.length = m)
   (h : Ow E W b q A c l) (hY : Rd E W X cx ys) (hk : ys.length = k) (hl : (m + k) * E.bytes <= 140737488355328) (hbase : b <= W.heap.size)
   (hK : ∀ A' c' q' W', Ow E W' b q' A' c' (l ++ ys) -> Ch q.toList W W' -> (q' = q ∨ q' = some W.heap.size) -> (m + k <= c ∨ Ch [] W W') -> wpListIn F n Tryz.prog ops Q rest (a.put op.dst (.slice A' (m + k) c')) W') :
   wpListIn F n Tryz.prog ops Q (op :: rest) a W := by
 subst hn ht
 obtain ⟨A', c', q', W', hr, h1, h2, h3, h4⟩ := run_append_Ow2 h (cx := cx) hY hk hl hbase op.type
 refine wpListIn_plain hgd fun K hK' => ?_
 unfold Oper.wpIn
 refine ⟨?_, ?_⟩
 · simp [Oper.about, ho, resolve, Target.leads, Sem.run_pure]
 · rw [Oper.semAt_plain F _ _ (by rw [ho]; intro c hc'; cases hc')]
   simp [execOp, ho, resolve, invoke, builtin, hs, hx, hr, Result.andThen]
   exact hK' _ _ (hK A' c' q' W' h1 h2 h3 h4)
end
end
section
open Go.RowKit Go.Shelf Go.Proofs.YtjoehjclaonneaaGreatW.PrintWords
attribute [local go_sem] Oper.semAt_some
namespace Vr.Pl
theorem row_app : ∀ l m : List Nat, row (l ++ m) = row l ++ row m
 | [], m => rfl
 | n :: l, m => by simp [row, row_app l m]
theorem row_rng (l : List Nat) : ∀ x ∈ row l, 0 <= x /\ x < 256 := by
 induction l with
 | nil => simp [row]
 | cons n l ih =>
   intro x hx
   rw [row] at hx
   rcases List.mem_append.1 hx with h | h
   · exact Vr.put_rng n x h
   · exact ih x h
def off (l : List Nat) (k : Nat) : Nat := (row (l.take k)).length
theorem off_succ {l : List Nat} {k n : Nat} (h : l[k]? = some n) : off l (k + 1) = off l k + (put n).length := by
 unfold off
 rw [List.take_add_one, h, Option.toList_some, row_snoc, List.length_append]
theorem off_drop {l : List Nat} {k n : Nat} (h : l[k]? = some n) : (row l).drop (off l k) = put n ++ row (l.drop (k + 1)) := by
 have hk := (List.getElem?_eq_some_iff.1 h).1
 have e : l = l.take k ++ n :: l.drop (k + 1) := by
   have h1 := List.take_append_drop k l
   rw [List.drop_eq_getElem_cons hk, (List.getElem?_eq_some_iff.1 h).2] at h1
   exact h1.symm
 have e2 : row l = row (l.take k) ++ (put n ++ row (l.drop (k + 1))) := by
   conv => lhs; rw [e]
   rw [row_app, row]
 unfold off
 rw [e2, List.drop_left]
theorem off_lt {l : List Nat} {k n : Nat} (h : l[k]? = some n) : off l k < (row l).length := by
 have h1 := congrArg List.length (off_drop h)
 have h2 := put_one n
 rw [List.length_drop, List.length_append] at h1
 omega
theorem off_all (l : List Nat) : off l l.length = (row l).length := by rw [off, List.take_length]
theorem off_le {l : List Nat} {k n : Nat} (h : l[k]? = some n) : off l k + (put n).length <= (row l).length := by
 have h1 := congrArg List.length (off_drop h)
 have h2 := off_lt h
 rw [List.length_drop, List.length_append] at h1
 omega
end Vr.Pl
open Vr.Pl (row off)
def encN (ns : List Nat) (i : Nat) : Array Value := #[.agg #[.int .u64 (ns.getD i 0 : Nat), .int .i64 (off ns i : Nat), .int .i64 0]]
def KpN (n₀ Bn : Nat) (W W' : World) : Prop := Below n₀ W W' /\ ∀ v, Bx W Bn 64 v -> Bx W' Bn 64 v
set_option maxRecDepth 100000 in
theorem numb_in (n : Nat) (hn : 1 <= n) (r Bn m : Nat) (A : Option Addr) (c : Nat) (ns : List Nat) (hns : ∀ x ∈ ns, x < 18446744073709551616) (hm : (row ns).length = m) (w0 : World) (h : Rd By w0 A c (row ns)) (J Jx : List Nat -> World -> Prop) (W : World)
   (hY : ∀ pre x W, J pre W -> pre.length < ns.length -> YieldAt Fence.wide (n - 1) Tryz.prog r (encN ns x) W fun e W' =>
     (e = .returned (.bool true) /\ J (pre ++ [x]) W' /\ KpN w0.heap.size Bn W W') ∨ (e = .returned (.bool false) /\ Jx (pre ++ [x]) W'))
   (hBn : Bx W Bn 64 (.slice A m c)) (hB : Below w0.heap.size w0 W) (h0 : J [] W) :
   CallsIn Fence.wide n Tryz.prog 116 #[.func (.yield r) #[] #[], .pointer (some ⟨Bn, 0, none⟩)] W fun e W' => (∃ v, e = .returned v) /\
     ((∃ ys, ys = List.range ns.length /\ J ys W') ∨ (∃ pre, True /\ Jx pre W')) := by
 have hlen : (m : Int) <= 9223372036854775807 := h.len63 hm
 have hcap : m <= c := by have := h.cap; omega
 have H := Ad h
 have HM := Ad hm
 have HN := Ad hns
 have HB := Ad hB
 have HBn := Ad hBn
 have J0 := Ad h0
 clear h hm hns hB hBn h0
 refine callsIn_of_wp Tryz.func116 rfl trivial ?_ rfl
 simp only [Tryz.ntmps116, List.size_toArray, List.length_cons, List.length_nil, Nat.reduceAdd, Nat.reduceSub, Array.replicate_succ, Array.replicate_zero, List.push_toArray, List.append_toArray, List.nil_append, List.cons_append]
 gi_wp2
 gi_loopw [3, 4, 5, 6] (fun a _ _ _ wr => ∃ k p : Nat, k <= ns.length /\ a = .int .i64 p /\ Aside0 (p = off ns k /\ J (List.range k) wr /\ Below w0.heap.size w0 wr /\ Bx wr Bn 64 (.slice A m c)))
   (fun a _ _ _ _ => m - (intOf a).toNat)
 case atStart => exact ⟨0, 0, by omega, rfl, ⟨rfl, J0.out, HB.out, HBn.out⟩⟩
 case round =>
   obtain ⟨k, p, hk, rfl, HR⟩ := hrel
   have cX := HR.out.2.2.2.cell
   have lX := HR.out.2.2.2.lt
   by_cases hlt : k < ns.length
   · obtain ⟨x, hx⟩ : ∃ x, ns[k]? = some x := ⟨_, List.getElem?_eq_getElem hlt⟩
     have hpl := Vr.Pl.off_lt hx
     rw [HM.out, <- HR.out.1] at hpl
     obtain ⟨A2, cut1, kb⟩ := cut_drop By 64 rfl A c p m (by omega) hcap
     obtain ⟨fn, tmps, assign, body, hy, hR⟩ := hY (List.range k) k wr HR.out.2.1 (by rw [List.length_range]; exact hlt)
     have hx0 : ns.getD k 0 = x := by rw [List.getD_eq_getElem?_getD, hx]; rfl
     simp only [encN, hx0, <- HR.out.1] at hy
     have hrd := kb.1 wr (row ns) HM.out (H.out.below HR.out.2.2.1)
     have hdr := Vr.Pl.off_drop hx
     rw [<- HR.out.1] at hdr
     rw [hdr] at hrd
     have G := Ad ((callsIn_wide (n := n - 1)).2 (Vr.get_calls A2 (c - p) (m - p) (Vr.Pl.put x ++ row (ns.drop (k + 1))) (by rw [<- hdr, List.length_drop, HM.out]) (fun y hy => Vr.Pl.row_rng ns y (List.mem_of_mem_drop (by rw [hdr]; exact hy))) wr hrd))
     rw [Vr.Pl.get_put x (HN.out x (List.mem_of_getElem? hx))] at G
     have OS := Ad (Vr.Pl.off_succ hx)
     have hpm : p + (Vr.Pl.put x).length <= m := by have := Vr.Pl.off_le hx; rw [HM.out, <- HR.out.1] at this; exact this
     have hp1 := Vr.Pl.put_one x
     obtain ⟨y, hyl⟩ : ∃ y, (Vr.Pl.put x).length = y := ⟨_, rfl⟩
     rw [hyl] at G OS hpm hp1
     clear kb hrd hdr hx hx0 hyl
     gi_wp2
     refine ⟨trivial, ?_⟩
     gi_at_call 73
     refine G.out.mono ?_
     rintro ew w2 ⟨rfl, rfl⟩
     clear G
     gi_wp2
     refine hR.mono ?_
     rintro ew W3 (⟨rfl, hJ3, hk3⟩ | ⟨rfl, hJx3⟩)
     · have Y3 := Ad (show (p + y = off ns (k + 1) /\ J (List.range (k + 1)) W3 /\ Below w0.heap.size w0 W3 /\ Bx W3 Bn 64 (.slice A m c)) from ⟨by rw [OS.out, <- HR.out.1], by rw [List.range_succ]; exact hJ3, HR.out.2.2.1.trans hk3.1, hk3.2 _ HR.out.2.2.2⟩)
       clear hJ3 hk3 hR hy
       gi_wp2
       go_roundw
       case rel => exact ⟨k + 1, p + y, by omega, by go_num, Y3⟩
       case measure => simp [intOf]; omega
     · gi_wp2
       refine bodyPost_ret (results_none rfl _ _ _) rfl ?_
       exact ⟨⟨_, rfl⟩, .inr ⟨_, trivial, hJx3⟩⟩
   · have hkn : k = ns.length := by omega
     subst hkn
     have hp : p = m := by rw [HR.out.1, Vr.Pl.off_all, HM.out]
     subst hp
     gi_wp2
     go_end0
     exact ⟨⟨_, rfl⟩, .inl ⟨_, rfl, HR.out.2.1⟩⟩
theorem numb_stops (n : Nat) (hn : 1 <= n) (Bn m : Nat) (A : Option Addr) (c : Nat) (ns : List Nat) (hns : ∀ x ∈ ns, x < 18446744073709551616) (hm : (row ns).length = m) (w0 : World) (h : Rd By w0 A c (row ns)) (w : World) (hBn : Bx w Bn 64 (.slice A m c)) (hB : Below w0.heap.size w0 w) :
   SeqStopsK Fence.wide n Tryz.prog 116 #[.pointer (some ⟨Bn, 0, none⟩)] (encN ns) (KpN w0.heap.size Bn) (fun ys => ys = List.range ns.length) (fun _ => True) ns.length w := fun r J Jx W hW _ _ hY h0 =>
 numb_in n hn r Bn m A c ns hns hm w0 h J Jx W hY ((hW.block Bn hBn.lt).trans hBn) (hB.trans (hW.mono hB.size)) h0
theorem numb_calls (A : Option Addr) (n c : Nat) (w : World) :
   Calls Tryz.prog 93 #[.slice A n c] w fun e w' => e = .returned (.func (.func 116) #[] #[.pointer (some ⟨w.heap.size, 0, none⟩)]) /\ w' = w.alloc (.cells #[.slice A n c] 64) := by
 go_enter Tryz.func93, Tryz.ntmps93
 go_wp2
 go_ret
 exact ⟨rfl, rfl⟩
end
end Go.Proofs.YtjoehjclaonneaaGreat
