/- A part of the proof of TopReplay (no condition of its own). -/
import Derived.Laws.BitsAllLaws
import Derived.Lib.SliceRun
import Derived.OwnWalk
import Derived.Test.YtjoehjclaonneaaGreatMJ
import Derived.Test.YtjoehjclaonneaaGreatMH
namespace Go.Proofs.YtjoehjclaonneaaGreat
open Go.RowKit Go.Proofs.YtjoehjclaonneaaGreatW.PrintWords
set_option maxHeartbeats 8000000
set_option linter.unusedVariables false
set_option linter.unusedSimpArgs false
theorem u32_andNot_nat (a b : Nat) (ha : a < 4294967296) (hb : b < 4294967296) : bits .andNot .u32 (a : Int) (b : Int) = ((a &&& (4294967295 - b) : Nat) : Int) := by
 have hx : a &&& (4294967295 - b) < 2 ^ 32 := Nat.and_lt_two_pow _ (by omega)
 show IntKind.u32.wrap ((BitVec.ofInt 32 (a : Int) &&& ~~~ BitVec.ofInt 32 (b : Int)).toNat : Int) = _
 rw [BitVec.toNat_and, BitVec.toNat_not, ofInt_u32 a ha, ofInt_u32 b hb, IntKind.wrap_u32', show 2 ^ 32 - 1 - b = 4294967295 - b from rfl]
 omega
namespace Pl
def clr (m i : Nat) : Nat := m &&& (4294967295 - 2 ^ i)
def dom (mask drive i : Nat) (x : Nd) : Bool := if mask.testBit i then !drive.testBit i else decide (x.drive = 0)
def lvls (mask drive : Nat) : List Nd -> Nat -> Nat -> Nat
 | [], _, m => m
 | x :: xs, i, m => lvls mask drive xs (i + 1) (if dom mask drive i x then clr m i else m)
def sees (faults : Nat) (level : Int) (i : Nat) : Int := if faults.testBit i then 1 - level else level
def stamp (tick : Int) (i : Nat) (e : Ev) : Ev := { e with tick := tick, node := i }
def stepsN (faults mask : Nat) (level : Int) : List Nd -> Nat -> List Nd
 | [], _ => []
 | x :: xs, i => (if mask.testBit i then x else (x.step Td.none (sees faults level i)).1) :: stepsN faults mask level xs (i + 1)
def stepsE (faults mask : Nat) (level tick : Int) : List Nd -> Nat -> List Ev
 | [], _ => []
 | x :: xs, i => (if mask.testBit i then [] else (x.step Td.none (sees faults level i)).2.evs.map (stamp tick i)) ++ stepsE faults mask level tick xs (i + 1)
structure Bus where
 nodes : List Nd
 tick : Int
def Bus.run (b : Bus) (mask drive : Nat) : Run := ⟨1, if lvls mask drive b.nodes 0 4294967295 = 4294967295 then 1 else 0, (lvls mask drive b.nodes 0 4294967295 : Nat)⟩
def Bus.force (b : Bus) (faults mask drive : Nat) : Bus × Run × List Ev :=
 (⟨stepsN faults mask (b.run mask drive).bus b.nodes 0, b.tick + 1⟩, b.run mask drive, stepsE faults mask (b.run mask drive).bus b.tick b.nodes 0)
def Bus.put (b : Bus) (i : Nat) (f : Fr) : Bus := match b.nodes[i]? with
 | some x => { b with nodes := b.nodes.set i { x with queue := pput f x.queue } }
 | none => b
def Bus.acts (b : Bus) : List Act' -> Nat -> Bus × Nat
 | [], m => (b, m)
 | a :: l, m => if a.fault then b.acts l (m ||| 2 ^ a.node.toNat) else (b.put a.node.toNat a.f).acts l m
def Bus.play (l : List Act') : Nat -> Bus -> List Run -> List Ev -> List Run × List Ev
 | 0, _, runs, evs => (runs, evs)
 | n + 1, b, runs, evs =>
   let c := b.acts (l.filter (fun a => decide (a.tick = b.tick))) 0
   let f := c.1.force c.2 0 0
   f.1.play l n (bjoin runs f.2.1) (evs ++ f.2.2)
end Pl
namespace Pl
def after (faults mask : Nat) (level : Int) (i : Nat) (x : Nd) : Nd := if mask.testBit i then x else (x.step Td.none (sees faults level i)).1
def tells (faults mask : Nat) (level tick : Int) (i : Nat) (x : Nd) : List Ev := if mask.testBit i then [] else (x.step Td.none (sees faults level i)).2.evs.map (stamp tick i)
theorem stepsN_length (f m : Nat) (lv : Int) : ∀ (xs : List Nd) (i : Nat), (stepsN f m lv xs i).length = xs.length
 | [], _ => rfl
 | _ :: xs, i => by simp [stepsN, stepsN_length f m lv xs]
theorem stepsN_get (f m : Nat) (lv : Int) : ∀ (xs : List Nd) (i k : Nat) (x : Nd), xs[k]? = some x -> (stepsN f m lv xs i)[k]? = some (after f m lv (i + k) x)
 | [], _, _, _, h => by simp at h
 | y :: xs, i, 0, x, h => by simp at h; subst h; simp [stepsN, after]
 | y :: xs, i, k + 1, x, h => by
   simp only [List.getElem?_cons_succ] at h
   rw [stepsN, List.getElem?_cons_succ, stepsN_get f m lv xs (i + 1) k x h, show i + 1 + k = i + (k + 1) by omega]
theorem stepsE_snoc (f m : Nat) (lv tick : Int) : ∀ (xs : List Nd) (i : Nat) (x : Nd), stepsE f m lv tick (xs ++ [x]) i = stepsE f m lv tick xs i ++ tells f m lv tick (i + xs.length) x
 | [], i, x => by simp [stepsE, tells]
 | y :: xs, i, x => by
   rw [List.cons_append, stepsE, stepsE, stepsE_snoc f m lv tick xs (i + 1) x, List.append_assoc, List.length_cons, show i + 1 + xs.length = i + (xs.length + 1) by omega]
def partly (f m : Nat) (lv : Int) (xs : List Nd) (k : Nat) : List Nd := (stepsN f m lv xs 0).take k ++ xs.drop k
theorem partly_zero (f m : Nat) (lv : Int) (xs : List Nd) : partly f m lv xs 0 = xs := by simp [partly]
theorem partly_all (f m : Nat) (lv : Int) (xs : List Nd) : partly f m lv xs xs.length = stepsN f m lv xs 0 := by
 rw [partly, List.drop_length, List.append_nil, List.take_of_length_le (by rw [stepsN_length]; exact Nat.le_refl _)]
theorem partly_get (f m : Nat) (lv : Int) (xs : List Nd) (k : Nat) (x : Nd) (h : xs[k]? = some x) : (partly f m lv xs k)[k]? = some x := by
 have hk := (List.getElem?_eq_some_iff.1 h).1
 rw [partly, List.getElem?_append_right (by rw [List.length_take, stepsN_length]; omega), List.length_take, stepsN_length, List.getElem?_drop, show k + (k - min k xs.length) = k by omega]
 exact h
theorem partly_set (f m : Nat) (lv : Int) (xs : List Nd) (k : Nat) (x : Nd) (h : xs[k]? = some x) : (partly f m lv xs k).set k (after f m lv k x) = partly f m lv xs (k + 1) := by
 have hk := (List.getElem?_eq_some_iff.1 h).1
 have hs := stepsN_get f m lv xs 0 k x h
 rw [Nat.zero_add] at hs
 have hl : ((stepsN f m lv xs 0).take k).length = k := by rw [List.length_take, stepsN_length]; omega
 rw [partly, partly, List.set_append_right _ _ (by omega), hl, Nat.sub_self, List.take_add_one, hs, show xs.drop k = xs[k] :: xs.drop (k + 1) from List.drop_eq_getElem_cons hk, List.set_cons_zero, List.append_assoc]
 rfl
end Pl
section
theorem wpList_put_Cs {W : World} {g : Nat} {t : TypeId} {cs : List Value} {ops : Array Oper} {rest : List Oper} {op : Oper} {a : Go.Act} {Q : Exit -> Go.Act -> World -> Prop} (hgd : op.guard = none) (ty : TypeId) (x y : Operand) (ho : op.op = .store ty x y) (o : Nat) (v : Value)
   (hx : a.eval x = .pointer (some ⟨g, o, none⟩)) (hy : a.eval y = v) (hi : (Tryz.prog.info? ty).map (·.size) = some 1) (h1 : v.oneCell' = true) (h : Cs W g t cs) (hl : o < cs.length)
   (hK : ∀ W2, Cs W2 g t (cs.set o v) -> Ch [g] W W2 -> wpList Tryz.prog ops Q rest (a.put op.dst undef) W2) : wpList Tryz.prog ops Q (op :: rest) a W :=
 wpList_set_Cs hgd ty x y ho o v hx hy hi h1 h hl (fun W2 _ h2 h3 => hK W2 h2 h3)
section
variable {w w' : World} {b gB c : Nat} {A : Option Addr} {q : Option Nat} {ps : List (Nat × Lay)} {xs : List Pl.Nd} {tick : Int}
theorem BusAt.other (h : BusAt w b gB A c q ps xs tick) {k : Nat} {cur : Array Value} {T : TypeId} (hk : w.heap[k]? = some (.cells cur T (0, 0))) (hT : T = 51 ∨ T = 93) : k ∉ bfp gB q ps := by
 intro hm
 simp only [bfp, List.mem_cons, List.mem_append, Option.mem_toList] at hm
 rcases hm with rfl | hm | hm
 · exact blk_ne hk h.cs (by rcases hT with rfl | rfl <;> decide) rfl
 · have := h.ow
   rw [hm] at this
   obtain ⟨cur', hc⟩ := this.blk
   exact blk_ne hk hc (by rcases hT with rfl | rfl <;> decide) rfl
 · obtain ⟨i, p, hp, hk2⟩ := mem_fps.1 hm
   have hi : i < xs.length := by rw [<- h.ns.len]; exact (List.getElem?_eq_some_iff.1 hp).1
   obtain ⟨cur', T', hb, _, _, h3, h4⟩ := (h.ns.at_ i p _ hp (List.getElem?_eq_getElem hi)).kinds k hk2
   exact blk_ne hk hb (by rcases hT with rfl | rfl; exact fun e => h3 e.symm; exact fun e => h4 e.symm) rfl
theorem partly_same (f m : Nat) (lv : Int) (xs : List Pl.Nd) (k : Nat) (x : Pl.Nd) (h : xs[k]? = some x) (hm : m.testBit k = true) : Pl.partly f m lv xs (k + 1) = Pl.partly f m lv xs k := by
 rw [<- Pl.partly_set f m lv xs k x h, Pl.after, if_pos hm]
 apply List.ext_getElem?
 intro j
 rw [List.getElem?_set]
 split
 · rename_i e
   subst e
   have hg := Pl.partly_get f m lv xs k x h
   rw [if_pos (List.getElem?_eq_some_iff.1 hg).1, hg]
 · rfl
theorem partly_length (f m : Nat) (lv : Int) (xs : List Pl.Nd) (k : Nat) (hk : k <= xs.length) : (Pl.partly f m lv xs k).length = xs.length := by
 rw [Pl.partly, List.length_append, List.length_take, Pl.stepsN_length, List.length_drop]
 omega
theorem BusAt.ticked (h : BusAt w b gB A c q ps xs tick) (t : Int) : BusAt (w.setCell ⟨gB, 1, none⟩ (.int .i64 t)) b gB A c q ps xs t /\ Ch [gB] w (w.setCell ⟨gB, 1, none⟩ (.int .i64 t)) := by
 have hs : Ch [gB] w (w.setCell ⟨gB, 1, none⟩ (.int .i64 t)) := (Ch.refl [gB] w).set _ _ (.inl (by simp))
 have hf := h.free
 refine ⟨⟨h.cs.set 1 _, h.ow.keep hs (fun k hk hm => ?_), h.ns.keep hs (fun k hk => by simpa using (hf k hk).1), h.gb⟩, hs⟩
 simp only [List.mem_cons, List.not_mem_nil, or_false] at hm
 subst hm
 have := h.ow
 rw [hk] at this
 obtain ⟨cur, hc⟩ := this.blk
 exact blk_ne h.cs hc (by decide) rfl
theorem BusAt.apart {b2 c2 : Nat} {A2 : Option Addr} {q2 : Option Nat} {l : List Ev} (h : BusAt w b gB A c q ps xs tick) (ho : Ow Evv w b2 q2 A2 c2 l) : ∀ k, k ∈ bfp gB q ps -> k ∉ q2.toList := by
 intro k hk hm
 rw [Option.mem_toList] at hm
 rw [hm] at ho
 obtain ⟨cur, hc⟩ := ho.blk
 exact h.other hc (.inl rfl) hk
theorem Pl.tells_le (f m : Nat) (lv tick : Int) (i : Nat) (x : Pl.Nd) : (Pl.tells f m lv tick i x).length <= 4 := by
 unfold Pl.tells
 split
 · simp
 · have := Pl.step_kn x Pl.Td.none (Pl.sees f lv i)
   unfold Pl.Td.evs
   rw [List.length_map, List.length_map]
   simpa [Pl.Td.none] using this
theorem Pl.stepsE_le (f m : Nat) (lv tick : Int) : ∀ (xs : List Pl.Nd) (i : Nat), (Pl.stepsE f m lv tick xs i).length <= 4 * xs.length
 | [], _ => by simp [Pl.stepsE]
 | x :: xs, i => by
   have h1 := Pl.tells_le f m lv tick i x
   have h2 := Pl.stepsE_le f m lv tick xs (i + 1)
   unfold Pl.tells at h1
   rw [Pl.stepsE, List.length_append, List.length_cons]
   omega
theorem Pl.stepsE_take (f m : Nat) (lv tick : Int) (xs : List Pl.Nd) (k : Nat) (x : Pl.Nd) (h : xs[k]? = some x) : Pl.stepsE f m lv tick (xs.take (k + 1)) 0 = Pl.stepsE f m lv tick (xs.take k) 0 ++ Pl.tells f m lv tick k x := by
 have hk := (List.getElem?_eq_some_iff.1 h).1
 rw [List.take_add_one, h, Option.toList_some, Pl.stepsE_snoc, List.length_take, Nat.zero_add, Nat.min_eq_left (Nat.le_of_lt hk)]
end
end
def Pl.rgt (r : Run) : Prop := 1 <= r.n /\ r.n <= 1073741824 /\ r.bus = if r.drv = 4294967295 then 1 else 0
def Pl.tot : List Run -> Int
 | [] => 0
 | r :: l => r.n + Pl.tot l
theorem Pl.tot_app : ∀ l m : List Run, Pl.tot (l ++ m) = Pl.tot l + Pl.tot m
 | [], m => by simp [Pl.tot]
 | r :: l, m => by simp only [List.cons_append, Pl.tot, Pl.tot_app l m]; omega
theorem Pl.tot_nn : ∀ l : List Run, (∀ r ∈ l, 0 <= r.n) -> 0 <= Pl.tot l
 | [], _ => Int.le_refl _
 | r :: l, h => by
   have := h r (by simp)
   have := Pl.tot_nn l (fun x hx => h x (by simp [hx]))
   simp only [Pl.tot]
   omega
theorem Pl.tot_take_succ (l : List Run) (k : Nat) (r : Run) (h : l[k]? = some r) : Pl.tot (l.take (k + 1)) = Pl.tot (l.take k) + r.n := by
 rw [List.take_add_one, h, Pl.tot_app]
 simp [Pl.tot]
theorem Pl.tot_take_le (l : List Run) (h : ∀ r ∈ l, 0 <= r.n) (k : Nat) : 0 <= Pl.tot (l.take k) /\ Pl.tot (l.take k) <= Pl.tot l := by
 have h1 := Pl.tot_nn (l.take k) (fun r hr => h r (List.mem_of_mem_take hr))
 have h2 := Pl.tot_nn (l.drop k) (fun r hr => h r (List.mem_of_mem_drop hr))
 have h3 := Pl.tot_app (l.take k) (l.drop k)
 rw [List.take_append_drop] at h3
 omega
theorem rright_calls (r : Run) (h : Pl.rgt r) (w : World) :
   Calls Tryz.prog 56 #[.agg #[.int .i64 r.n, .int .i64 r.bus, .int .u32 r.drv]] w fun e w' => e = .returned (.bool true) /\ Ch [] w w' := by
 have D0 := Cs.new w (rnc r) 93
 have C0 := Ad ((Ch.refl [] w).alloc (.cells (rnc r).toArray 93))
 obtain ⟨w0, hw0⟩ : ∃ w0, w.alloc (.cells (rnc r).toArray 93) = w0 := ⟨_, rfl⟩
 rw [hw0] at C0 D0
 have x0 : w0.cell? ⟨w.heap.size, 0, none⟩ = some (.int .i64 r.n) := D0.cell (by rfl)
 have x1 : w0.cell? ⟨w.heap.size, 1, none⟩ = some (.int .i64 r.bus) := D0.cell (by rfl)
 have x2 : w0.cell? ⟨w.heap.size, 2, none⟩ = some (.int .u32 r.drv) := D0.cell (by rfl)
 have hbl := D0.lt
 simp only [rnc] at hw0
 have HW := Ad hw0
 obtain ⟨h1, h2, h3⟩ := h
 clear D0 hw0
 by_cases hd : r.drv = 4294967295
 · rw [if_pos hd] at h3
   have bd : (r.drv == 4294967295) = true := by simpa using hd
   have bb : (r.bus == 1) = true := by simpa using h3
   have g1 : decide (1 <= r.n) = true := by simpa using h1
   clear hd h3
   go_enter Tryz.func56, Tryz.ntmps56
   go_wp2_with fail
   rw [HW.out]
   go_wp2_with fail
   go_ret
   exact ⟨rfl, C0.out⟩
 · rw [if_neg hd] at h3
   have bd : (r.drv == 4294967295) = false := by simpa using hd
   have bb : (r.bus == 0) = true := by simpa using h3
   have g1 : decide (1 <= r.n) = true := by simpa using h1
   clear hd h3
   go_enter Tryz.func56, Tryz.ntmps56
   go_wp2_with fail
   rw [HW.out]
   go_wp2_with fail
   go_ret
   exact ⟨rfl, C0.out⟩
set_option maxRecDepth 100000 in
theorem ticks_calls (A : Option Addr) (c n : Nat) (l : List Run) (hn : l.length = n) (hr : ∀ r ∈ l, Pl.rgt r) (ht : Pl.tot l <= 1000000) (w : World) (h : Rd Rv w A c l) :
   Calls Tryz.prog 36 #[.slice A n c] w fun e w' => e = .returned (.tuple #[.int .i64 (Pl.tot l), .int .i64 0]) /\ Ch [] w w' := by
 have hlen := h.len63 hn
 have hnn : ∀ r ∈ l, 0 <= r.n := fun r hx => by have := (hr r hx).1; omega
 have H := Ad h
 have HN := Ad hn
 have HR := Ad hr
 have HNN := Ad hnn
 clear h hn hr hnn
 go_enter Tryz.func36, Tryz.ntmps36
 go_wp2_with fail
 go_loopw [4, 9] (fun s i wr => ∃ k : Nat, k <= n /\ i = .int .i64 k /\ s = .int .i64 (Pl.tot (l.take k)) /\ Aside0 (Ch [] w wr)) (fun _ i _ => n - (intOf i).toNat)
 case atStart => exact ⟨0, by omega, rfl, rfl, ⟨Ch.refl _ _⟩⟩
 case round =>
   obtain ⟨k, hk, rfl, rfl, HC⟩ := hrel
   by_cases hlt : k < n
   · obtain ⟨x, hx⟩ : ∃ x, l[k]? = some x := ⟨_, List.getElem?_eq_getElem (by rw [HN.out]; exact hlt)⟩
     obtain ⟨g, o, rfl, hrc⟩ := (H.out.on HC.out).cells hx
     have R := Ad (show wr.rangeAt g (o + k * 3) (rnc x) from fun j v hv => hrc j v hv)
     have HX := HR.out x (List.mem_of_getElem? hx)
     have HT := Ad (Pl.tot_take_succ l k x hx)
     have t1 := Pl.tot_take_le l HNN.out k
     have t2 := Pl.tot_take_le l HNN.out (k + 1)
     rw [HT.out] at t2
     have k0 : (0 : Int) <= (k : Int) := by omega
     have k1 : (k : Int) < (n : Int) := by omega
     have DN := Ad (Cs.new wr [Value.int .i64 0, .int .i64 0, .int .u32 0] 93)
     have CN := Ad (HC.out.alloc (.cells [Value.int .i64 0, .int .i64 0, .int .u32 0].toArray 93))
     have RC := Ad (fun w => rright_calls x HX w)
     have hx1 := HX.1
     generalize Pl.tot (l.take k) = s at *
     clear hrc hx HX
     go_wp2_with (first | refine wpList_load_mid rfl 93 (.tmp 11) rfl g (o + k * 3) (by rfl) (rnc x) _ R.out Tryz.underlying93 rfl size93 ?_ | refine wpList_store_all rfl 93 (.tmp 6) (.tmp 12) rfl (rnc x) (by rfl) (by rfl) DN.out rfl size93 (by simp [rnc, Value.oneCell']) ?_)
     intro wa ha ca
     have CA := Ad (show Ch [] w wa from CN.out.trans ca (fun y hy => by simp at hy; subst hy; exact .inr HC.out.size))
     have a0 : wa.cell? ⟨wr.heap.size, 0, none⟩ = some (.int .i64 x.n) := ha.cell (by rfl)
     have hal := ha.lt
     have DA := Ad ha
     have EA := Ad (show ∀ j v, (rnc x)[j]? = some v -> (rnc x)[0 + j]? = some v from fun j v hv => by rwa [Nat.zero_add])
     clear ha ca DN CN R
     go_wp2_with (refine wpList_load_Cs rfl 93 (.tmp 6) rfl 0 (rnc x) (by rfl) DA.out EA.out Tryz.underlying93 rfl size93 ?_)
     refine (RC.out _).mono ?_
     rintro e wb ⟨rfl, hC⟩
     have CB := Ad (CA.out.then hC)
     have b0 := hC.cell a0 (by simp)
     have hbl := Nat.lt_of_lt_of_le hal hC.size
     clear hC a0 DA EA hal
     have mn : min (s + x.n) 1073741825 = s + x.n := by omega
     go_wp2_with fail
     go_roundw
     case rel => exact ⟨k + 1, by omega, by go_num, by rw [HT.out], CB⟩
     case measure => simp [intOf]; omega
   · have hkn : k = n := by omega
     subst hkn
     have e : l.take k = l := List.take_of_length_le (by rw [HN.out]; exact Nat.le_refl _)
     rw [e]
     clear e
     go_wp2_with fail
     go_ret2
     exact ⟨rfl, HC.out⟩
theorem tcheck_calls (A : Option Addr) (c n : Nat) (l : List Run) (hn : l.length = n) (hr : ∀ r ∈ l, Pl.rgt r) (ht : Pl.tot l <= 1000000) (w : World) (h : Rd Rv w A c l) :
   Calls Tryz.prog 59 #[.slice A n c] w fun e w' => e = .returned (.int .i64 0) /\ Ch [] w w' := by
 have TC := Ad (ticks_calls A c n l hn hr ht w h)
 clear hn hr ht h
 go_enter Tryz.func59, Tryz.ntmps59
 go_wp2_with fail
 refine TC.out.mono ?_
 rintro e w1 ⟨rfl, hC⟩
 have C1 := Ad hC
 clear hC TC
 go_wp2_with fail
 go_ret
 exact ⟨rfl, C1.out⟩
theorem alike_calls (a b : Run) (w : World) :
   Calls Tryz.prog 63 #[.agg #[.int .i64 a.n, .int .i64 a.bus, .int .u32 a.drv], .agg #[.int .i64 b.n, .int .i64 b.bus, .int .u32 b.drv]] w fun e w' => e = .returned (.bool (decide (a.bus = b.bus /\ a.drv = b.drv))) /\ Ch [] w w' := by
 have DA := Cs.new w (rnc a) 93
 have C0 := (Ch.refl [] w).alloc (.cells (rnc a).toArray 93)
 obtain ⟨w0, hw0⟩ : ∃ w0, w.alloc (.cells (rnc a).toArray 93) = w0 := ⟨_, rfl⟩
 rw [hw0] at C0 DA
 have DB := Cs.new w0 (rnc b) 93
 have C1 := (Ch.refl [] w0).alloc (.cells (rnc b).toArray 93)
 obtain ⟨w1, hw1⟩ : ∃ w1, w0.alloc (.cells (rnc b).toArray 93) = w1 := ⟨_, rfl⟩
 rw [hw1] at C1 DB
 have DA1 := DA.on C1
 have x1 : w1.cell? ⟨w.heap.size, 1, none⟩ = some (.int .i64 a.bus) := DA1.cell (by rfl)
 have x2 : w1.cell? ⟨w.heap.size, 2, none⟩ = some (.int .u32 a.drv) := DA1.cell (by rfl)
 have y1 : w1.cell? ⟨w0.heap.size, 1, none⟩ = some (.int .i64 b.bus) := DB.cell (by rfl)
 have y2 : w1.cell? ⟨w0.heap.size, 2, none⟩ = some (.int .u32 b.drv) := DB.cell (by rfl)
 have hbl := DB.lt
 have hbl2 := DA1.lt
 have HC := Ad (C0.then C1)
 simp only [rnc] at hw0 hw1
 have HW0 := Ad hw0
 have HW1 := Ad hw1
 clear DA DB DA1 hw0 hw1 C0 C1
 by_cases hb : a.bus = b.bus
 · have bb : (a.bus == b.bus) = true := by simpa using hb
   by_cases hd : a.drv = b.drv
   · have bd : (a.drv == b.drv) = true := by simpa using hd
     rw [decide_eq_true (⟨hb, hd⟩ : a.bus = b.bus /\ a.drv = b.drv)]
     clear hb hd
     go_enter Tryz.func63, Tryz.ntmps63
     go_wp2_with fail
     rw [HW0.out, HW1.out]
     go_wp2_with fail
     go_ret
     exact ⟨rfl, HC.out⟩
   · have bd : (a.drv == b.drv) = false := by simpa using hd
     rw [decide_eq_false (fun h : a.bus = b.bus /\ a.drv = b.drv => hd h.2)]
     clear hb hd
     go_enter Tryz.func63, Tryz.ntmps63
     go_wp2_with fail
     rw [HW0.out, HW1.out]
     go_wp2_with fail
     go_ret
     exact ⟨rfl, HC.out⟩
 · have bb : (a.bus == b.bus) = false := by simpa using hb
   rw [decide_eq_false (fun h : a.bus = b.bus /\ a.drv = b.drv => hb h.1)]
   clear hb
   go_enter Tryz.func63, Tryz.ntmps63
   go_wp2_with fail
   rw [HW0.out, HW1.out]
   go_wp2_with fail
   go_ret
   exact ⟨rfl, HC.out⟩
def Pl.jn (l : List Run) : List Run := l.foldl Pl.bjoin []
theorem Pl.jn_snoc (l : List Run) (r : Run) : Pl.jn (l ++ [r]) = Pl.bjoin (Pl.jn l) r := by simp [Pl.jn]
theorem Pl.tot_set_last (l : List Run) (y : Run) (h : l.getLast? = some y) (n : Int) : Pl.tot (l.set (l.length - 1) { y with n := y.n + n }) = Pl.tot l + n := by
 have hne : l ≠ [] := by intro e; rw [e] at h; simp at h
 obtain ⟨l', z, rfl⟩ : ∃ l' z, l = l' ++ [z] := ⟨l.dropLast, l.getLast hne, (List.dropLast_concat_getLast hne).symm⟩
 simp at h
 subst h
 rw [List.length_append, List.length_singleton, Nat.add_sub_cancel, List.set_append_right _ _ (Nat.le_refl _), Nat.sub_self, List.set_cons_zero, Pl.tot_app, Pl.tot_app]
 simp [Pl.tot]
 omega
theorem Pl.tot_bjoin (l : List Run) (r : Run) : Pl.tot (Pl.bjoin l r) = Pl.tot l + r.n := by
 unfold Pl.bjoin
 split
 · rename_i y hy
   split
   · exact Pl.tot_set_last l y hy r.n
   · rw [Pl.tot_app]; simp [Pl.tot]
 · rw [Pl.tot_app]; simp [Pl.tot]
theorem Pl.bjoin_pos (l : List Run) (r : Run) (hl : ∀ x ∈ l, 1 <= x.n) (hr : 1 <= r.n) : ∀ x ∈ Pl.bjoin l r, 1 <= x.n := by
 unfold Pl.bjoin
 split
 · rename_i y hy
   split
   · intro x hx
     rcases List.mem_or_eq_of_mem_set hx with h | rfl
     · exact hl x h
     · have := hl y (List.mem_of_getLast? hy)
       show 1 <= y.n + r.n
       omega
   · intro x hx
     rcases List.mem_append.1 hx with h | h
     · exact hl x h
     · simp at h; subst h; exact hr
 · intro x hx
   rcases List.mem_append.1 hx with h | h
   · exact hl x h
   · simp at h; subst h; exact hr
theorem Pl.bjoin_len (l : List Run) (r : Run) : (Pl.bjoin l r).length <= l.length + 1 := by
 unfold Pl.bjoin
 split
 · split
   · rw [List.length_set]; omega
   · simp
 · simp
theorem Pl.jn_all : ∀ (l acc : List Run), (∀ x ∈ l, 1 <= x.n) -> (∀ x ∈ acc, 1 <= x.n) -> Pl.tot (l.foldl Pl.bjoin acc) = Pl.tot acc + Pl.tot l /\ (∀ x ∈ l.foldl Pl.bjoin acc, 1 <= x.n) /\ (l.foldl Pl.bjoin acc).length <= acc.length + l.length
 | [], acc, _, h => ⟨by simp [Pl.tot], h, by simp⟩
 | r :: l, acc, hl, h => by
   have h1 := hl r (by simp)
   obtain ⟨a, b, c⟩ := Pl.jn_all l (Pl.bjoin acc r) (fun x hx => hl x (by simp [hx])) (Pl.bjoin_pos acc r h h1)
   have h2 := Pl.tot_bjoin acc r
   have h3 := Pl.bjoin_len acc r
   refine ⟨?_, b, ?_⟩
   · rw [List.foldl_cons, a, h2]; simp only [Pl.tot]; omega
   · rw [List.foldl_cons, List.length_cons]; omega
theorem Pl.tot_mem : ∀ (l : List Run), (∀ x ∈ l, 1 <= x.n) -> ∀ y ∈ l, y.n <= Pl.tot l
 | [], _, y, h => by simp at h
 | r :: l, hl, y, h => by
   have h1 := hl r (by simp)
   have h2 := Pl.tot_nn l (fun x hx => by have := hl x (by simp [hx]); omega)
   simp only [Pl.tot]
   rcases List.mem_cons.1 h with rfl | h
   · omega
   · have := Pl.tot_mem l (fun x hx => hl x (by simp [hx])) y h
     omega
theorem Pl.jn_facts (l : List Run) (hl : ∀ x ∈ l, 1 <= x.n) : Pl.tot (Pl.jn l) = Pl.tot l /\ (∀ x ∈ Pl.jn l, 1 <= x.n /\ x.n <= Pl.tot l) /\ (Pl.jn l).length <= l.length := by
 obtain ⟨a, b, c⟩ := Pl.jn_all l [] hl (by simp)
 have a' : Pl.tot (Pl.jn l) = Pl.tot l := by unfold Pl.jn; rw [a]; simp [Pl.tot]
 refine ⟨a', fun x hx => ⟨b x hx, ?_⟩, by simpa [Pl.jn] using c⟩
 rw [<- a']
 exact Pl.tot_mem _ b x hx
set_option maxRecDepth 100000 in
theorem tjoin_calls (A : Option Addr) (c n : Nat) (l : List Run) (hn : l.length = n) (hn1 : n <= 1000000) (h1 : ∀ r ∈ l, 1 <= r.n) (ht : Pl.tot l <= 1000000) (w : World) (h : Rd Rv w A c l) :
   Calls Tryz.prog 40 #[.slice A n c] w fun e w' => ∃ A' c' q' m, e = .returned (.slice A' m c') /\ ((Pl.jn l).length = m /\ Ow Rv w' w.heap.size q' A' c' (Pl.jn l)) /\ Ch [] w w' := by
 have hnn : ∀ r ∈ l, 0 <= r.n := fun r hx => by have := h1 r hx; omega
 have H := Ad h
 have HN := Ad hn
 have HR := Ad h1
 have HNN := Ad hnn
 clear h hn h1 hnn
 go_enter Tryz.func40, Tryz.ntmps40
 go_wp2_with fail
 go_loopw [3, 4, 10] (fun v s i wr => ∃ k : Nat, k <= n /\ i = .int .i64 k /\ s = .int .i64 (Pl.tot (l.take k)) /\ (∃ A' c' q' m, v = .slice A' m c' /\ Aside0 ((Pl.jn (l.take k)).length = m /\ Ow Rv wr w.heap.size q' A' c' (Pl.jn (l.take k)))) /\ Aside0 (Ch [] w wr)) (fun _ _ i _ => n - (intOf i).toNat)
 case atStart => exact ⟨0, by omega, rfl, rfl, ⟨none, 0, none, 0, rfl, ⟨rfl, Ow.nil _ _ _⟩⟩, ⟨Ch.refl _ _⟩⟩
 case round =>
   obtain ⟨k, hk, rfl, rfl, ⟨A2, c2, q2, m, rfl, O⟩, HC⟩ := hrel
   by_cases hlt : k < n
   · obtain ⟨x, hx⟩ : ∃ x, l[k]? = some x := ⟨_, List.getElem?_eq_getElem (by rw [HN.out]; exact hlt)⟩
     obtain ⟨g, o, rfl, hrc⟩ := (H.out.on HC.out).cells hx
     have R := Ad (show wr.rangeAt g (o + k * 3) (rnc x) from fun j v hv => hrc j v hv)
     have hx1 := HR.out x (List.mem_of_getElem? hx)
     have HT := Ad (Pl.tot_take_succ l k x hx)
     have JS := Ad (show Pl.jn (l.take (k + 1)) = Pl.bjoin (Pl.jn (l.take k)) x by rw [List.take_add_one, hx, Option.toList_some, Pl.jn_snoc])
     have JF := Ad (Pl.jn_facts (l.take k) (fun r hr => HR.out r (List.mem_of_mem_take hr)))
     have t1 := Pl.tot_take_le l HNN.out k
     have t2 := Pl.tot_take_le l HNN.out (k + 1)
     rw [HT.out] at t2
     have hml : m <= k := by
       have := JF.out.2.2
       rw [O.out.1, List.length_take] at this
       omega
     have k0 : (0 : Int) <= (k : Int) := by omega
     have k1 : (k : Int) < (n : Int) := by omega
     have DN := Ad (Cs.new wr [Value.int .i64 0, .int .i64 0, .int .u32 0] 93)
     have CN := Ad (HC.out.alloc (.cells [Value.int .i64 0, .int .i64 0, .int .u32 0].toArray 93))
     generalize Pl.tot (l.take k) = s at *
     clear hrc hx
     go_wp2_with (first | refine wpList_load_mid rfl 93 (.tmp 12) rfl g (o + k * 3) (by rfl) (rnc x) _ R.out Tryz.underlying93 rfl size93 ?_ | refine wpList_store_all rfl 93 (.tmp 6) (.tmp 13) rfl (rnc x) (by rfl) (by rfl) DN.out rfl size93 (by simp [rnc, Value.oneCell']) ?_)
     intro wa ha ca
     have CA := Ad (show Ch [] w wa from CN.out.trans ca (fun y hy => by simp at hy; subst hy; exact .inr HC.out.size))
     have OA := Ad (show Ow Rv wa w.heap.size q2 A2 c2 (Pl.jn (l.take k)) from O.out.2.keep (((Ch.refl [wr.heap.size] wr).alloc (.cells [Value.int .i64 0, .int .i64 0, .int .u32 0].toArray 93)).then ca) (fun y hy hm => by have := (O.out.2.size y hy).2; simp at hm; omega))
     have a0 : wa.cell? ⟨wr.heap.size, 0, none⟩ = some (.int .i64 x.n) := ha.cell (by rfl)
     have a1 : wa.cell? ⟨wr.heap.size, 1, none⟩ = some (.int .i64 x.bus) := ha.cell (by rfl)
     have a2 : wa.cell? ⟨wr.heap.size, 2, none⟩ = some (.int .u32 x.drv) := ha.cell (by rfl)
     have hal := ha.lt
     have DA := Ad ha
     have hlen := O.out.1
     have HLEN := Ad hlen
     have HBX := Ad (show ∀ q, q2 = some q -> q < wr.heap.size from fun q hq => (O.out.2.size q hq).2)
     clear ha ca DN CN R hlen
     cases hgl : (Pl.jn (l.take k)).getLast? with
     | none =>
       have hnil : Pl.jn (l.take k) = [] := by simpa using hgl
       have hm0 : m = 0 := by rw [<- HLEN.out, hnil]; rfl
       have BJ := Ad (show Pl.jn (l.take (k + 1)) = Pl.jn (l.take k) ++ [x] by rw [JS.out]; unfold Pl.bjoin; rw [hgl])
       subst hm0
       clear hgl hnil
       go_wp2_with fail
       go_quiet (fail)
       obtain ⟨wd, hwd⟩ : ∃ wd, wa.drewN nq = wd := ⟨_, rfl⟩
       have CD := Ad (show Ch [] wa wd from hwd ▸ (Ch.refl [] wa).drewN _)
       have y0 := CD.out.cell a0 (by simp)
       have y1 := CD.out.cell a1 (by simp)
       have y2 := CD.out.cell a2 (by simp)
       have OW := Ad ((OA.out.on CD.out).on ((Ch.refl [] wd).alloc (.cells #[.int .i64 x.n, .int .i64 x.bus, .int .u32 x.drv] 93)))
       have YW := Ad (Ow.lit Rv wd [x] #[.int .i64 x.n, .int .i64 x.bus, .int .u32 x.drv] (by rfl) (by decide : 1 <= maxLen)).rd
       have BW := Ad (show w.heap.size <= (wd.alloc (.cells #[.int .i64 x.n, .int .i64 x.bus, .int .u32 x.drv] 93)).heap.size from ((CA.out.then CD.out).alloc _).size)
       rw [hwd]
       clear hwd
       go_wp2_with (at_builtin; refine wpList_append_Ow rfl (.tmp 51) (.tmp 53) 39 (by rfl) (by rfl) (some ⟨wd.heap.size, 0, none⟩) 1 1 [x] (by rfl) (by rfl) HLEN.out OW.out YW.out rfl (by show (0 + 1) * 24 <= _; omega) BW.out ?_)
       intro A' c' q' w4 hO hC hq
       have O4 := Ad (show (Pl.jn (l.take (k + 1))).length = 0 + 1 /\ Ow Rv w4 w.heap.size q' A' c' (Pl.jn (l.take (k + 1))) from by rw [BJ.out]; exact ⟨by rw [List.length_append, HLEN.out]; rfl, hO⟩)
       have C4 := Ad (((CA.out.then CD.out).alloc (.cells #[.int .i64 x.n, .int .i64 x.bus, .int .u32 x.drv] 93)).trans hC (fun y hy => by rw [Option.mem_toList] at hy; exact .inr (OA.out.size y hy).1))
       clear hO hC hq OW YW BW y0 y1 y2 a0 a1 a2 hal
       go_wp2_with fail
       go_roundw
       case rel => exact ⟨k + 1, by omega, by go_num, by rw [HT.out], ⟨A', c', q', _, rfl, O4⟩, C4⟩
       case measure => simp [intOf]; omega
     | some y =>
       obtain ⟨m', rfl⟩ : ∃ m', m = m' + 1 := ⟨m - 1, by
         have : Pl.jn (l.take k) ≠ [] := by intro e; rw [e] at hgl; simp at hgl
         have := List.length_pos_iff.2 this
         rw [HLEN.out] at this
         omega⟩
       have hy : (Pl.jn (l.take k))[m']? = some y := by rw [List.getLast?_eq_getElem?, HLEN.out] at hgl; exact hgl
       have hyb := JF.out.2.1 y (List.mem_of_getElem? hy)
       rcases OA.out.addr with ⟨_, _, _, e⟩ | ⟨gr, rfl, rfl⟩
       · rw [e] at hgl; simp at hgl
       have d0 : wa.cell? ⟨gr, m' * 3, none⟩ = some (.int .i64 y.n) := (OA.out.cell hy rfl 0 (.int .i64 y.n) rfl).1
       have d1 : wa.cell? ⟨gr, m' * 3 + 1, none⟩ = some (.int .i64 y.bus) := (OA.out.cell hy rfl 1 (.int .i64 y.bus) rfl).1
       have d2 : wa.cell? ⟨gr, m' * 3 + 2, none⟩ = some (.int .u32 y.drv) := (OA.out.cell hy rfl 2 (.int .u32 y.drv) rfl).1
       have HY := Ad hy
       have BJ0 := Ad (show Pl.jn (l.take (k + 1)) = if y.bus = x.bus /\ y.drv = x.drv then (Pl.jn (l.take k)).set m' { y with n := y.n + x.n } else Pl.jn (l.take k) ++ [x] by rw [JS.out]; unfold Pl.bjoin; rw [hgl]; simp only []; rw [HLEN.out]; rfl)
       have km0 : (0 : Int) <= (m' : Int) := by omega
       have wm1 : IntKind.i64.wrap (m' : Int) = m' := by rw [IntKind.wrap_i64]; omega
       have bm1 : (m' : Int) < (m' : Int) + 1 := by omega
       have AL := Ad (fun w => alike_calls y x w)
       have gm : decide (0 <= (m' : Int)) = true := by simp
       have wr1 : IntKind.i64.wrap (y.n + x.n) = y.n + x.n := by rw [IntKind.wrap_i64]; omega
       clear hgl hy
       by_cases hal2 : y.bus = x.bus /\ y.drv = x.drv
       · have BJ := Ad (show Pl.jn (l.take (k + 1)) = (Pl.jn (l.take k)).set m' { y with n := y.n + x.n } by rw [BJ0.out, if_pos hal2])
         rw [decide_eq_true hal2] at AL
         clear BJ0 hal2
         go_wp2_with fail
         go_region_with ((go_at_call 63; refine (AL.out _).mono ?_; rintro e wd ⟨rfl, hC⟩))
         all_goals
           have CD := Ad (show Ch [] wa wd from (Ch.refl [] wa).drew.then hC)
           have y0 := CD.out.cell a0 (by simp)
           have g0 := CD.out.cell d0 (by simp)
           have OD := Ad (OA.out.on CD.out)
           have fz : wd.frozen? ⟨gr, m' * 3, none⟩ = false := (OD.out.cell HY.out rfl 0 (.int .i64 y.n) rfl).2
           have hbd : wr.heap.size < wd.heap.size := Nat.lt_of_lt_of_le hal CD.out.size
           have hrd : m' * 3 < m' * 3 + 1 := Nat.lt_succ_self _
           clear hC a0 a1 a2 d0 d1 d2 hal AL gm
           go_wp2_with fail
           go_still_tail 10, (by kernel_rfl)
           change wpList _ _ _ _ _ wd.drew
           go_wp2_with fail
           have O4 := Ad (show (Pl.jn (l.take (k + 1))).length = m' + 1 /\ Ow Rv (wd.drew.setCell ⟨gr, m' * 3, none⟩ (.int .i64 (y.n + x.n))) w.heap.size (some gr) (some ⟨gr, 0, none⟩) c2 (Pl.jn (l.take (k + 1))) from by
             rw [BJ.out]
             exact ⟨by rw [List.length_set, HLEN.out], (OD.out.on (Ch.refl [] wd).drew).setc HY.out rfl 0 (.int .i64 (y.n + x.n)) (by decide) rfl⟩)
           have C4 := Ad (show Ch [] w (wd.drew.setCell ⟨gr, m' * 3, none⟩ (.int .i64 (y.n + x.n))) from (CA.out.then CD.out).drew.set _ _ (.inr (OA.out.size gr rfl).1))
           go_roundw
           case rel => exact ⟨k + 1, by omega, by go_num, by rw [HT.out], ⟨_, c2, _, _, rfl, O4⟩, C4⟩
           case measure => simp [intOf]; omega
       · have BJ := Ad (show Pl.jn (l.take (k + 1)) = Pl.jn (l.take k) ++ [x] by rw [BJ0.out, if_neg hal2])
         rw [decide_eq_false hal2] at AL
         clear BJ0 hal2
         go_wp2_with fail
         go_region_with ((go_at_call 63; refine (AL.out _).mono ?_; rintro e wd ⟨rfl, hC⟩))
         all_goals
           have CD := Ad (show Ch [] wa wd from (Ch.refl [] wa).drew.then hC)
           have y0 := CD.out.cell a0 (by simp)
           have y1 := CD.out.cell a1 (by simp)
           have y2 := CD.out.cell a2 (by simp)
           have hbd : wr.heap.size < wd.heap.size := Nat.lt_of_lt_of_le hal CD.out.size
           have OW := Ad ((OA.out.on CD.out).on ((Ch.refl [] wd).alloc (.cells #[.int .i64 x.n, .int .i64 x.bus, .int .u32 x.drv] 93)))
           have YW := Ad (Ow.lit Rv wd [x] #[.int .i64 x.n, .int .i64 x.bus, .int .u32 x.drv] (by rfl) (by decide : 1 <= maxLen)).rd
           have BW := Ad (show w.heap.size <= (wd.alloc (.cells #[.int .i64 x.n, .int .i64 x.bus, .int .u32 x.drv] 93)).heap.size from ((CA.out.then CD.out).alloc _).size)
           clear hC a0 a1 a2 d0 d1 d2 hal AL gm
           go_wp2_with (at_builtin; refine wpList_append_Ow rfl (.tmp 51) (.tmp 53) 39 (by rfl) (by rfl) (some ⟨wd.heap.size, 0, none⟩) 1 1 [x] (by rfl) (by rfl) HLEN.out OW.out YW.out rfl (by show (m' + 1 + 1) * 24 <= _; omega) BW.out ?_)
           intro A' c' q' w4 hO hC hq
           have O4 := Ad (show (Pl.jn (l.take (k + 1))).length = m' + 1 + 1 /\ Ow Rv w4 w.heap.size q' A' c' (Pl.jn (l.take (k + 1))) from by rw [BJ.out]; exact ⟨by rw [List.length_append, HLEN.out]; rfl, hO⟩)
           have C4 := Ad (((CA.out.then CD.out).alloc (.cells #[.int .i64 x.n, .int .i64 x.bus, .int .u32 x.drv] 93)).trans hC (fun y hy => by simp at hy; subst hy; exact .inr (OA.out.size _ rfl).1))
           clear hO hC hq OW YW BW y0 y1 y2 hbd
           go_wp2_with fail
           go_roundw
           case rel => exact ⟨k + 1, by omega, by go_num, by rw [HT.out], ⟨A', c', q', _, rfl, O4⟩, C4⟩
           case measure => simp [intOf]; omega
   · have hkn : k = n := by omega
     subst hkn
     have e : l.take k = l := List.take_of_length_le (by rw [HN.out]; exact Nat.le_refl _)
     rw [e] at O
     clear e
     go_wp2_with fail
     go_ret
     exact ⟨A2, c2, q2, m, rfl, O.out, HC.out⟩
def Pl.part (fro upto at_ n : Int) : Int := min (at_ + n) upto - max at_ fro
def Pl.btw (fro upto : Int) : List Run -> Int -> List Run
 | [], _ => []
 | r :: l, a => (if 0 < Pl.part fro upto a r.n then [⟨Pl.part fro upto a r.n, r.bus, r.drv⟩] else []) ++ Pl.btw fro upto l (a + r.n)
theorem Pl.btw_snoc (fro upto : Int) : ∀ (l : List Run) (a : Int) (r : Run), Pl.btw fro upto (l ++ [r]) a = Pl.btw fro upto l a ++ (if 0 < Pl.part fro upto (a + Pl.tot l) r.n then [⟨Pl.part fro upto (a + Pl.tot l) r.n, r.bus, r.drv⟩] else [])
 | [], a, r => by simp [Pl.btw, Pl.tot]
 | y :: l, a, r => by
   rw [List.cons_append, Pl.btw, Pl.btw, Pl.btw_snoc fro upto l (a + y.n) r, List.append_assoc, show a + Pl.tot (y :: l) = a + y.n + Pl.tot l from (Int.add_assoc a y.n (Pl.tot l)).symm]
theorem Pl.btw_len (fro upto : Int) : ∀ (l : List Run) (a : Int), (Pl.btw fro upto l a).length <= l.length
 | [], _ => by simp [Pl.btw]
 | r :: l, a => by
   have := Pl.btw_len fro upto l (a + r.n)
   rw [Pl.btw, List.length_append, List.length_cons]
   split <;> simp <;> omega
theorem Pl.btw_pos (fro upto : Int) : ∀ (l : List Run) (a : Int), ∀ x ∈ Pl.btw fro upto l a, 1 <= x.n
 | [], _, x, h => by simp [Pl.btw] at h
 | r :: l, a, x, h => by
   rw [Pl.btw] at h
   rcases List.mem_append.1 h with h | h
   · split at h
     · rename_i hp
       simp at h
       subst h
       show 1 <= Pl.part fro upto a r.n
       omega
     · simp at h
   · exact Pl.btw_pos fro upto l _ x h
theorem Pl.btw_tot (fro upto : Int) : ∀ (l : List Run) (a : Int), (∀ r ∈ l, 0 <= r.n) -> Pl.tot (Pl.btw fro upto l a) <= Pl.tot l
 | [], _, _ => by simp [Pl.btw]
 | r :: l, a, h => by
   have := Pl.btw_tot fro upto l (a + r.n) (fun x hx => h x (by simp [hx]))
   have h0 := h r (by simp)
   rw [Pl.btw, Pl.tot_app]
   have e : Pl.tot (r :: l) = r.n + Pl.tot l := rfl
   rw [e]
   have h2 : Pl.part fro upto a r.n <= r.n := by unfold Pl.part; omega
   split
   · simp only [Pl.tot]; omega
   · simp only [Pl.tot]; omega
theorem part_calls (w : World) (g1 g2 g3 : Nat) (fro upto a n : Int) (h1 : w.cell? ⟨g1, 0, none⟩ = some (.int .i64 a)) (h2 : w.cell? ⟨g2, 0, none⟩ = some (.int .i64 upto)) (h3 : w.cell? ⟨g3, 0, none⟩ = some (.int .i64 fro))
   (l1 : g1 < w.heap.size) (l2 : g2 < w.heap.size) (l3 : g3 < w.heap.size) (ba : 0 <= a /\ a <= 10000000) (bn : 0 <= n /\ n <= 10000000) (bf : 0 <= fro /\ fro <= 10000000) (bt : 0 <= upto /\ upto <= 10000000) :
   Calls Tryz.prog 83 #[.int .i64 n, .pointer (some ⟨g1, 0, none⟩), .pointer (some ⟨g2, 0, none⟩), .pointer (some ⟨g3, 0, none⟩)] w fun e w' => e = .returned (.int .i64 (Pl.part fro upto a n)) /\ w' = w := by
 go_enter Tryz.func83, Tryz.ntmps83
 go_wp2_with fail
 all_goals
   go_ret
   exact ⟨ret_int (by unfold Pl.part; omega), rfl⟩
set_option maxRecDepth 100000 in
theorem between_calls (A : Option Addr) (c n : Nat) (l : List Run) (hn : l.length = n) (hn1 : n <= 1000000) (h1 : ∀ r ∈ l, 1 <= r.n) (ht : Pl.tot l <= 1000000) (fro upto : Int) (bf : 0 <= fro /\ fro <= 1000000) (bt : 0 <= upto /\ upto <= 1000000) (w : World) (h : Rd Rv w A c l) :
   Calls Tryz.prog 66 #[.slice A n c, .int .i64 fro, .int .i64 upto] w fun e w' => ∃ A' c' q' m, e = .returned (.slice A' m c') /\ ((Pl.btw fro upto l 0).length = m /\ Ow Rv w' w.heap.size q' A' c' (Pl.btw fro upto l 0)) /\ Ch [] w w' := by
 have hnn : ∀ r ∈ l, 0 <= r.n := fun r hx => by have := h1 r hx; omega
 have H := Ad h
 have HN := Ad hn
 have HR := Ad h1
 have HNN := Ad hnn
 have B1 := Bx.new w (.int .i64 fro) 3
 obtain ⟨w1, hw1⟩ : ∃ w1, w.alloc (.cells #[.int .i64 fro] 3) = w1 := ⟨_, rfl⟩
 have C1 : Ch [] w w1 := hw1 ▸ (Ch.refl [] w).alloc _
 rw [hw1] at B1
 have B2 := Bx.new w1 (.int .i64 upto) 3
 obtain ⟨w2, hw2⟩ : ∃ w2, w1.alloc (.cells #[.int .i64 upto] 3) = w2 := ⟨_, rfl⟩
 have C2 : Ch [] w1 w2 := hw2 ▸ (Ch.refl [] w1).alloc _
 rw [hw2] at B2
 have B3 := Bx.new w2 (.int .i64 0) 3
 obtain ⟨w3, hw3⟩ : ∃ w3, w2.alloc (.cells #[.int .i64 0] 3) = w3 := ⟨_, rfl⟩
 have C3 : Ch [] w2 w3 := hw3 ▸ (Ch.refl [] w2).alloc _
 rw [hw3] at B3
 have B1' := Ad ((B1.keep C2 (by simp)).keep C3 (by simp))
 have B2' := Ad (B2.keep C3 (by simp))
 have s1 : w1.heap.size = w.heap.size + 1 := by rw [<- hw1]; simp
 have s2 : w2.heap.size = w.heap.size + 1 + 1 := by rw [<- hw2]; simp [s1]
 have C0 := Ad ((C1.then C2).then C3)
 have B3' := Ad B3
 have HW1 := Ad hw1
 have HW2 := Ad hw2
 have HW3 := Ad hw3
 have S1 := Ad s1
 have S2 := Ad s2
 clear h hn h1 hnn hw1 hw2 hw3 B1 B2 B3 C1 C2 C3 s1 s2
 have B1 := B1'.out
 have B2 := B2'.out
 have B3 := B3'.out
 rw [S1.out] at B2
 rw [S2.out] at B3
 have BB1 := Ad B1
 have BB2 := Ad B2
 have BB3 := Ad B3
 clear B1 B2 B3 B1' B2' B3'
 go_enter Tryz.func66, Tryz.ntmps66
 go_wp2_with fail
 rw [HW1.out, HW2.out, HW3.out]
 go_loopw [7, 16] (fun v i wr => ∃ k : Nat, k <= n /\ i = .int .i64 k /\ (∃ A' c' q' m, v = .slice A' m c' /\ Aside0 ((Pl.btw fro upto (l.take k) 0).length = m /\ Ow Rv wr w.heap.size q' A' c' (Pl.btw fro upto (l.take k) 0))) /\
   Aside0 (Bx wr (w.heap.size + 1 + 1) 3 (.int .i64 (Pl.tot (l.take k))) /\ Bx wr w.heap.size 3 (.int .i64 fro) /\ Bx wr (w.heap.size + 1) 3 (.int .i64 upto) /\ Ch [] w wr)) (fun _ i _ => n - (intOf i).toNat)
 case atStart => exact ⟨0, by omega, rfl, ⟨none, 0, none, 0, rfl, ⟨rfl, Ow.nil _ _ _⟩⟩, ⟨BB3.out, BB1.out, BB2.out, C0.out⟩⟩
 case round =>
   obtain ⟨k, hk, rfl, ⟨A2, c2, q2, m, rfl, O⟩, HC⟩ := hrel
   by_cases hlt : k < n
   · obtain ⟨x, hx⟩ : ∃ x, l[k]? = some x := ⟨_, List.getElem?_eq_getElem (by rw [HN.out]; exact hlt)⟩
     obtain ⟨b3, b1, b2, hch⟩ := HC.out
     obtain ⟨g, o, rfl, hrc⟩ := (H.out.on hch).cells hx
     have R := Ad (show wr.rangeAt g (o + k * 3) (rnc x) from fun j v hv => hrc j v hv)
     have hx1 := HR.out x (List.mem_of_getElem? hx)
     have HT := Ad (Pl.tot_take_succ l k x hx)
     have t1 := Pl.tot_take_le l HNN.out k
     have t2 := Pl.tot_take_le l HNN.out (k + 1)
     rw [HT.out] at t2
     have BS := Ad (show Pl.btw fro upto (l.take (k + 1)) 0 = Pl.btw fro upto (l.take k) 0 ++ (if 0 < Pl.part fro upto (Pl.tot (l.take k)) x.n then [⟨Pl.part fro upto (Pl.tot (l.take k)) x.n, x.bus, x.drv⟩] else []) by
       rw [List.take_add_one, hx, Option.toList_some, Pl.btw_snoc, Int.zero_add])
     have hml : m <= k := by
       have := Pl.btw_len fro upto (l.take k) 0
       rw [O.out.1, List.length_take] at this
       omega
     have k0 : (0 : Int) <= (k : Int) := by omega
     have k1 : (k : Int) < (n : Int) := by omega
     have DN := Ad (Cs.new wr [Value.int .i64 0, .int .i64 0, .int .u32 0] 93)
     have CN := Ad ((Ch.refl [] wr).alloc (.cells [Value.int .i64 0, .int .i64 0, .int .u32 0].toArray 93))
     have HLEN := Ad O.out.1
     generalize Pl.tot (l.take k) = s at *
     have BX := Ad (And.intro b3 (And.intro b1 (And.intro b2 hch)))
     clear hrc hx HC b3 b1 b2 hch
     go_wp2_with (first | refine wpList_load_mid rfl 93 (.tmp 18) rfl g (o + k * 3) (by rfl) (rnc x) _ R.out Tryz.underlying93 rfl size93 ?_ | refine wpList_store_all rfl 93 (.tmp 11) (.tmp 19) rfl (rnc x) (by rfl) (by rfl) DN.out rfl size93 (by simp [rnc, Value.oneCell']) ?_)
     intro wa ha ca
     have CA := Ad (show Ch [] wr wa from CN.out.trans ca (by simp))
     have OA := Ad (O.out.2.on CA.out)
     have a0 : wa.cell? ⟨wr.heap.size, 0, none⟩ = some (.int .i64 x.n) := ha.cell (by rfl)
     have a1 : wa.cell? ⟨wr.heap.size, 1, none⟩ = some (.int .i64 x.bus) := ha.cell (by rfl)
     have a2 : wa.cell? ⟨wr.heap.size, 2, none⟩ = some (.int .u32 x.drv) := ha.cell (by rfl)
     have hal := ha.lt
     have b3 := BX.out.1.keep CA.out (by simp)
     have b1 := BX.out.2.1.keep CA.out (by simp)
     have b2 := BX.out.2.2.1.keep CA.out (by simp)
     have PC := Ad (part_calls wa (w.heap.size + 1 + 1) (w.heap.size + 1) w.heap.size fro upto s x.n b3.cell b2.cell b1.cell b3.lt b2.lt b1.lt (by omega) (by omega) (by omega) (by omega))
     have CW := Ad (BX.out.2.2.2.then CA.out)
     have B3 := Ad b3
     have B1 := Ad b1
     have B2 := Ad b2
     clear ha ca DN CN R b3 b1 b2
     go_wp2_with fail
     refine PC.out.mono ?_
     rintro e w99 ⟨rfl, hw⟩
     rw [hw]
     clear hw w99 PC
     by_cases hp : 0 < Pl.part fro upto s x.n
     · have BJ := Ad (show Pl.btw fro upto (l.take (k + 1)) 0 = Pl.btw fro upto (l.take k) 0 ++ [⟨Pl.part fro upto s x.n, x.bus, x.drv⟩] by rw [BS.out, if_pos hp])
       clear BS
       generalize Pl.part fro upto s x.n = d at *
       have OW := Ad (OA.out.on ((Ch.refl [] wa).alloc (.cells #[.int .i64 d, .int .i64 x.bus, .int .u32 x.drv] 93)))
       have YW := Ad (Ow.lit Rv wa [(⟨d, x.bus, x.drv⟩ : Run)] #[.int .i64 d, .int .i64 x.bus, .int .u32 x.drv] (by rfl) (by decide : 1 <= maxLen)).rd
       have BW := Ad (show w.heap.size <= (wa.alloc (.cells #[.int .i64 d, .int .i64 x.bus, .int .u32 x.drv] 93)).heap.size from (CW.out.alloc _).size)
       go_wp2_with (at_builtin; refine wpList_append_Ow rfl (.tmp 26) (.tmp 33) 39 (by rfl) (by rfl) (some ⟨wa.heap.size, 0, none⟩) 1 1 [(⟨d, x.bus, x.drv⟩ : Run)] (by rfl) (by rfl) HLEN.out OW.out YW.out rfl (by show (m + 1) * 24 <= _; omega) BW.out ?_)
       intro A' c' q' w4 hO hC hq
       have O4 := Ad (show (Pl.btw fro upto (l.take (k + 1)) 0).length = m + 1 /\ Ow Rv w4 w.heap.size q' A' c' (Pl.btw fro upto (l.take (k + 1)) 0) from by rw [BJ.out]; exact ⟨by rw [List.length_append, HLEN.out]; rfl, hO⟩)
       have C4 := Ad (show Ch q2.toList wa w4 from ((Ch.refl _ wa).alloc (.cells #[.int .i64 d, .int .i64 x.bus, .int .u32 x.drv] 93)).then hC)
       have qn : ∀ {y : Nat} {v : Value}, Bx wa y 3 v -> y ∉ q2.toList := fun h hm => by rw [Option.mem_toList] at hm; exact OA.out.ne h (by decide) hm
       have e3 := B3.out.keep C4.out (qn B3.out)
       have e1 := B1.out.keep C4.out (qn B1.out)
       have e2 := B2.out.keep C4.out (qn B2.out)
       have c3 := e3.cell
       have f3 := e3.free
       have l3 := e3.lt
       have x0 : w4.cell? ⟨wr.heap.size, 0, none⟩ = some (.int .i64 x.n) := C4.out.cell a0 (fun hm => by rw [Option.mem_toList] at hm; have h1 := (O.out.2.size _ hm).2; simp at h1)
       have hl4 : wr.heap.size < w4.heap.size := Nat.lt_of_lt_of_le hal C4.out.size
       have CZ := Ad (show Ch [] w (w4.setCell ⟨w.heap.size + 1 + 1, 0, none⟩ (.int .i64 (s + x.n))) from (CW.out.trans C4.out (fun y hy => by rw [Option.mem_toList] at hy; exact .inr (OA.out.size y hy).1)).set _ _ (.inr (by simp; omega)))
       have E3 := Ad e3
       have E1 := Ad e1
       have E2 := Ad e2
       clear hO hC hq OW YW BW e1 e2 e3 a0 a1 a2 hal qn
       go_wp2_with fail
       go_roundw
       case rel =>
         refine ⟨k + 1, by omega, by go_num, ⟨A', c', q', _, rfl, ⟨O4.out.1, O4.out.2.keep ((Ch.refl [w.heap.size + 1 + 1] w4).set _ _ (.inl (by simp))) (fun y hy hm => by simp at hm; subst hm; exact O4.out.2.ne E3.out (by decide) hy)⟩⟩, ⟨?_, ?_, ?_, CZ.out⟩⟩
         · rw [HT.out]; exact E3.out.set _
         · exact E1.out.keep ((Ch.refl [w.heap.size + 1 + 1] w4).set _ _ (.inl (by simp))) (by simp; omega)
         · exact E2.out.keep ((Ch.refl [w.heap.size + 1 + 1] w4).set _ _ (.inl (by simp))) (by simp)
       case measure => simp [intOf]; omega
     · have BJ := Ad (show Pl.btw fro upto (l.take (k + 1)) 0 = Pl.btw fro upto (l.take k) 0 by rw [BS.out, if_neg hp, List.append_nil])
       clear BS
       generalize Pl.part fro upto s x.n = d at *
       have c3 := B3.out.cell
       have f3 := B3.out.free
       have l3 := B3.out.lt
       have CZ := Ad (show Ch [] w (wa.setCell ⟨w.heap.size + 1 + 1, 0, none⟩ (.int .i64 (s + x.n))) from CW.out.set _ _ (.inr (by simp; omega)))
       clear a1 a2
       go_wp2_with fail
       go_roundw
       case rel =>
         refine ⟨k + 1, by omega, by go_num, ⟨A2, c2, q2, m, rfl, ⟨by rw [BJ.out]; exact HLEN.out, by rw [BJ.out]; exact OA.out.keep ((Ch.refl [w.heap.size + 1 + 1] wa).set _ _ (.inl (by simp))) (fun y hy hm => by simp at hm; subst hm; exact OA.out.ne B3.out (by decide) hy)⟩⟩, ⟨?_, ?_, ?_, CZ.out⟩⟩
         · rw [HT.out]; exact B3.out.set _
         · exact B1.out.keep ((Ch.refl [w.heap.size + 1 + 1] wa).set _ _ (.inl (by simp))) (by simp; omega)
         · exact B2.out.keep ((Ch.refl [w.heap.size + 1 + 1] wa).set _ _ (.inl (by simp))) (by simp)
       case measure => simp [intOf]; omega
   · have hkn : k = n := by omega
     subst hkn
     have e : l.take k = l := List.take_of_length_le (by rw [HN.out]; exact Nat.le_refl _)
     rw [e] at O HC
     clear e
     go_wp2_with fail
     go_ret
     exact ⟨A2, c2, q2, m, rfl, O.out, HC.out.2.2.2⟩
theorem cut_calls (A : Option Addr) (c n : Nat) (l : List Run) (hn : l.length = n) (hn1 : n <= 1000000) (hr : ∀ r ∈ l, Pl.rgt r) (ht : Pl.tot l <= 1000000) (fro upto : Int) (bf : 0 <= fro) (bt : fro <= upto) (bu : upto <= Pl.tot l) (w : World) (h : Rd Rv w A c l) :
   Calls Tryz.prog 46 #[.slice A n c, .int .i64 fro, .int .i64 upto] w fun e w' => ∃ A' c' q' m, e = .returned (.tuple #[.slice A' m c', .int .i64 0]) /\ ((Pl.jn (Pl.btw fro upto l 0)).length = m /\ Ow Rv w' w.heap.size q' A' c' (Pl.jn (Pl.btw fro upto l 0))) /\ Ch [] w w' := by
 have h1 : ∀ r ∈ l, 1 <= r.n := fun r hx => (hr r hx).1
 have hnn : ∀ r ∈ l, 0 <= r.n := fun r hx => by have := h1 r hx; omega
 have TC := Ad (ticks_calls A c n l hn hr ht w h)
 have BC := Ad (fun (w1 : World) (hc : Ch [] w w1) => between_calls A c n l hn hn1 h1 ht fro upto ⟨bf, by omega⟩ ⟨by omega, by omega⟩ w1 (h.on hc))
 have BL := Ad (show (Pl.btw fro upto l 0).length <= 1000000 from Nat.le_trans (Pl.btw_len fro upto l 0) (by omega))
 have BP := Ad (Pl.btw_pos fro upto l 0)
 have BT := Ad (show Pl.tot (Pl.btw fro upto l 0) <= 1000000 from Int.le_trans (Pl.btw_tot fro upto l 0 hnn) ht)
 clear hn h1 hnn hr ht h
 generalize Pl.tot l = tl at *
 go_enter Tryz.func46, Tryz.ntmps46
 go_wp2_with fail
 refine TC.out.mono ?_
 rintro e w1 ⟨rfl, hC⟩
 have C1 := Ad hC
 clear hC TC
 go_wp2_with fail
 refine (BC.out w1 C1.out).mono ?_
 rintro e w2 ⟨A2, c2, q2, m, rfl, hO, hC⟩
 have C2 := Ad (C1.out.then hC)
 have O2 := Ad hO.2
 have JC := Ad (tjoin_calls A2 c2 m _ hO.1 (by rw [<- hO.1]; exact BL.out) BP.out BT.out w2 hO.2.rd)
 clear hC hO BC
 go_wp2_with fail
 refine JC.out.mono ?_
 rintro e w3 ⟨A3, c3, q3, m3, rfl, hO, hC⟩
 have C3 := Ad (C2.out.then hC)
 have O3 := Ad (And.intro hO.1 (hO.2.less C2.out.size))
 clear hC hO JC
 go_wp2_with fail
 refine bodyPost_ret (v := .tuple #[.slice A3 m3 c3, .int .i64 0]) (by simp [results, Tryz.f46, go_sem]) rfl ?_
 exact ⟨A3, c3, q3, m3, rfl, O3.out, C3.out⟩
theorem clone_run (A : Option Addr) (c n : Nat) (l : List Run) (hn : l.length = n) (hb : n <= 1000000) (w : World) (h : Rd Rv w A c l) :
   Calls Tryz.prog 30 #[.slice A n c] w fun e w' => ∃ A' c' q', e = .returned (.slice A' n c') /\ Ow Rv w' w.heap.size q' A' c' l /\ Ch [] w w' := by
 have q22 : ∀ (w : World) (a : Option Addr) (n c n' c' : Nat), (binOp .eql 39 (.slice a n c) (.slice none n' c')).run Tryz.prog w = .ok (.bool a.isNone) w := fun w a n c n' c' => Lib.run_eql_slice_nil w _ _ a n c n' c' Tryz.underlying39
 have H := Ad h
 have HN := Ad hn
 rcases A with _ | ad
 · have hl : l = [] := by
     rcases l with _ | ⟨a, l⟩
     · rfl
     · obtain ⟨g, o, h, _⟩ := h.at_ (by simp)
       cases h
   have hn0 : n = 0 := by rw [<- hn, hl]; rfl
   subst hl
   subst hn0
   clear h hn
   go_enter Tryz.func30, Tryz.ntmps30
   go_wp2_with fail
   go_ret
   exact ⟨none, 0, none, rfl, Ow.nil _ _ _, Ch.refl _ _⟩
 · clear h hn
   have O0 := Ad (Ow.lit Rv w [] #[] (by rfl) (by decide))
   have C0 := Ad ((Ch.refl [] w).alloc (.cells #[] 93))
   have Y0 := Ad (H.out.on C0.out)
   have B0 := Ad C0.out.size
   go_enter Tryz.func30, Tryz.ntmps30
   go_wp2_with (at_builtin; go_loud (refine wpList_append_Ow rfl (.tmp 5) (.tmp 6) 39 (by rfl) (by rfl) (some ad) n c l (by rfl) (by rfl) rfl O0.out Y0.out HN.out (by show (0 + n) * 24 <= _; omega) B0.out ?_))
   intro A' c' q' w2 hO hC hq
   have C2 := Ad (show Ch [] w w2 from C0.out.trans hC (by simp))
   have O2 := Ad (show Ow Rv w2 w.heap.size q' A' c' l from by simpa using hO)
   clear hO hC hq
   go_wp2_with fail
   go_ret
   exact ⟨A', c', q', by simp, O2.out, C2.out⟩
theorem clone_act (A : Option Addr) (c n : Nat) (l : List Act') (hn : l.length = n) (hb : n <= 1000000) (w : World) (h : Rd Av w A c l) :
   Calls Tryz.prog 20 #[.slice A n c] w fun e w' => ∃ A' c' q', e = .returned (.slice A' n c') /\ Ow Av w' w.heap.size q' A' c' l /\ Ch [] w w' := by
 have q22 : ∀ (w : World) (a : Option Addr) (n c n' c' : Nat), (binOp .eql 22 (.slice a n c) (.slice none n' c')).run Tryz.prog w = .ok (.bool a.isNone) w := fun w a n c n' c' => Lib.run_eql_slice_nil w _ _ a n c n' c' Tryz.underlying22
 have H := Ad h
 have HN := Ad hn
 rcases A with _ | ad
 · have hl : l = [] := by
     rcases l with _ | ⟨a, l⟩
     · rfl
     · obtain ⟨g, o, h, _⟩ := h.at_ (by simp)
       cases h
   have hn0 : n = 0 := by rw [<- hn, hl]; rfl
   subst hl
   subst hn0
   clear h hn
   go_enter Tryz.func20, Tryz.ntmps20
   go_wp2_with fail
   go_ret
   exact ⟨none, 0, none, rfl, Ow.nil _ _ _, Ch.refl _ _⟩
 · clear h hn
   have O0 := Ad (Ow.lit Av w [] #[] (by rfl) (by decide))
   have C0 := Ad ((Ch.refl [] w).alloc (.cells #[] 55))
   have Y0 := Ad (H.out.on C0.out)
   have B0 := Ad C0.out.size
   go_enter Tryz.func20, Tryz.ntmps20
   go_wp2_with (at_builtin; go_loud (refine wpList_append_Ow rfl (.tmp 5) (.tmp 6) 22 (by rfl) (by rfl) (some ad) n c l (by rfl) (by rfl) rfl O0.out Y0.out HN.out (by show (0 + n) * 56 <= _; omega) B0.out ?_))
   intro A' c' q' w2 hO hC hq
   have C2 := Ad (show Ch [] w w2 from C0.out.trans hC (by simp))
   have O2 := Ad (show Ow Av w2 w.heap.size q' A' c' l from by simpa using hO)
   clear hO hC hq
   go_wp2_with fail
   go_ret
   exact ⟨A', c', q', by simp, O2.out, C2.out⟩
def Pl.live (mask : Nat) (l : List Act') : List Act' := l.filter (fun a => !mask.testBit a.node.toNat)
theorem Pl.live_snoc (mask : Nat) (l : List Act') (a : Act') : Pl.live mask (l ++ [a]) = Pl.live mask l ++ (if mask.testBit a.node.toNat then [] else [a]) := by
 unfold Pl.live
 rw [List.filter_append]
 cases h : mask.testBit a.node.toNat <;> simp [h]
theorem rhas_calls (m i : Nat) (hm : m < 4294967296) (hi : i < 32) (w : World) :
   Calls Tryz.prog 57 #[.int .u32 m, .int .i64 i] w fun e w' => e = .returned (.bool (m.testBit i)) /\ w' = w := by
 have hlt : m / 2 ^ i < 4294967296 := Nat.lt_of_le_of_lt (Nat.div_le_self _ _) hm
 have e1 : (bits BinOp.and IntKind.u32 ((m : Int) / 2 ^ i) 1 == 1) = m.testBit i := by
   rw [nat_div_pow, and_one _ hlt, Nat.testBit_eq_decide_div_mod_eq]
   generalize m / 2 ^ i = y
   rcases Nat.mod_two_eq_zero_or_one y with h | h <;> rw [h] <;> rfl
 have g1 : decide (0 <= (i : Int)) = true := by simp
 have g2 : decide ((i : Int) < 32) = true := by simp; omega
 go_enter Tryz.func57, Tryz.ntmps57
 go_wp2_with fail
 go_ret
 refine ⟨?_, rfl⟩
 rw [<- e1]
 rfl
set_option maxRecDepth 100000 in
theorem live_calls (mask : Nat) (hm : mask < 4294967296) (A : Option Addr) (c n : Nat) (l : List Act') (hn : l.length = n) (hn1 : n <= 1000000) (hnd : ∀ a ∈ l, 0 <= a.node /\ a.node < 32) (w : World) (h : Rd Av w A c l) :
   Calls Tryz.prog 37 #[.int .u32 mask, .slice A n c] w fun e w' => ∃ A' c' q' m, e = .returned (.slice A' m c') /\ ((Pl.live mask l).length = m /\ Ow Av w' w.heap.size q' A' c' (Pl.live mask l)) /\ Ch [] w w' := by
 have H := Ad h
 have HN := Ad hn
 have HD := Ad hnd
 have HM := Ad hm
 clear h hn hnd hm
 go_enter Tryz.func37, Tryz.ntmps37
 go_wp2_with fail
 go_loopw [5, 10] (fun v i wr => ∃ k : Nat, k <= n /\ i = .int .i64 k /\ (∃ A' c' q' m, v = .slice A' m c' /\ Aside0 ((Pl.live mask (l.take k)).length = m /\ Ow Av wr w.heap.size q' A' c' (Pl.live mask (l.take k)))) /\ Aside0 (Ch [] w wr)) (fun _ i _ => n - (intOf i).toNat)
 case atStart => exact ⟨0, by omega, rfl, ⟨none, 0, none, 0, rfl, ⟨rfl, Ow.nil _ _ _⟩⟩, ⟨Ch.refl _ _⟩⟩
 case round =>
   obtain ⟨k, hk, rfl, ⟨A2, c2, q2, m, rfl, O⟩, HC⟩ := hrel
   by_cases hlt : k < n
   · obtain ⟨x, hx⟩ : ∃ x, l[k]? = some x := ⟨_, List.getElem?_eq_getElem (by rw [HN.out]; exact hlt)⟩
     obtain ⟨g, o, rfl, hrc⟩ := (H.out.on HC.out).cells hx
     have R := Ad (show wr.rangeAt g (o + k * 15) (Av.enc x) from fun j v hv => hrc j v hv)
     obtain ⟨hx0, hx1⟩ := HD.out x (List.mem_of_getElem? hx)
     obtain ⟨i, hi⟩ : ∃ i : Nat, x.node = i := ⟨x.node.toNat, by omega⟩
     have LS := Ad (show Pl.live mask (l.take (k + 1)) = Pl.live mask (l.take k) ++ (if mask.testBit i then [] else [x]) by rw [List.take_add_one, hx, Option.toList_some, Pl.live_snoc, hi, Int.toNat_natCast])
     have HS := Ad (fun w => rhas_calls mask i HM.out (by omega) w)
     have hml : m <= k := by
       have := List.length_filter_le (fun a : Act' => !mask.testBit a.node.toNat) (l.take k)
       have h1 := O.out.1
       unfold Pl.live at h1
       rw [List.length_take] at this
       omega
     have HLEN := Ad O.out.1
     have HI := Ad hi
     have k0 : (0 : Int) <= (k : Int) := by omega
     have k1 : (k : Int) < (n : Int) := by omega
     have DN := Ad (Cs.new wr ([Value.int .i64 0, .int .i64 0, .bool false] ++ zf) 55)
     have CN := Ad ((Ch.refl [] wr).alloc (.cells ([Value.int .i64 0, .int .i64 0, .bool false] ++ zf).toArray 55))
     have P1 := Ad (show ∀ u ∈ Av.enc x, u.oneCell' = true from fun u hu => Av.hone x u hu)
     clear hrc hx hi hx0 hx1
     go_wp2_with (first | refine wpList_load_mid rfl 55 (.tmp 12) rfl g (o + k * 15) (by rfl) (Av.enc x) _ R.out Tryz.underlying55 rfl size55 ?_ | refine wpList_store_all rfl 55 (.tmp 7) (.tmp 13) rfl (Av.enc x) (by rfl) (by rfl) DN.out rfl size55 P1.out ?_)
     intro wa ha ca
     have CA := Ad (show Ch [] wr wa from CN.out.trans ca (by simp))
     have OA := Ad (O.out.2.on CA.out)
     have a1 : wa.cell? ⟨wr.heap.size, 1, none⟩ = some (.int .i64 i) := by rw [<- HI.out]; exact ha.cell (by rfl)
     have hal := ha.lt
     have DA := Ad ha
     have CW := Ad (HC.out.then CA.out)
     clear ha ca DN CN R P1
     cases hmk : mask.testBit i
     · have BJ := Ad (show Pl.live mask (l.take (k + 1)) = Pl.live mask (l.take k) ++ [x] by rw [LS.out, if_neg (by rw [hmk]; decide)])
       rw [hmk] at HS
       clear LS hmk
       go_wp2_with fail
       refine (HS.out _).mono ?_
       rintro e w99 ⟨rfl, hw⟩
       rw [hw]
       clear hw w99 HS
       have EA := Ad (show ∀ j v, ([Value.int .i64 x.tick, .int .i64 x.node, .bool x.fault, .int .i64 x.f.id, .bool x.f.ext, .bool x.f.rtr, .int .i64 x.f.len, .int .u8 x.f.d0, .int .u8 x.f.d1, .int .u8 x.f.d2, .int .u8 x.f.d3, .int .u8 x.f.d4, .int .u8 x.f.d5, .int .u8 x.f.d6, .int .u8 x.f.d7] : List Value)[j]? = some v -> (Av.enc x)[0 + j]? = some v from fun j v hv => by rwa [Nat.zero_add])
       have OW := Ad (OA.out.on ((Ch.refl [] wa).alloc (.cells [Value.int .i64 x.tick, .int .i64 x.node, .bool x.fault, .int .i64 x.f.id, .bool x.f.ext, .bool x.f.rtr, .int .i64 x.f.len, .int .u8 x.f.d0, .int .u8 x.f.d1, .int .u8 x.f.d2, .int .u8 x.f.d3, .int .u8 x.f.d4, .int .u8 x.f.d5, .int .u8 x.f.d6, .int .u8 x.f.d7].toArray 55)))
       have YW := Ad (Ow.lit Av wa [x] [Value.int .i64 x.tick, .int .i64 x.node, .bool x.fault, .int .i64 x.f.id, .bool x.f.ext, .bool x.f.rtr, .int .i64 x.f.len, .int .u8 x.f.d0, .int .u8 x.f.d1, .int .u8 x.f.d2, .int .u8 x.f.d3, .int .u8 x.f.d4, .int .u8 x.f.d5, .int .u8 x.f.d6, .int .u8 x.f.d7].toArray (by rfl) (by decide : 1 <= maxLen)).rd
       have BW := Ad (show w.heap.size <= (wa.alloc (.cells [Value.int .i64 x.tick, .int .i64 x.node, .bool x.fault, .int .i64 x.f.id, .bool x.f.ext, .bool x.f.rtr, .int .i64 x.f.len, .int .u8 x.f.d0, .int .u8 x.f.d1, .int .u8 x.f.d2, .int .u8 x.f.d3, .int .u8 x.f.d4, .int .u8 x.f.d5, .int .u8 x.f.d6, .int .u8 x.f.d7].toArray 55)).heap.size from (CW.out.alloc _).size)
       go_wp2_with (first | refine wpList_load_Cs rfl 55 (.tmp 7) rfl 0 [Value.int .i64 x.tick, .int .i64 x.node, .bool x.fault, .int .i64 x.f.id, .bool x.f.ext, .bool x.f.rtr, .int .i64 x.f.len, .int .u8 x.f.d0, .int .u8 x.f.d1, .int .u8 x.f.d2, .int .u8 x.f.d3, .int .u8 x.f.d4, .int .u8 x.f.d5, .int .u8 x.f.d6, .int .u8 x.f.d7] (by rfl) DA.out EA.out Tryz.underlying55 rfl size55 ?_ | (at_builtin; go_loud (refine wpList_append_Ow rfl (.tmp 19) (.tmp 21) 22 (by rfl) (by rfl) (some ⟨wa.heap.size, 0, none⟩) 1 1 [x] (by rfl) (by rfl) HLEN.out OW.out YW.out rfl (by show (m + 1) * 56 <= _; omega) BW.out ?_)))
       intro A' c' q' w4 hO hC hq
       have O4 := Ad (show (Pl.live mask (l.take (k + 1))).length = m + 1 /\ Ow Av w4 w.heap.size q' A' c' (Pl.live mask (l.take (k + 1))) from by rw [BJ.out]; exact ⟨by rw [List.length_append, HLEN.out]; rfl, hO⟩)
       have C4 := Ad ((CW.out.alloc (.cells [Value.int .i64 x.tick, .int .i64 x.node, .bool x.fault, .int .i64 x.f.id, .bool x.f.ext, .bool x.f.rtr, .int .i64 x.f.len, .int .u8 x.f.d0, .int .u8 x.f.d1, .int .u8 x.f.d2, .int .u8 x.f.d3, .int .u8 x.f.d4, .int .u8 x.f.d5, .int .u8 x.f.d6, .int .u8 x.f.d7].toArray 55)).trans hC (fun y hy => by rw [Option.mem_toList] at hy; exact .inr (OA.out.size y hy).1))
       clear hO hC hq OW YW BW EA
       go_wp2_with fail
       go_roundw
       case rel => exact ⟨k + 1, by omega, by go_num, ⟨A', c', q', _, rfl, O4⟩, C4⟩
       case measure => simp [intOf]; omega
     · have BJ := Ad (show Pl.live mask (l.take (k + 1)) = Pl.live mask (l.take k) by rw [LS.out, if_pos hmk, List.append_nil])
       rw [hmk] at HS
       clear LS hmk
       go_wp2_with fail
       refine (HS.out _).mono ?_
       rintro e w99 ⟨rfl, hw⟩
       rw [hw]
       clear hw w99 HS
       go_wp2_with fail
       go_roundw
       case rel => exact ⟨k + 1, by omega, by go_num, ⟨A2, c2, q2, m, rfl, ⟨by rw [BJ.out]; exact HLEN.out, by rw [BJ.out]; exact OA.out⟩⟩, CW⟩
       case measure => simp [intOf]; omega
   · have hkn : k = n := by omega
     subst hkn
     have e : l.take k = l := List.take_of_length_le (by rw [HN.out]; exact Nat.le_refl _)
     rw [e] at O
     clear e
     go_wp2_with fail
     go_ret
     exact ⟨A2, c2, q2, m, rfl, O.out, HC.out⟩
namespace Pl
def Bus.act1 (c : Bus × Nat) (a : Act') : Bus × Nat := if a.fault then (c.1, c.2 ||| 2 ^ a.node.toNat) else (c.1.put a.node.toNat a.f, c.2)
def Bus.acted (b : Bus) (l : List Act') : Bus × Nat := l.foldl Bus.act1 (b, 0)
theorem Bus.acted_snoc (b : Bus) (l : List Act') (a : Act') : b.acted (l ++ [a]) = Bus.act1 (b.acted l) a := by simp [Bus.acted]
def at' (l : List Act') (t : Int) : List Act' := l.filter (fun a => decide (a.tick = t))
def Bus.tick1 (l : List Act') (b : Bus) : Bus × Run × List Ev := (b.acted (at' l b.tick)).1.force (b.acted (at' l b.tick)).2 0 0
def Bus.after (l : List Act') (b : Bus) : Nat -> Bus
 | 0 => b
 | t + 1 => (Bus.tick1 l (Bus.after l b t)).1
def Bus.rs (l : List Act') (b : Bus) : Nat -> List Run
 | 0 => []
 | t + 1 => Bus.rs l b t ++ [(Bus.tick1 l (Bus.after l b t)).2.1]
def Bus.es (l : List Act') (b : Bus) : Nat -> List Ev
 | 0 => []
 | t + 1 => Bus.es l b t ++ (Bus.tick1 l (Bus.after l b t)).2.2
def Bus.fresh (n : Nat) : Bus := ⟨List.replicate n Nd.new, 0⟩
structure Bus.good (n m : Nat) (b : Bus) : Prop where
 len : b.nodes.length = n
 nodes : ∀ x ∈ b.nodes, x.good m
theorem fresh_good (n : Nat) : (Bus.fresh n).good n 0 := ⟨by simp [Bus.fresh], fun x hx => by
 have := List.eq_of_mem_replicate hx
 rw [this]; exact good_new⟩
theorem put_goodB {n m : Nat} {b : Bus} (h : b.good n m) (i : Nat) (f : Fr) : (b.put i f).good n m := by
 unfold Bus.put
 split
 · rename_i x hx
   refine ⟨by simp [h.len], fun y hy => ?_⟩
   rcases List.mem_or_eq_of_mem_set hy with h1 | rfl
   · exact h.nodes y h1
   · exact put_good (h.nodes x (List.mem_of_getElem? hx)) f
 · exact h
theorem put_tick (b : Bus) (i : Nat) (f : Fr) : (b.put i f).tick = b.tick := by
 unfold Bus.put
 split <;> rfl
theorem act1_good {n m : Nat} {c : Bus × Nat} (h : c.1.good n m) (hc : c.2 < 2 ^ n) (a : Act') (ha : 0 <= a.node /\ a.node < n) : (Bus.act1 c a).1.good n m /\ (Bus.act1 c a).2 < 2 ^ n /\ (Bus.act1 c a).1.tick = c.1.tick := by
 unfold Bus.act1
 split
 · refine ⟨h, Nat.or_lt_two_pow hc (Nat.pow_lt_pow_right (by decide) (by omega)), rfl⟩
 · exact ⟨put_goodB h _ _, hc, put_tick _ _ _⟩
theorem acted_good {n m : Nat} : ∀ (l : List Act') (c : Bus × Nat), c.1.good n m -> c.2 < 2 ^ n -> (∀ a ∈ l, 0 <= a.node /\ a.node < n) -> (l.foldl Bus.act1 c).1.good n m /\ (l.foldl Bus.act1 c).2 < 2 ^ n /\ (l.foldl Bus.act1 c).1.tick = c.1.tick
 | [], c, h, hc, _ => ⟨h, hc, rfl⟩
 | a :: l, c, h, hc, ha => by
   obtain ⟨h1, h2, h3⟩ := act1_good h hc a (ha a (by simp))
   obtain ⟨h4, h5, h6⟩ := acted_good l _ h1 h2 (fun x hx => ha x (by simp [hx]))
   exact ⟨h4, h5, h6.trans h3⟩
theorem sees_lv (f : Nat) (lv : Int) (i : Nat) (h : lv = 0 ∨ lv = 1) : sees f lv i = 0 ∨ sees f lv i = 1 := by
 unfold sees
 split <;> omega
theorem stepsN_good {m : Nat} (f mask : Nat) (lv : Int) (hlv : lv = 0 ∨ lv = 1) : ∀ (xs : List Nd) (i : Nat), (∀ x ∈ xs, x.good m) -> ∀ x ∈ stepsN f mask lv xs i, x.good (m + 1)
 | [], _, _, x, hx => by simp [stepsN] at hx
 | y :: xs, i, h, x, hx => by
   rw [stepsN] at hx
   rcases List.mem_cons.1 hx with rfl | hx
   · have hy := h y (by simp)
     split
     · exact ⟨hy.tobase.more (Nat.le_succ m), hy.sent⟩
     · exact step_good hy _ (sees_lv f lv i hlv) _
   · exact stepsN_good f mask lv hlv xs (i + 1) (fun z hz => h z (by simp [hz])) x hx
theorem run_lv (b : Bus) (mask drive : Nat) : (b.run mask drive).bus = 0 ∨ (b.run mask drive).bus = 1 := by
 unfold Bus.run
 simp only []
 split
 · exact .inr rfl
 · exact .inl rfl
theorem force_good {n m : Nat} {b : Bus} (h : b.good n m) (faults mask drive : Nat) : (b.force faults mask drive).1.good n (m + 1) /\ (b.force faults mask drive).1.tick = b.tick + 1 := by
 refine ⟨⟨?_, ?_⟩, rfl⟩
 · show (stepsN _ _ _ _ _).length = n
   rw [stepsN_length, h.len]
 · exact stepsN_good faults mask _ (run_lv b mask drive) b.nodes 0 h.nodes
theorem at_mem {l : List Act'} {t : Int} {a : Act'} (h : a ∈ at' l t) : a ∈ l := (List.mem_filter.1 h).1
theorem after_good {n : Nat} {l : List Act'} {b : Bus} (h : b.good n 0) (hl : ∀ a ∈ l, 0 <= a.node /\ a.node < n) : ∀ t, (Bus.after l b t).good n t /\ (Bus.after l b t).tick = b.tick + t
 | 0 => ⟨h, by simp [Bus.after]⟩
 | t + 1 => by
   obtain ⟨h1, h2⟩ := after_good h hl t
   obtain ⟨h3, _, h5⟩ := acted_good (at' l (Bus.after l b t).tick) ((Bus.after l b t), 0) h1 (Nat.pow_pos (by decide)) (fun a ha => hl a (at_mem ha))
   obtain ⟨h6, h7⟩ := force_good h3 ((Bus.after l b t).acted (at' l (Bus.after l b t).tick)).2 0 0
   refine ⟨h6, ?_⟩
   show (Bus.force _ _ _ _).1.tick = _
   rw [show (Bus.force ((Bus.after l b t).acted (at' l (Bus.after l b t).tick)).1 ((Bus.after l b t).acted (at' l (Bus.after l b t).tick)).2 0 0).1.tick = ((Bus.after l b t).acted (at' l (Bus.after l b t).tick)).1.tick + 1 from rfl]
   rw [show ((Bus.after l b t).acted (at' l (Bus.after l b t).tick)).1.tick = (Bus.after l b t).tick from h5, h2]
   simp only [Int.natCast_add]
   omega
theorem lvls_lt (mask drive : Nat) : ∀ (xs : List Nd) (i m : Nat), m < 4294967296 -> lvls mask drive xs i m < 4294967296
 | [], _, _, h => h
 | x :: xs, i, m, h => by
   rw [lvls]
   refine lvls_lt mask drive xs (i + 1) _ ?_
   split
   · exact Nat.lt_of_le_of_lt Nat.and_le_left h
   · exact h
theorem run_rgt (b : Bus) (mask drive : Nat) : rgt (b.run mask drive) /\ (b.run mask drive).n = 1 /\ ∃ d : Nat, (b.run mask drive).drv = d /\ d < 4294967296 := by
 refine ⟨⟨by show (1 : Int) <= 1; omega, by show (1 : Int) <= 1073741824; omega, ?_⟩, rfl, _, rfl, lvls_lt _ _ _ _ _ (by decide)⟩
 unfold Bus.run
 simp only []
 by_cases h : lvls mask drive b.nodes 0 4294967295 = 4294967295
 · rw [if_pos h, if_pos (by rw [h]; rfl)]
 · rw [if_neg h, if_neg (by omega)]
theorem rs_length (l : List Act') (b : Bus) : ∀ t, (Bus.rs l b t).length = t
 | 0 => rfl
 | t + 1 => by simp [Bus.rs, rs_length l b t]
theorem rs_all (l : List Act') (b : Bus) : ∀ t, ∀ r ∈ Bus.rs l b t, rgt r /\ r.n = 1 /\ ∃ d : Nat, r.drv = d /\ d < 4294967296
 | 0, r, h => by simp [Bus.rs] at h
 | t + 1, r, h => by
   rw [Bus.rs] at h
   rcases List.mem_append.1 h with h | h
   · exact rs_all l b t r h
   · simp at h
     subst h
     exact run_rgt _ 0 0
theorem tot_ones : ∀ l : List Run, (∀ r ∈ l, r.n = 1) -> tot l = l.length
 | [], _ => rfl
 | r :: l, h => by
   have h1 := h r (by simp)
   have h2 := tot_ones l (fun x hx => h x (by simp [hx]))
   simp only [tot, List.length_cons, h1, h2]
   omega
theorem rs_tot (l : List Act') (b : Bus) (t : Nat) : tot (Bus.rs l b t) = t := by
 rw [tot_ones _ (fun r hr => (rs_all l b t r hr).2.1), rs_length]
theorem es_length {n : Nat} {l : List Act'} {b : Bus} (h : b.good n 0) (hl : ∀ a ∈ l, 0 <= a.node /\ a.node < n) : ∀ t, (Bus.es l b t).length <= 4 * n * t
 | 0 => by simp [Bus.es]
 | t + 1 => by
   have h1 := es_length h hl t
   obtain ⟨h2, _⟩ := after_good h hl t
   obtain ⟨h3, _, _⟩ := acted_good (at' l (Bus.after l b t).tick) ((Bus.after l b t), 0) h2 (Nat.pow_pos (by decide)) (fun a ha => hl a (at_mem ha))
   have h4 : (Bus.tick1 l (Bus.after l b t)).2.2.length <= 4 * n := by
     have := stepsE_le ((Bus.after l b t).acted (at' l (Bus.after l b t).tick)).2 0 (((Bus.after l b t).acted (at' l (Bus.after l b t).tick)).1.run 0 0).bus ((Bus.after l b t).acted (at' l (Bus.after l b t).tick)).1.tick ((Bus.after l b t).acted (at' l (Bus.after l b t).tick)).1.nodes 0
     rw [show ((Bus.after l b t).acted (at' l (Bus.after l b t).tick)).1.nodes.length = n from h3.len] at this
     exact this
   rw [Bus.es, List.length_append, Nat.mul_add]
   omega
theorem chkL_zero {n : Int} : ∀ {l : List Act'}, chkL n l = 0 -> ∀ a ∈ l, 0 <= a.tick /\ 0 <= a.node /\ a.node < n /\ (a.fault = false -> a.f.ok = true)
 | [], _, a, h => by simp at h
 | y :: l, hc, a, h => by
   unfold chkL at hc
   split at hc
   · simp at hc
   · rename_i h1
     split at hc
     · simp at hc
     · rename_i h2
       rcases List.mem_cons.1 h with rfl | h
       · refine ⟨by omega, by omega, by omega, fun hf => ?_⟩
         cases ho : a.f.ok
         · exact absurd ⟨hf, ho⟩ h2
         · rfl
       · exact chkL_zero hc a h
theorem chk_zero {n : Int} {l : List Act'} (h : chk n l = 0) : (1 <= n /\ n <= 32) /\ ∀ a ∈ l, 0 <= a.tick /\ 0 <= a.node /\ a.node < n /\ (a.fault = false -> a.f.ok = true) := by
 unfold chk at h
 split at h
 · simp at h
 · exact ⟨by omega, chkL_zero h⟩
end Pl
theorem clr_lt {m : Nat} (i : Nat) (h : m < 4294967296) : Pl.clr m i < 4294967296 := Nat.lt_of_le_of_lt Nat.and_le_left h
set_option maxRecDepth 100000 in
theorem force_calls {w : World} {b gB c : Nat} {A : Option Addr} {q : Option Nat} {ps : List (Nat × Lay)} {xs : List Pl.Nd} {tick : Int} (faults mask drive : Nat) (h : BusAt w b gB A c q ps xs tick) (hn : xs.length <= 32) (hfm : (faults ||| mask) / 2 ^ xs.length = 0) (hf : faults < 4294967296) (hm : mask < 4294967296) (hd : drive < 4294967296) (ht : 0 <= tick /\ tick <= 1000000)
   (hfit : ∀ x ∈ xs, x.fit) :
   Calls Tryz.prog 39 #[.pointer (some ⟨gB, 0, none⟩), .int .u32 faults, .int .u32 mask, .int .u32 drive] w fun e w' => ∃ A' c' q' ps' m, e = .returned (.tuple #[.agg #[.int .i64 1, .int .i64 (Pl.Bus.run ⟨xs, tick⟩ mask drive).bus, .int .u32 (Pl.Bus.run ⟨xs, tick⟩ mask drive).drv], .slice A' m c', .int .i64 0]) /\ ((Pl.Bus.force ⟨xs, tick⟩ faults mask drive).2.2.length = m /\ Ow Evv w' w.heap.size q' A' c' (Pl.Bus.force ⟨xs, tick⟩ faults mask drive).2.2) /\ BusAt w' b gB A c q ps' (Pl.Bus.force ⟨xs, tick⟩ faults mask drive).1.nodes (tick + 1) /\ St (bfp gB q ps) w w' (bfp gB q ps') := by
 obtain ⟨n, hnn⟩ : ∃ n, xs.length = n := ⟨_, rfl⟩
 have DR := Ad (Cs.new w [Value.int .i64 0, .int .i64 0, .int .u32 0] 93)
 have C0 := Ad ((Ch.refl [] w).alloc (.cells [Value.int .i64 0, .int .i64 0, .int .u32 0].toArray 93))
 obtain ⟨w0, hw0⟩ : ∃ w0, w.alloc (.cells [Value.int .i64 0, .int .i64 0, .int .u32 0].toArray 93) = w0 := ⟨_, rfl⟩
 rw [hw0] at DR C0
 have h0 := h.on C0.out
 have hfl : faults ||| mask < 4294967296 := Nat.or_lt_two_pow (n := 32) hf hm
 have eo : bits BinOp.or IntKind.u32 (faults : Int) (mask : Int) = ((faults ||| mask : Nat) : Int) := u32_or_nat faults mask hf hm
 have ew : IntKind.u64.wrap ((faults ||| mask : Nat) : Int) = ((faults ||| mask : Nat) : Int) := by simp only [IntKind.wrap, IntKind.bits, IntKind.signed]; simp; omega
 have es : ((faults ||| mask : Nat) : Int) / 2 ^ n = 0 := by rw [nat_div_pow, <- hnn, hfm]; rfl
 have cw : w.cell? ⟨gB, 0, none⟩ = some (.slice A n c) := by rw [<- hnn]; exact h.cs.cell (by rfl)
 have hglw := h.cs.lt
 have c0 : w0.cell? ⟨gB, 0, none⟩ = some (.slice A n c) := by rw [<- hnn]; exact h0.cs.cell (by rfl)
 have hgl := h0.cs.lt
 have H0 := Ad h0
 have HW := Ad hw0
 have BNDS := Ad (And.intro hf (And.intro hm hd))
 have FIT := Ad hfit
 have HNN := Ad hnn
 rw [hnn] at hn
 clear h h0 hw0 hfm hfl hf hm hd hfit hnn
 generalize faults ||| mask = fm at *
 go_enter Tryz.func39, Tryz.ntmps39
 go_wp2_with fail
 rw [HW.out]
 go_loopw [11, 43] (fun v i wr => ∃ k m1 : Nat, k <= n /\ i = .int .i64 k /\ v = .int .u32 m1 /\ Aside0 (m1 < 4294967296) /\ Aside0 (Pl.lvls mask drive xs 0 4294967295 = Pl.lvls mask drive (xs.drop k) k m1) /\ Aside0 (Ch [] w0 wr)) (fun _ i _ => n - (intOf i).toNat)
 case atStart => exact ⟨0, 4294967295, by omega, rfl, rfl, ⟨by decide⟩, ⟨rfl⟩, ⟨Ch.refl _ _⟩⟩
 case round =>
   obtain ⟨k, m1, hk, rfl, rfl, HM, HI, HC⟩ := hrel
   by_cases hlt : k < n
   · obtain ⟨x, hx⟩ : ∃ x, xs[k]? = some x := ⟨_, List.getElem?_eq_getElem (by rw [HNN.out]; exact hlt)⟩
     obtain ⟨p, hp⟩ : ∃ p, ps[k]? = some p := ⟨_, List.getElem?_eq_getElem (by rw [H0.out.ns.len, HNN.out]; exact hlt)⟩
     have hB := H0.out.on HC.out
     have hxf := FIT.out x (List.mem_of_getElem? hx)
     obtain ⟨g2, o2, rfl, cp⟩ := hB.ow.ptr hp
     have ND := Ad (ndrive_calls wr (hB.ns.at_ k p x hp hx) hxf.reach hxf.level)
     have HS := Ad (fun w => has_calls mask k BNDS.out.2.1 (by omega) w)
     have HS2 := Ad (fun w => has_calls drive k BNDS.out.2.2 (by omega) w)
     have HD := Ad (show Pl.lvls mask drive xs 0 4294967295 = Pl.lvls mask drive (xs.drop (k + 1)) (k + 1) (if Pl.dom mask drive k x then Pl.clr m1 k else m1) by
       rw [HI.out, show xs.drop k = x :: xs.drop (k + 1) by rw [List.drop_eq_getElem_cons (by rw [HNN.out]; exact hlt)]; congr 1; exact (List.getElem?_eq_some_iff.1 hx).2]
       rfl)
     have DM := Ad (show Pl.dom mask drive k x = if mask.testBit k then !drive.testBit k else decide (x.drive = 0) from rfl)
     have k0 : (0 : Int) <= (k : Int) := by omega
     have k1 : (k : Int) < (n : Int) := by omega
     clear hx hp hxf hB
     generalize x.drive = xd at *
     generalize mask.testBit k = mk at *
     generalize drive.testBit k = dk at *
     have CL := Ad (show bits BinOp.andNot IntKind.u32 (m1 : Int) ((2 : Int) ^ k % 4294967296) = ((Pl.clr m1 k : Nat) : Int) from by
       have hp : 2 ^ k < 4294967296 := Nat.pow_lt_pow_right (a := 2) (n := 32) (by decide) (by omega)
       rw [show (2 : Int) ^ k % 4294967296 = ((2 ^ k % 4294967296 : Nat) : Int) by simp, Nat.mod_eq_of_lt hp]
       exact u32_andNot_nat m1 (2 ^ k) HM.out hp)
     cases mk
     · by_cases hx0 : xd = 0
       · have bx : (xd == 0) = true := by simpa using hx0
         have HX0 := Ad hx0
         clear hx0
         go_wp2_with fail
         refine ND.out.mono ?_
         rintro e w1 ⟨rfl, hC⟩
         have C1 := Ad (HC.out.then hC)
         clear hC
         go_wp2_with fail
         refine (HS.out _).mono ?_
         rintro e w99 ⟨rfl, hw⟩
         rw [hw]
         clear hw w99
         have RES := Ad (show Pl.lvls mask drive xs 0 4294967295 = Pl.lvls mask drive (xs.drop (k + 1)) (k + 1) (Pl.clr m1 k) from by rw [HD.out, DM.out]; simp [HX0.out])
         clear HD DM ND HS HS2
         go_wp2_with fail
         go_roundw
         case rel => exact ⟨k + 1, Pl.clr m1 k, by omega, by go_num, by rw [CL.out], ⟨clr_lt _ HM.out⟩, RES, C1⟩
         case measure => simp [intOf]; omega
       · have bx : (xd == 0) = false := by simpa using hx0
         have HX0 := Ad hx0
         clear hx0
         go_wp2_with fail
         refine ND.out.mono ?_
         rintro e w1 ⟨rfl, hC⟩
         have C1 := Ad (HC.out.then hC)
         clear hC
         go_wp2_with fail
         refine (HS.out _).mono ?_
         rintro e w99 ⟨rfl, hw⟩
         rw [hw]
         clear hw w99
         have RES := Ad (show Pl.lvls mask drive xs 0 4294967295 = Pl.lvls mask drive (xs.drop (k + 1)) (k + 1) m1 from by rw [HD.out, DM.out]; simp [HX0.out])
         clear HD DM ND HS HS2
         go_wp2_with fail
         go_roundw
         case rel => exact ⟨k + 1, m1, by omega, by go_num, rfl, HM, RES, C1⟩
         case measure => simp [intOf]; omega
     · by_cases hx0 : xd = 0
       · have bx : (xd == 0) = true := by simpa using hx0
         clear hx0
         go_wp2_with fail
         refine ND.out.mono ?_
         rintro e w1 ⟨rfl, hC⟩
         have C1 := Ad (HC.out.then hC)
         clear hC
         go_wp2_with fail
         refine (HS.out _).mono ?_
         rintro e w99 ⟨rfl, hw⟩
         rw [hw]
         clear hw w99
         cases dk
         · go_wp2_with fail
           refine (HS2.out _).mono ?_
           rintro e w99 ⟨rfl, hw⟩
           rw [hw]
           clear hw w99
           have RES := Ad (show Pl.lvls mask drive xs 0 4294967295 = Pl.lvls mask drive (xs.drop (k + 1)) (k + 1) (Pl.clr m1 k) from by rw [HD.out, DM.out]; rfl)
           clear HD DM ND HS HS2
           go_wp2_with fail
           go_roundw
           case rel => exact ⟨k + 1, Pl.clr m1 k, by omega, by go_num, by rw [CL.out], ⟨clr_lt _ HM.out⟩, RES, C1⟩
           case measure => simp [intOf]; omega
         · go_wp2_with fail
           refine (HS2.out _).mono ?_
           rintro e w99 ⟨rfl, hw⟩
           rw [hw]
           clear hw w99
           have RES := Ad (show Pl.lvls mask drive xs 0 4294967295 = Pl.lvls mask drive (xs.drop (k + 1)) (k + 1) m1 from by rw [HD.out, DM.out]; rfl)
           clear HD DM ND HS HS2
           go_wp2_with fail
           go_roundw
           case rel => exact ⟨k + 1, m1, by omega, by go_num, rfl, HM, RES, C1⟩
           case measure => simp [intOf]; omega
       · have bx : (xd == 0) = false := by simpa using hx0
         clear hx0
         go_wp2_with fail
         refine ND.out.mono ?_
         rintro e w1 ⟨rfl, hC⟩
         have C1 := Ad (HC.out.then hC)
         clear hC
         go_wp2_with fail
         refine (HS.out _).mono ?_
         rintro e w99 ⟨rfl, hw⟩
         rw [hw]
         clear hw w99
         cases dk
         · go_wp2_with fail
           refine (HS2.out _).mono ?_
           rintro e w99 ⟨rfl, hw⟩
           rw [hw]
           clear hw w99
           have RES := Ad (show Pl.lvls mask drive xs 0 4294967295 = Pl.lvls mask drive (xs.drop (k + 1)) (k + 1) (Pl.clr m1 k) from by rw [HD.out, DM.out]; rfl)
           clear HD DM ND HS HS2
           go_wp2_with fail
           go_roundw
           case rel => exact ⟨k + 1, Pl.clr m1 k, by omega, by go_num, by rw [CL.out], ⟨clr_lt _ HM.out⟩, RES, C1⟩
           case measure => simp [intOf]; omega
         · go_wp2_with fail
           refine (HS2.out _).mono ?_
           rintro e w99 ⟨rfl, hw⟩
           rw [hw]
           clear hw w99
           have RES := Ad (show Pl.lvls mask drive xs 0 4294967295 = Pl.lvls mask drive (xs.drop (k + 1)) (k + 1) m1 from by rw [HD.out, DM.out]; rfl)
           clear HD DM ND HS HS2
           go_wp2_with fail
           go_roundw
           case rel => exact ⟨k + 1, m1, by omega, by go_num, rfl, HM, RES, C1⟩
           case measure => simp [intOf]; omega
   · have hkn : k = n := by omega
     subst hkn
     have LV := Ad (show Pl.lvls mask drive xs 0 4294967295 = m1 from by rw [HI.out, List.drop_eq_nil_of_le (by rw [HNN.out]; exact Nat.le_refl _)]; rfl)
     have cr0 : wr.cell? ⟨gB, 0, none⟩ = some (.slice A k c) := HC.out.cell c0 (by simp)
     have hgr : gB < wr.heap.size := Nat.lt_of_lt_of_le hgl HC.out.size
     have D1 := Ad (Cs.new wr [Value.int .i64 0, .int .i64 0, .int .u32 0] 93)
     have C1 := Ad (HC.out.alloc (.cells [Value.int .i64 0, .int .i64 0, .int .u32 0].toArray 93))
     clear hlt hk HI
     generalize wr = wA at *
     have LVM : Aside0 (∃ lv : Int, (lv = 0 ∨ lv = 1) /\ (m1 = 4294967295 -> lv = 1) /\ (m1 ≠ 4294967295 -> lv = 0) /\ Pl.Bus.run ⟨xs, tick⟩ mask drive = ⟨1, lv, (m1 : Nat)⟩) := ⟨by
       unfold Pl.Bus.run
       rw [LV.out]
       by_cases h : m1 = 4294967295
       · exact ⟨1, .inr rfl, fun _ => rfl, fun h2 => absurd h h2, by rw [if_pos h]⟩
       · exact ⟨0, .inl rfl, fun h2 => absurd h2 h, fun _ => rfl, by rw [if_neg h]⟩⟩
     obtain ⟨lv, hlv, hl1, hl0, hrun⟩ := LVM.out
     have RUN := Ad hrun
     have LV01 := Ad hlv
     have hlvb : 0 <= lv /\ lv <= 1 := by omega
     clear LVM hrun hlv
     have BR := Ad (H0.out.on HC.out)
     have S0 := Ad (show St (bfp gB q ps) w wA (bfp gB q ps) from St.of (C0.out.then HC.out))
     have DR2 := Ad (DR.out.on HC.out)
     by_cases ha : m1 = 4294967295
     · have bb : ((m1 : Int) != 4294967295) = false := by simp; omega
       have e1 : lv = 1 := hl1 ha
       have E1 := Ad e1
       clear ha hl1 hl0 e1
       go_wp2_with (refine wpList_store_all rfl 93 (.tmp 15) (.tmp 65) rfl [Value.int .i64 1, .int .i64 1, .int .u32 m1] (by rfl) (by rfl) D1.out rfl size93 (by simp [Value.oneCell']) ?_)
       intro w5 hd hc
       have C5 := Ad (((Ch.refl [] wA).alloc (.cells [Value.int .i64 0, .int .i64 0, .int .u32 0].toArray 93)).trans hc (by simp))
       have D5 := Ad (show Cs w5 wA.heap.size 93 [Value.int .i64 1, .int .i64 lv, .int .u32 m1] from by rw [E1.out]; exact hd)
       have cr1 : w5.cell? ⟨gB, 0, none⟩ = some (.slice A k c) := C5.out.cell cr0 (by simp)
       have hg5 : gB < w5.heap.size := Nat.lt_of_lt_of_le hgr C5.out.size
       clear hd hc E1 D1 C1
       go_wp2_with fail
       go_loopw [16, 74] (fun v i wr => ∃ j : Nat, j <= k /\ i = .int .i64 j /\ (∃ A2 c2 q2 t, v = .slice A2 t c2 /\ Aside0 ((Pl.stepsE faults mask lv tick (xs.take j) 0).length = t /\ Ow Evv wr w5.heap.size q2 A2 c2 (Pl.stepsE faults mask lv tick (xs.take j) 0))) /\
         (∃ ps2, Aside0 (BusAt wr b gB A c q ps2 (Pl.partly faults mask lv xs j) tick /\ St (bfp gB q ps) w5 wr (bfp gB q ps2)))) (fun _ i _ => k - (intOf i).toNat)
       case atStart =>
         refine ⟨0, by omega, rfl, ⟨none, 0, none, 0, rfl, ⟨rfl, Ow.nil _ _ _⟩⟩, ps, ⟨?_, St.refl _ _⟩⟩
         rw [Pl.partly_zero]
         exact BR.out.on C5.out
       case round =>
         obtain ⟨j, hj, rfl, ⟨A2, c2, q2, t, rfl, O⟩, ps2, HB⟩ := hrel
         have hnk := HNN.out
         have hlp : (Pl.partly faults mask lv xs j).length = k := by rw [partly_length _ _ _ _ _ (by omega), hnk]
         have hB1 := HB.out.1
         have z0 : wr.cell? ⟨gB, 0, none⟩ = some (.slice A k c) := by
           have := hB1.cs.cell (j := 0) (v := .slice A (Pl.partly faults mask lv xs j).length c) (by rfl)
           rwa [hlp] at this
         have z1 : wr.cell? ⟨gB, 1, none⟩ = some (.int .i64 tick) := hB1.cs.cell (by rfl)
         have hgz := hB1.cs.lt
         have hr9 : ∀ {y : Nat} {T : TypeId} {cs : List Value}, Cs w5 y T cs -> (T = 51 ∨ T = 93) -> Cs wr y T cs := fun h9 hT => h9.keep HB.out.2.1 ((BR.out.on C5.out).other h9 hT)
         have RZ := Ad (hr9 D5.out (.inr rfl))
         have rz1 : wr.cell? ⟨wA.heap.size, 1, none⟩ = some (.int .i64 lv) := RZ.out.cell (by rfl)
         have hrz := RZ.out.lt
         clear hr9 hlp hB1
         by_cases hlt : j < k
         · obtain ⟨x, hx⟩ : ∃ x, xs[j]? = some x := ⟨_, List.getElem?_eq_getElem (by rw [hnk]; exact hlt)⟩
           obtain ⟨p, hp⟩ : ∃ p, ps2[j]? = some p := ⟨_, List.getElem?_eq_getElem (by rw [HB.out.1.ns.len, partly_length _ _ _ _ _ (by omega), hnk]; exact hlt)⟩
           have hxp := Pl.partly_get faults mask lv xs j x hx
           have hxf := FIT.out x (List.mem_of_getElem? hx)
           obtain ⟨g2, o2, rfl, cp⟩ := HB.out.1.ow.ptr hp
           have SE := Ad (Pl.stepsE_take faults mask lv tick xs j x hx)
           have SLE := Ad (Pl.stepsE_le faults mask lv tick (xs.take j) 0)
           have HS := Ad (fun w => has_calls mask j BNDS.out.2.1 (by omega) w)
           have HF := Ad (fun w => has_calls faults j BNDS.out.1 (by omega) w)
           have k00 : (0 : Int) <= (j : Int) := by omega
           have k01 : (j : Int) < (k : Int) := by omega
           cases hmk : mask.testBit j
           · cases hfk : faults.testBit j
             · have SV := Ad (show Pl.sees faults lv j = lv by unfold Pl.sees; rw [hfk]; rfl)
               have NS := Ad (nstep_calls wr (HB.out.1.ns.at_ j p x hp hxp) HB.out.1.ns.base lv (by omega) hxf (by have := Pl.step_kn x Pl.Td.none lv; simp [Pl.Td.none] at this ⊢; omega))
               have TL := Ad (show Pl.tells faults mask lv tick j x = (x.step Pl.Td.none lv).2.evs.map (Pl.stamp tick j) by rw [Pl.tells, if_neg (by rw [hmk]; decide), SV.out])
               have AF := Ad (show Pl.after faults mask lv j x = (x.step Pl.Td.none lv).1 by rw [Pl.after, if_neg (by rw [hmk]; decide), SV.out])
               have PSET := Ad (Pl.partly_set faults mask lv xs j x hx)
               have KN := Ad (show (x.step Pl.Td.none lv).2.evs.length <= 4 from by have := Pl.step_kn x Pl.Td.none lv; unfold Pl.Td.evs; rw [List.length_map]; simpa [Pl.Td.none] using this)
               generalize hst : x.step Pl.Td.none lv = st at *
               rw [hmk] at HS
               rw [hfk] at HF
               have HP := Ad hp
               have HXP := Ad hxp
               clear hst hx hxf hmk hfk SV hp hxp
               go_wp2_with fail
               refine (HS.out _).mono ?_
               rintro e w99 ⟨rfl, hw⟩
               rw [hw]
               clear hw w99 HS
               go_wp2_with fail
               refine (HF.out _).mono ?_
               rintro e w99 ⟨rfl, hw⟩
               rw [hw]
               clear hw w99 HF
               go_wp2_with fail
               refine NS.out.mono ?_
               rintro e w1 ⟨⟨A9, c9, q9, n9, rfl, hn9, hO9⟩, L', hN, hC, hk9⟩
               obtain ⟨hBt, hSt⟩ := HB.out.1.turn HP.out HXP.out hN hC hk9
               have B1 := Ad (show BusAt w1 b gB (some ⟨g2, o2, none⟩) c q (ps2.set j (p.1, L')) (Pl.partly faults mask lv xs (j + 1)) tick from by rw [<- PSET.out, AF.out]; exact hBt)
               have S1 := Ad (HB.out.2.trans hSt)
               have O9 := Ad hO9
               have N9 := Ad hn9
               have OB := Ad (show Ow Evv w1 w5.heap.size q2 A2 c2 (Pl.stepsE faults mask lv tick (xs.take j) 0) from O.out.2.keep hSt.1 (fun y hy hm => HB.out.1.apart O.out.2 y hm (by rw [Option.mem_toList]; exact hy)))
               have QS := Ad (show ∀ y, q2 = some y -> y < wr.heap.size from fun y hy => (O.out.2.size y hy).2)
               have n4 : n9 <= 4 := by rw [hn9]; exact KN.out
               have y1 : w1.cell? ⟨gB, 1, none⟩ = some (.int .i64 tick) := hBt.cs.cell (by rfl)
               have hg1 := hBt.cs.lt
               have t128 : t <= 4 * k := by
                 have h1 := SLE.out
                 rw [O.out.1, List.length_take] at h1
                 omega
               have ht1 := O.out.1
               have HT1 := Ad ht1
               clear hN hC hk9 hBt hSt hO9 hn9 NS ht1 HP HXP PSET AF O KN z0 z1 rz1 hrz hgz cp
               go_wp2_with fail
               generalize wr = wO at *
               go_loopw [16, 105] (fun v i wi => ∃ r : Nat, r <= n9 /\ i = .int .i64 r /\ (∃ A3 c3 q3 t3, v = .slice A3 t3 c3 /\ Aside0 ((Pl.stepsE faults mask lv tick (xs.take j) 0 ++ (st.2.evs.take r).map (Pl.stamp tick j)).length = t3 /\ Ow Evv wi w5.heap.size q3 A3 c3 (Pl.stepsE faults mask lv tick (xs.take j) 0 ++ (st.2.evs.take r).map (Pl.stamp tick j)) /\ ∀ y, q3 = some y -> q2 = some y ∨ w1.heap.size <= y)) /\ Aside0 (Ch q2.toList w1 wi)) (fun _ i _ => n9 - (intOf i).toNat)
               case atStart => exact ⟨0, by omega, rfl, ⟨A2, c2, q2, t, rfl, ⟨by simpa using HT1.out, by simpa using OB.out, fun y hy => .inl hy⟩⟩, ⟨Ch.refl _ _⟩⟩
               case round =>
                 obtain ⟨r, hr, rfl, ⟨A3, c3, q3, t3, rfl, O3⟩, C3⟩ := hrel
                 by_cases hlt2 : r < n9
                 · obtain ⟨x9, hx9⟩ : ∃ x9, st.2.evs[r]? = some x9 := ⟨_, List.getElem?_eq_getElem (by rw [<- N9.out]; exact hlt2)⟩
                   have hB2 := B1.out.keep C3.out (B1.out.apart OB.out)
                   have hO9 := O9.out.keep C3.out (fun y hy hm => by rw [Option.mem_toList] at hm; have := QS.out y hm; have := (O9.out.size y hy).1; omega)
                   obtain ⟨g9, o9, rfl, hc9⟩ := hO9.rd.cells hx9
                   have R9 := Ad (show wr.rangeAt g9 (o9 + r * 15) (Evv.enc x9) from fun y v hv => hc9 y v hv)
                   have TK := Ad (show (st.2.evs.take (r + 1)).map (Pl.stamp tick j) = (st.2.evs.take r).map (Pl.stamp tick j) ++ [Pl.stamp tick j x9] by rw [List.take_add_one, hx9, Option.toList_some, List.map_append]; rfl)
                   have k90 : (0 : Int) <= (r : Int) := by omega
                   have k91 : (r : Int) < (n9 : Int) := by omega
                   have yr1 : wr.cell? ⟨gB, 1, none⟩ = some (.int .i64 tick) := hB2.cs.cell (by rfl)
                   have DN := Ad (Cs.new wr ([Value.int .i64 0, .int .i64 0, .int .i64 0] ++ zf) 51)
                   have CN := Ad ((Ch.refl [] wr).alloc (.cells ([Value.int .i64 0, .int .i64 0, .int .i64 0] ++ zf).toArray 51))
                   have P9 := Ad (show ∀ u ∈ Evv.enc x9, u.oneCell' = true from fun u hu => Evv.hone x9 u hu)
                   have t3b : t3 <= 4 * k + 4 := by
                     have h1 := O3.out.1
                     rw [List.length_append, HT1.out, List.length_map, List.length_take] at h1
                     omega
                   have HLK := Ad O3.out.1
                   have E9 := Ad (show (Evv.enc (Pl.stamp tick j x9)) = [Value.int .i64 tick, .int .i64 j, .int .i64 x9.kind, .int .i64 x9.f.id, .bool x9.f.ext, .bool x9.f.rtr, .int .i64 x9.f.len, .int .u8 x9.f.d0, .int .u8 x9.f.d1, .int .u8 x9.f.d2, .int .u8 x9.f.d3, .int .u8 x9.f.d4, .int .u8 x9.f.d5, .int .u8 x9.f.d6, .int .u8 x9.f.d7] from rfl)
                   clear hB2 hO9 hc9 hx9
                   go_wp2_with (first | refine wpList_load_mid rfl 51 (.tmp 107) rfl g9 (o9 + r * 15) (by rfl) (Evv.enc x9) _ R9.out Tryz.underlying51 rfl size51 ?_ | refine wpList_store_all rfl 51 (.tmp 22) (.tmp 108) rfl (Evv.enc x9) (by rfl) (by rfl) DN.out rfl size51 P9.out ?_)
                   intro wa ha ca
                   have CA := Ad (CN.out.trans ca (by simp))
                   have DA := Ad ha
                   have ya1 : wa.cell? ⟨gB, 1, none⟩ = some (.int .i64 tick) := CA.out.cell yr1 (by simp)
                   clear ha ca DN CN R9 P9
                   go_wp2_with (refine wpList_put_Cs rfl 3 (.tmp 114) (.tmp 112) rfl 0 (.int .i64 tick) (by rfl) (by rfl) size3 rfl DA.out (show 0 < 15 by decide) ?_)
                   intro wb hb cb
                   have DB := Ad hb
                   have CB := Ad (CA.out.trans cb (by simp))
                   clear hb cb DA CA
                   go_wp2_with (refine wpList_put_Cs rfl 3 (.tmp 115) (.tmp 113) rfl 1 (.int .i64 j) (by rfl) (by rfl) size3 rfl DB.out (show 1 < 15 by decide) ?_)
                   intro wc hc cc
                   have DC := Ad (show Cs wc wr.heap.size 51 [Value.int .i64 tick, .int .i64 j, .int .i64 x9.kind, .int .i64 x9.f.id, .bool x9.f.ext, .bool x9.f.rtr, .int .i64 x9.f.len, .int .u8 x9.f.d0, .int .u8 x9.f.d1, .int .u8 x9.f.d2, .int .u8 x9.f.d3, .int .u8 x9.f.d4, .int .u8 x9.f.d5, .int .u8 x9.f.d6, .int .u8 x9.f.d7] from hc)
                   have CC := Ad (CB.out.trans cc (by simp))
                   clear hc cc DB CB yr1 ya1
                   have EZ := Ad (show ∀ y v, ([Value.int .i64 tick, .int .i64 j, .int .i64 x9.kind, .int .i64 x9.f.id, .bool x9.f.ext, .bool x9.f.rtr, .int .i64 x9.f.len, .int .u8 x9.f.d0, .int .u8 x9.f.d1, .int .u8 x9.f.d2, .int .u8 x9.f.d3, .int .u8 x9.f.d4, .int .u8 x9.f.d5, .int .u8 x9.f.d6, .int .u8 x9.f.d7] : List Value)[y]? = some v -> ([Value.int .i64 tick, .int .i64 j, .int .i64 x9.kind, .int .i64 x9.f.id, .bool x9.f.ext, .bool x9.f.rtr, .int .i64 x9.f.len, .int .u8 x9.f.d0, .int .u8 x9.f.d1, .int .u8 x9.f.d2, .int .u8 x9.f.d3, .int .u8 x9.f.d4, .int .u8 x9.f.d5, .int .u8 x9.f.d6, .int .u8 x9.f.d7] : List Value)[0 + y]? = some v from fun y v hv => by rwa [Nat.zero_add])
                   have Y := Ad (Ow.lit Evv wc [Pl.stamp tick j x9] [Value.int .i64 tick, .int .i64 j, .int .i64 x9.kind, .int .i64 x9.f.id, .bool x9.f.ext, .bool x9.f.rtr, .int .i64 x9.f.len, .int .u8 x9.f.d0, .int .u8 x9.f.d1, .int .u8 x9.f.d2, .int .u8 x9.f.d3, .int .u8 x9.f.d4, .int .u8 x9.f.d5, .int .u8 x9.f.d6, .int .u8 x9.f.d7].toArray (by rfl) (by decide : 1 <= maxLen)).rd
                   have CY := Ad ((Ch.refl [] wc).alloc (.cells [Value.int .i64 tick, .int .i64 j, .int .i64 x9.kind, .int .i64 x9.f.id, .bool x9.f.ext, .bool x9.f.rtr, .int .i64 x9.f.len, .int .u8 x9.f.d0, .int .u8 x9.f.d1, .int .u8 x9.f.d2, .int .u8 x9.f.d3, .int .u8 x9.f.d4, .int .u8 x9.f.d5, .int .u8 x9.f.d6, .int .u8 x9.f.d7].toArray 51))
                   have OY := Ad ((O3.out.2.1.on CC.out).on CY.out)
                   have BY := Ad (show w5.heap.size <= (wc.alloc (.cells [Value.int .i64 tick, .int .i64 j, .int .i64 x9.kind, .int .i64 x9.f.id, .bool x9.f.ext, .bool x9.f.rtr, .int .i64 x9.f.len, .int .u8 x9.f.d0, .int .u8 x9.f.d1, .int .u8 x9.f.d2, .int .u8 x9.f.d3, .int .u8 x9.f.d4, .int .u8 x9.f.d5, .int .u8 x9.f.d6, .int .u8 x9.f.d7].toArray 51)).heap.size from Nat.le_trans (Nat.le_trans (Nat.le_trans S1.out.1.size C3.out.size) CC.out.size) CY.out.size)
                   go_wp2_with (first | refine wpList_load_Cs rfl 51 (.tmp 22) rfl 0 [Value.int .i64 tick, .int .i64 j, .int .i64 x9.kind, .int .i64 x9.f.id, .bool x9.f.ext, .bool x9.f.rtr, .int .i64 x9.f.len, .int .u8 x9.f.d0, .int .u8 x9.f.d1, .int .u8 x9.f.d2, .int .u8 x9.f.d3, .int .u8 x9.f.d4, .int .u8 x9.f.d5, .int .u8 x9.f.d6, .int .u8 x9.f.d7] (by rfl) DC.out EZ.out Tryz.underlying51 rfl size51 ?_ | (at_builtin; go_loud (refine wpList_append_Ow rfl (.tmp 116) (.tmp 118) 42 (by rfl) (by rfl) (some ⟨wc.heap.size, 0, none⟩) 1 1 [Pl.stamp tick j x9] (by rfl) (by rfl) HLK.out OY.out Y.out rfl (by show (t3 + 1) * 56 <= _; omega) BY.out ?_)))
                   intro A4 c4 q4 w4 hO hC hq
                   have O4 := Ad (show (Pl.stepsE faults mask lv tick (xs.take j) 0 ++ (st.2.evs.take (r + 1)).map (Pl.stamp tick j)).length = t3 + 1 /\ Ow Evv w4 w5.heap.size q4 A4 c4 (Pl.stepsE faults mask lv tick (xs.take j) 0 ++ (st.2.evs.take (r + 1)).map (Pl.stamp tick j)) /\ ∀ y, q4 = some y -> q2 = some y ∨ w1.heap.size <= y from by
                     rw [TK.out, <- List.append_assoc]
                     refine ⟨by rw [List.length_append, HLK.out]; rfl, by simpa [List.append_assoc, List.map_take] using hO, fun y hy => ?_⟩
                     rcases hq with e | e
                     · exact O3.out.2.2 y (by rw [<- e]; exact hy)
                     · rw [e] at hy; cases hy; exact .inr (by have h1 := C3.out.size; have h2 := CC.out.size; omega))
                   have C4 := Ad (((C3.out.then (CC.out.any.then CY.out.any)).trans hC (fun y hy => by rw [Option.mem_toList] at hy; rcases O3.out.2.2 y hy with e | e; exact .inl (by rw [Option.mem_toList]; exact e); exact .inr e)))
                   clear hO hC hq Y OY BY EZ DC CC CY TK O3 C3 HLK E9
                   go_wp2_with fail
                   go_roundw
                   case rel => exact ⟨r + 1, by omega, by go_num, ⟨A4, c4, q4, _, rfl, O4⟩, C4⟩
                   case measure => simp [intOf]; omega
                 · have hrn : r = n9 := by omega
                   subst hrn
                   have TKN := Ad (show st.2.evs.take r = st.2.evs from List.take_of_length_le (by rw [<- N9.out]; exact Nat.le_refl _))
                   have OZ := Ad (show (Pl.stepsE faults mask lv tick (xs.take (j + 1)) 0).length = t3 /\ Ow Evv wr w5.heap.size q3 A3 c3 (Pl.stepsE faults mask lv tick (xs.take (j + 1)) 0) from by
                     rw [SE.out, TL.out]
                     have := O3.out
                     rw [TKN.out] at this
                     exact ⟨this.1, this.2.1⟩)
                   have BZ := Ad (show BusAt wr b gB (some ⟨g2, o2, none⟩) c q (ps2.set j (p.1, L')) (Pl.partly faults mask lv xs (j + 1)) tick /\ St (bfp gB q ps) w5 wr (bfp gB q (ps2.set j (p.1, L'))) from by
                     refine ⟨B1.out.keep C3.out (B1.out.apart OB.out), ?_⟩
                     refine ⟨S1.out.1.trans C3.out (fun y hy => ?_), S1.out.2⟩
                     rw [Option.mem_toList] at hy
                     exact .inr (OB.out.size y hy).1)
                   clear hlt2 hr O3 TKN SE TL
                   go_wp2_with fail
                   go_roundw
                   case rel => exact ⟨j + 1, by omega, by go_num, ⟨A3, c3, q3, t3, rfl, OZ⟩, _, BZ⟩
                   case measure => simp [intOf]; omega
             · have SV := Ad (show Pl.sees faults lv j = (1 - lv) by unfold Pl.sees; rw [hfk]; rfl)
               have NS := Ad (nstep_calls wr (HB.out.1.ns.at_ j p x hp hxp) HB.out.1.ns.base (1 - lv) (by omega) hxf (by have := Pl.step_kn x Pl.Td.none (1 - lv); simp [Pl.Td.none] at this ⊢; omega))
               have TL := Ad (show Pl.tells faults mask lv tick j x = (x.step Pl.Td.none (1 - lv)).2.evs.map (Pl.stamp tick j) by rw [Pl.tells, if_neg (by rw [hmk]; decide), SV.out])
               have AF := Ad (show Pl.after faults mask lv j x = (x.step Pl.Td.none (1 - lv)).1 by rw [Pl.after, if_neg (by rw [hmk]; decide), SV.out])
               have PSET := Ad (Pl.partly_set faults mask lv xs j x hx)
               have KN := Ad (show (x.step Pl.Td.none (1 - lv)).2.evs.length <= 4 from by have := Pl.step_kn x Pl.Td.none (1 - lv); unfold Pl.Td.evs; rw [List.length_map]; simpa [Pl.Td.none] using this)
               generalize hst : x.step Pl.Td.none (1 - lv) = st at *
               rw [hmk] at HS
               rw [hfk] at HF
               have HP := Ad hp
               have HXP := Ad hxp
               clear hst hx hxf hmk hfk SV hp hxp
               go_wp2_with fail
               refine (HS.out _).mono ?_
               rintro e w99 ⟨rfl, hw⟩
               rw [hw]
               clear hw w99 HS
               go_wp2_with fail
               refine (HF.out _).mono ?_
               rintro e w99 ⟨rfl, hw⟩
               rw [hw]
               clear hw w99 HF
               go_wp2_with fail
               refine NS.out.mono ?_
               rintro e w1 ⟨⟨A9, c9, q9, n9, rfl, hn9, hO9⟩, L', hN, hC, hk9⟩
               obtain ⟨hBt, hSt⟩ := HB.out.1.turn HP.out HXP.out hN hC hk9
               have B1 := Ad (show BusAt w1 b gB (some ⟨g2, o2, none⟩) c q (ps2.set j (p.1, L')) (Pl.partly faults mask lv xs (j + 1)) tick from by rw [<- PSET.out, AF.out]; exact hBt)
               have S1 := Ad (HB.out.2.trans hSt)
               have O9 := Ad hO9
               have N9 := Ad hn9
               have OB := Ad (show Ow Evv w1 w5.heap.size q2 A2 c2 (Pl.stepsE faults mask lv tick (xs.take j) 0) from O.out.2.keep hSt.1 (fun y hy hm => HB.out.1.apart O.out.2 y hm (by rw [Option.mem_toList]; exact hy)))
               have QS := Ad (show ∀ y, q2 = some y -> y < wr.heap.size from fun y hy => (O.out.2.size y hy).2)
               have n4 : n9 <= 4 := by rw [hn9]; exact KN.out
               have y1 : w1.cell? ⟨gB, 1, none⟩ = some (.int .i64 tick) := hBt.cs.cell (by rfl)
               have hg1 := hBt.cs.lt
               have t128 : t <= 4 * k := by
                 have h1 := SLE.out
                 rw [O.out.1, List.length_take] at h1
                 omega
               have ht1 := O.out.1
               have HT1 := Ad ht1
               clear hN hC hk9 hBt hSt hO9 hn9 NS ht1 HP HXP PSET AF O KN z0 z1 rz1 hrz hgz cp
               go_wp2_with fail
               generalize wr = wO at *
               go_loopw [16, 105] (fun v i wi => ∃ r : Nat, r <= n9 /\ i = .int .i64 r /\ (∃ A3 c3 q3 t3, v = .slice A3 t3 c3 /\ Aside0 ((Pl.stepsE faults mask lv tick (xs.take j) 0 ++ (st.2.evs.take r).map (Pl.stamp tick j)).length = t3 /\ Ow Evv wi w5.heap.size q3 A3 c3 (Pl.stepsE faults mask lv tick (xs.take j) 0 ++ (st.2.evs.take r).map (Pl.stamp tick j)) /\ ∀ y, q3 = some y -> q2 = some y ∨ w1.heap.size <= y)) /\ Aside0 (Ch q2.toList w1 wi)) (fun _ i _ => n9 - (intOf i).toNat)
               case atStart => exact ⟨0, by omega, rfl, ⟨A2, c2, q2, t, rfl, ⟨by simpa using HT1.out, by simpa using OB.out, fun y hy => .inl hy⟩⟩, ⟨Ch.refl _ _⟩⟩
               case round =>
                 obtain ⟨r, hr, rfl, ⟨A3, c3, q3, t3, rfl, O3⟩, C3⟩ := hrel
                 by_cases hlt2 : r < n9
                 · obtain ⟨x9, hx9⟩ : ∃ x9, st.2.evs[r]? = some x9 := ⟨_, List.getElem?_eq_getElem (by rw [<- N9.out]; exact hlt2)⟩
                   have hB2 := B1.out.keep C3.out (B1.out.apart OB.out)
                   have hO9 := O9.out.keep C3.out (fun y hy hm => by rw [Option.mem_toList] at hm; have := QS.out y hm; have := (O9.out.size y hy).1; omega)
                   obtain ⟨g9, o9, rfl, hc9⟩ := hO9.rd.cells hx9
                   have R9 := Ad (show wr.rangeAt g9 (o9 + r * 15) (Evv.enc x9) from fun y v hv => hc9 y v hv)
                   have TK := Ad (show (st.2.evs.take (r + 1)).map (Pl.stamp tick j) = (st.2.evs.take r).map (Pl.stamp tick j) ++ [Pl.stamp tick j x9] by rw [List.take_add_one, hx9, Option.toList_some, List.map_append]; rfl)
                   have k90 : (0 : Int) <= (r : Int) := by omega
                   have k91 : (r : Int) < (n9 : Int) := by omega
                   have yr1 : wr.cell? ⟨gB, 1, none⟩ = some (.int .i64 tick) := hB2.cs.cell (by rfl)
                   have DN := Ad (Cs.new wr ([Value.int .i64 0, .int .i64 0, .int .i64 0] ++ zf) 51)
                   have CN := Ad ((Ch.refl [] wr).alloc (.cells ([Value.int .i64 0, .int .i64 0, .int .i64 0] ++ zf).toArray 51))
                   have P9 := Ad (show ∀ u ∈ Evv.enc x9, u.oneCell' = true from fun u hu => Evv.hone x9 u hu)
                   have t3b : t3 <= 4 * k + 4 := by
                     have h1 := O3.out.1
                     rw [List.length_append, HT1.out, List.length_map, List.length_take] at h1
                     omega
                   have HLK := Ad O3.out.1
                   have E9 := Ad (show (Evv.enc (Pl.stamp tick j x9)) = [Value.int .i64 tick, .int .i64 j, .int .i64 x9.kind, .int .i64 x9.f.id, .bool x9.f.ext, .bool x9.f.rtr, .int .i64 x9.f.len, .int .u8 x9.f.d0, .int .u8 x9.f.d1, .int .u8 x9.f.d2, .int .u8 x9.f.d3, .int .u8 x9.f.d4, .int .u8 x9.f.d5, .int .u8 x9.f.d6, .int .u8 x9.f.d7] from rfl)
                   clear hB2 hO9 hc9 hx9
                   go_wp2_with (first | refine wpList_load_mid rfl 51 (.tmp 107) rfl g9 (o9 + r * 15) (by rfl) (Evv.enc x9) _ R9.out Tryz.underlying51 rfl size51 ?_ | refine wpList_store_all rfl 51 (.tmp 22) (.tmp 108) rfl (Evv.enc x9) (by rfl) (by rfl) DN.out rfl size51 P9.out ?_)
                   intro wa ha ca
                   have CA := Ad (CN.out.trans ca (by simp))
                   have DA := Ad ha
                   have ya1 : wa.cell? ⟨gB, 1, none⟩ = some (.int .i64 tick) := CA.out.cell yr1 (by simp)
                   clear ha ca DN CN R9 P9
                   go_wp2_with (refine wpList_put_Cs rfl 3 (.tmp 114) (.tmp 112) rfl 0 (.int .i64 tick) (by rfl) (by rfl) size3 rfl DA.out (show 0 < 15 by decide) ?_)
                   intro wb hb cb
                   have DB := Ad hb
                   have CB := Ad (CA.out.trans cb (by simp))
                   clear hb cb DA CA
                   go_wp2_with (refine wpList_put_Cs rfl 3 (.tmp 115) (.tmp 113) rfl 1 (.int .i64 j) (by rfl) (by rfl) size3 rfl DB.out (show 1 < 15 by decide) ?_)
                   intro wc hc cc
                   have DC := Ad (show Cs wc wr.heap.size 51 [Value.int .i64 tick, .int .i64 j, .int .i64 x9.kind, .int .i64 x9.f.id, .bool x9.f.ext, .bool x9.f.rtr, .int .i64 x9.f.len, .int .u8 x9.f.d0, .int .u8 x9.f.d1, .int .u8 x9.f.d2, .int .u8 x9.f.d3, .int .u8 x9.f.d4, .int .u8 x9.f.d5, .int .u8 x9.f.d6, .int .u8 x9.f.d7] from hc)
                   have CC := Ad (CB.out.trans cc (by simp))
                   clear hc cc DB CB yr1 ya1
                   have EZ := Ad (show ∀ y v, ([Value.int .i64 tick, .int .i64 j, .int .i64 x9.kind, .int .i64 x9.f.id, .bool x9.f.ext, .bool x9.f.rtr, .int .i64 x9.f.len, .int .u8 x9.f.d0, .int .u8 x9.f.d1, .int .u8 x9.f.d2, .int .u8 x9.f.d3, .int .u8 x9.f.d4, .int .u8 x9.f.d5, .int .u8 x9.f.d6, .int .u8 x9.f.d7] : List Value)[y]? = some v -> ([Value.int .i64 tick, .int .i64 j, .int .i64 x9.kind, .int .i64 x9.f.id, .bool x9.f.ext, .bool x9.f.rtr, .int .i64 x9.f.len, .int .u8 x9.f.d0, .int .u8 x9.f.d1, .int .u8 x9.f.d2, .int .u8 x9.f.d3, .int .u8 x9.f.d4, .int .u8 x9.f.d5, .int .u8 x9.f.d6, .int .u8 x9.f.d7] : List Value)[0 + y]? = some v from fun y v hv => by rwa [Nat.zero_add])
                   have Y := Ad (Ow.lit Evv wc [Pl.stamp tick j x9] [Value.int .i64 tick, .int .i64 j, .int .i64 x9.kind, .int .i64 x9.f.id, .bool x9.f.ext, .bool x9.f.rtr, .int .i64 x9.f.len, .int .u8 x9.f.d0, .int .u8 x9.f.d1, .int .u8 x9.f.d2, .int .u8 x9.f.d3, .int .u8 x9.f.d4, .int .u8 x9.f.d5, .int .u8 x9.f.d6, .int .u8 x9.f.d7].toArray (by rfl) (by decide : 1 <= maxLen)).rd
                   have CY := Ad ((Ch.refl [] wc).alloc (.cells [Value.int .i64 tick, .int .i64 j, .int .i64 x9.kind, .int .i64 x9.f.id, .bool x9.f.ext, .bool x9.f.rtr, .int .i64 x9.f.len, .int .u8 x9.f.d0, .int .u8 x9.f.d1, .int .u8 x9.f.d2, .int .u8 x9.f.d3, .int .u8 x9.f.d4, .int .u8 x9.f.d5, .int .u8 x9.f.d6, .int .u8 x9.f.d7].toArray 51))
                   have OY := Ad ((O3.out.2.1.on CC.out).on CY.out)
                   have BY := Ad (show w5.heap.size <= (wc.alloc (.cells [Value.int .i64 tick, .int .i64 j, .int .i64 x9.kind, .int .i64 x9.f.id, .bool x9.f.ext, .bool x9.f.rtr, .int .i64 x9.f.len, .int .u8 x9.f.d0, .int .u8 x9.f.d1, .int .u8 x9.f.d2, .int .u8 x9.f.d3, .int .u8 x9.f.d4, .int .u8 x9.f.d5, .int .u8 x9.f.d6, .int .u8 x9.f.d7].toArray 51)).heap.size from Nat.le_trans (Nat.le_trans (Nat.le_trans S1.out.1.size C3.out.size) CC.out.size) CY.out.size)
                   go_wp2_with (first | refine wpList_load_Cs rfl 51 (.tmp 22) rfl 0 [Value.int .i64 tick, .int .i64 j, .int .i64 x9.kind, .int .i64 x9.f.id, .bool x9.f.ext, .bool x9.f.rtr, .int .i64 x9.f.len, .int .u8 x9.f.d0, .int .u8 x9.f.d1, .int .u8 x9.f.d2, .int .u8 x9.f.d3, .int .u8 x9.f.d4, .int .u8 x9.f.d5, .int .u8 x9.f.d6, .int .u8 x9.f.d7] (by rfl) DC.out EZ.out Tryz.underlying51 rfl size51 ?_ | (at_builtin; go_loud (refine wpList_append_Ow rfl (.tmp 116) (.tmp 118) 42 (by rfl) (by rfl) (some ⟨wc.heap.size, 0, none⟩) 1 1 [Pl.stamp tick j x9] (by rfl) (by rfl) HLK.out OY.out Y.out rfl (by show (t3 + 1) * 56 <= _; omega) BY.out ?_)))
                   intro A4 c4 q4 w4 hO hC hq
                   have O4 := Ad (show (Pl.stepsE faults mask lv tick (xs.take j) 0 ++ (st.2.evs.take (r + 1)).map (Pl.stamp tick j)).length = t3 + 1 /\ Ow Evv w4 w5.heap.size q4 A4 c4 (Pl.stepsE faults mask lv tick (xs.take j) 0 ++ (st.2.evs.take (r + 1)).map (Pl.stamp tick j)) /\ ∀ y, q4 = some y -> q2 = some y ∨ w1.heap.size <= y from by
                     rw [TK.out, <- List.append_assoc]
                     refine ⟨by rw [List.length_append, HLK.out]; rfl, by simpa [List.append_assoc, List.map_take] using hO, fun y hy => ?_⟩
                     rcases hq with e | e
                     · exact O3.out.2.2 y (by rw [<- e]; exact hy)
                     · rw [e] at hy; cases hy; exact .inr (by have h1 := C3.out.size; have h2 := CC.out.size; omega))
                   have C4 := Ad (((C3.out.then (CC.out.any.then CY.out.any)).trans hC (fun y hy => by rw [Option.mem_toList] at hy; rcases O3.out.2.2 y hy with e | e; exact .inl (by rw [Option.mem_toList]; exact e); exact .inr e)))
                   clear hO hC hq Y OY BY EZ DC CC CY TK O3 C3 HLK E9
                   go_wp2_with fail
                   go_roundw
                   case rel => exact ⟨r + 1, by omega, by go_num, ⟨A4, c4, q4, _, rfl, O4⟩, C4⟩
                   case measure => simp [intOf]; omega
                 · have hrn : r = n9 := by omega
                   subst hrn
                   have TKN := Ad (show st.2.evs.take r = st.2.evs from List.take_of_length_le (by rw [<- N9.out]; exact Nat.le_refl _))
                   have OZ := Ad (show (Pl.stepsE faults mask lv tick (xs.take (j + 1)) 0).length = t3 /\ Ow Evv wr w5.heap.size q3 A3 c3 (Pl.stepsE faults mask lv tick (xs.take (j + 1)) 0) from by
                     rw [SE.out, TL.out]
                     have := O3.out
                     rw [TKN.out] at this
                     exact ⟨this.1, this.2.1⟩)
                   have BZ := Ad (show BusAt wr b gB (some ⟨g2, o2, none⟩) c q (ps2.set j (p.1, L')) (Pl.partly faults mask lv xs (j + 1)) tick /\ St (bfp gB q ps) w5 wr (bfp gB q (ps2.set j (p.1, L'))) from by
                     refine ⟨B1.out.keep C3.out (B1.out.apart OB.out), ?_⟩
                     refine ⟨S1.out.1.trans C3.out (fun y hy => ?_), S1.out.2⟩
                     rw [Option.mem_toList] at hy
                     exact .inr (OB.out.size y hy).1)
                   clear hlt2 hr O3 TKN SE TL
                   go_wp2_with fail
                   go_roundw
                   case rel => exact ⟨j + 1, by omega, by go_num, ⟨A3, c3, q3, t3, rfl, OZ⟩, _, BZ⟩
                   case measure => simp [intOf]; omega
           · have PS := Ad (partly_same faults mask lv xs j x hx hmk)
             have TN := Ad (show Pl.stepsE faults mask lv tick (xs.take (j + 1)) 0 = Pl.stepsE faults mask lv tick (xs.take j) 0 by rw [SE.out, Pl.tells, if_pos hmk, List.append_nil])
             rw [hmk] at HS
             clear hxp hp hx hxf hmk HF SE
             go_wp2_with fail
             refine (HS.out _).mono ?_
             rintro e w99 ⟨rfl, hw⟩
             rw [hw]
             clear hw w99 HS
             go_wp2_with fail
             go_roundw
             case rel => exact ⟨j + 1, by omega, by go_num, ⟨A2, c2, q2, t, rfl, by rw [TN.out]; exact O⟩, ps2, by rw [PS.out]; exact HB⟩
             case measure => simp [intOf]; omega
         · have hjk : j = k := by omega
           subst hjk
           have PA := Ad (show Pl.partly faults mask lv xs j = Pl.stepsN faults mask lv xs 0 by rw [<- hnk]; exact Pl.partly_all faults mask lv xs)
           have TA := Ad (show xs.take j = xs from List.take_of_length_le (by rw [hnk]; exact Nat.le_refl _))
           obtain ⟨hT, hCt⟩ := HB.out.1.ticked (tick + 1)
           have f1 := HB.out.1.cs.free 1
           have HT := Ad hT
           have CT := Ad hCt
           have RT := Ad (RZ.out.keep CT.out (fun hm => by simp at hm; exact blk_ne RZ.out HB.out.1.cs (by decide) hm))
           have DW := Ad ((DR2.out.on C5.out).keep HB.out.2.1 ((BR.out.on C5.out).other (DR2.out.on C5.out) (.inr rfl)))
           have DT := Ad (DW.out.keep CT.out (fun hm => by simp at hm; exact blk_ne DW.out HB.out.1.cs (by decide) hm))
           have EA := Ad (show ∀ y v, ([Value.int .i64 1, .int .i64 lv, .int .u32 m1] : List Value)[y]? = some v -> ([Value.int .i64 1, .int .i64 lv, .int .u32 m1] : List Value)[0 + y]? = some v from fun y v hv => by rwa [Nat.zero_add])
           clear hT hCt hlt hj
           go_wp2_with (first | refine wpList_load_Cs rfl 93 (.tmp 15) rfl 0 [Value.int .i64 1, .int .i64 lv, .int .u32 m1] (by rfl) RT.out EA.out Tryz.underlying93 rfl size93 ?_ | refine wpList_store_all rfl 93 (.tmp 8) (.tmp 129) rfl [Value.int .i64 1, .int .i64 lv, .int .u32 m1] (by rfl) (by rfl) DT.out rfl size93 (by simp [Value.oneCell']) ?_)
           intro w9 hd hc
           go_wp2_with fail
           refine bodyPost_ret (v := .tuple #[.agg #[.int .i64 1, .int .i64 lv, .int .u32 m1], .slice A2 t c2, .int .i64 0]) ?_ rfl ?_
           · exact results_list (rs := [.cell 8 93, .tmp 9, .tmp 10]) rfl (by simp) (.cell w.heap.size 93 _ (0, 0) _ rfl hd Tryz.underlying93 rfl size93 (.tmp (.tmp .nil)))
           · have hw5 : w.heap.size <= w5.heap.size := Nat.le_trans S0.out.1.size C5.out.size
             have hO := O.out
             rw [TA.out] at hO
             have hn51 : ∀ {y : Nat}, y ∈ q2.toList -> y ≠ w.heap.size /\ y ≠ gB := fun {y} hy => by
               rw [Option.mem_toList] at hy
               have := (hO.2.size y hy).1
               have := DR2.out.lt
               have := hgr
               have h9 := C5.out.size
               exact ⟨by omega, by omega⟩
             have hO2 : Ow Evv w9 w.heap.size q2 A2 c2 (Pl.stepsE faults mask lv tick xs 0) := ((hO.2.keep CT.out (fun y hy hm => by simp at hm; exact (hn51 (by rw [Option.mem_toList]; exact hy)).2 hm)).keep hc (fun y hy hm => by simp at hm; exact (hn51 (by rw [Option.mem_toList]; exact hy)).1 hm)).less hw5
             have hB9 := HT.out.keep hc (fun y hy hm => by simp at hm; subst hm; exact HT.out.other DT.out (.inr rfl) hy)
             have hS9 : St (bfp gB q ps) w w9 (bfp gB q ps2) := by
               have h1 := S0.out.trans (F' := bfp gB q ps) ((St.of C5.out).trans HB.out.2)
               refine ⟨(h1.1.trans CT.out (fun y hy => ?_)).trans hc (fun y hy => ?_), h1.2⟩
               · simp at hy; subst hy; exact .inl (by simp [bfp])
               · simp at hy; subst hy; exact .inr (Nat.le_refl _)
             refine ⟨A2, c2, q2, ps2, t, ?_, ?_, ?_, hS9⟩
             · rw [RUN.out]
             · unfold Pl.Bus.force
               simp only []
               rw [RUN.out]
               exact ⟨hO.1, hO2⟩
             · unfold Pl.Bus.force
               simp only []
               rw [RUN.out, <- PA.out]
               exact hB9
     · have bb : ((m1 : Int) != 4294967295) = true := by simp; omega
       have e1 : lv = 0 := hl0 ha
       have E1 := Ad e1
       clear ha hl1 hl0 e1
       go_wp2_with (refine wpList_store_all rfl 93 (.tmp 15) (.tmp 65) rfl [Value.int .i64 1, .int .i64 1, .int .u32 m1] (by rfl) (by rfl) D1.out rfl size93 (by simp [Value.oneCell']) ?_)
       intro w4 hd hc
       have C4 := Ad (((Ch.refl [] wA).alloc (.cells [Value.int .i64 0, .int .i64 0, .int .u32 0].toArray 93)).trans hc (by simp))
       have D4 := Ad hd
       clear hd hc
       go_wp2_with (refine wpList_set_Cs rfl 3 (.tmp 68) (.const (.int .i64 0)) rfl 1 (.int .i64 0) (by rfl) (by rfl) size3 rfl D4.out (show 1 < 3 by decide) ?_)
       intro hd hc
       obtain ⟨w5, hw5⟩ : ∃ w5, w4.setCell ⟨wA.heap.size, 1, none⟩ (.int .i64 0) = w5 := ⟨_, rfl⟩
       rw [hw5] at hd hc ⊢
       clear hw5
       have C5 := Ad (C4.out.trans hc (by simp))
       have D5 := Ad (show Cs w5 wA.heap.size 93 [Value.int .i64 1, .int .i64 lv, .int .u32 m1] from by rw [E1.out]; exact hd)
       have cr1 : w5.cell? ⟨gB, 0, none⟩ = some (.slice A k c) := C5.out.cell cr0 (by simp)
       have hg5 : gB < w5.heap.size := Nat.lt_of_lt_of_le hgr C5.out.size
       clear hd hc E1 D1 C1 C4 D4
       go_wp2_with fail
       go_loopw [16, 74] (fun v i wr => ∃ j : Nat, j <= k /\ i = .int .i64 j /\ (∃ A2 c2 q2 t, v = .slice A2 t c2 /\ Aside0 ((Pl.stepsE faults mask lv tick (xs.take j) 0).length = t /\ Ow Evv wr w5.heap.size q2 A2 c2 (Pl.stepsE faults mask lv tick (xs.take j) 0))) /\
         (∃ ps2, Aside0 (BusAt wr b gB A c q ps2 (Pl.partly faults mask lv xs j) tick /\ St (bfp gB q ps) w5 wr (bfp gB q ps2)))) (fun _ i _ => k - (intOf i).toNat)
       case atStart =>
         refine ⟨0, by omega, rfl, ⟨none, 0, none, 0, rfl, ⟨rfl, Ow.nil _ _ _⟩⟩, ps, ⟨?_, St.refl _ _⟩⟩
         rw [Pl.partly_zero]
         exact BR.out.on C5.out
       case round =>
         obtain ⟨j, hj, rfl, ⟨A2, c2, q2, t, rfl, O⟩, ps2, HB⟩ := hrel
         have hnk := HNN.out
         have hlp : (Pl.partly faults mask lv xs j).length = k := by rw [partly_length _ _ _ _ _ (by omega), hnk]
         have hB1 := HB.out.1
         have z0 : wr.cell? ⟨gB, 0, none⟩ = some (.slice A k c) := by
           have := hB1.cs.cell (j := 0) (v := .slice A (Pl.partly faults mask lv xs j).length c) (by rfl)
           rwa [hlp] at this
         have z1 : wr.cell? ⟨gB, 1, none⟩ = some (.int .i64 tick) := hB1.cs.cell (by rfl)
         have hgz := hB1.cs.lt
         have hr9 : ∀ {y : Nat} {T : TypeId} {cs : List Value}, Cs w5 y T cs -> (T = 51 ∨ T = 93) -> Cs wr y T cs := fun h9 hT => h9.keep HB.out.2.1 ((BR.out.on C5.out).other h9 hT)
         have RZ := Ad (hr9 D5.out (.inr rfl))
         have rz1 : wr.cell? ⟨wA.heap.size, 1, none⟩ = some (.int .i64 lv) := RZ.out.cell (by rfl)
         have hrz := RZ.out.lt
         clear hr9 hlp hB1
         by_cases hlt : j < k
         · obtain ⟨x, hx⟩ : ∃ x, xs[j]? = some x := ⟨_, List.getElem?_eq_getElem (by rw [hnk]; exact hlt)⟩
           obtain ⟨p, hp⟩ : ∃ p, ps2[j]? = some p := ⟨_, List.getElem?_eq_getElem (by rw [HB.out.1.ns.len, partly_length _ _ _ _ _ (by omega), hnk]; exact hlt)⟩
           have hxp := Pl.partly_get faults mask lv xs j x hx
           have hxf := FIT.out x (List.mem_of_getElem? hx)
           obtain ⟨g2, o2, rfl, cp⟩ := HB.out.1.ow.ptr hp
           have SE := Ad (Pl.stepsE_take faults mask lv tick xs j x hx)
           have SLE := Ad (Pl.stepsE_le faults mask lv tick (xs.take j) 0)
           have HS := Ad (fun w => has_calls mask j BNDS.out.2.1 (by omega) w)
           have HF := Ad (fun w => has_calls faults j BNDS.out.1 (by omega) w)
           have k00 : (0 : Int) <= (j : Int) := by omega
           have k01 : (j : Int) < (k : Int) := by omega
           cases hmk : mask.testBit j
           · cases hfk : faults.testBit j
             · have SV := Ad (show Pl.sees faults lv j = lv by unfold Pl.sees; rw [hfk]; rfl)
               have NS := Ad (nstep_calls wr (HB.out.1.ns.at_ j p x hp hxp) HB.out.1.ns.base lv (by omega) hxf (by have := Pl.step_kn x Pl.Td.none lv; simp [Pl.Td.none] at this ⊢; omega))
               have TL := Ad (show Pl.tells faults mask lv tick j x = (x.step Pl.Td.none lv).2.evs.map (Pl.stamp tick j) by rw [Pl.tells, if_neg (by rw [hmk]; decide), SV.out])
               have AF := Ad (show Pl.after faults mask lv j x = (x.step Pl.Td.none lv).1 by rw [Pl.after, if_neg (by rw [hmk]; decide), SV.out])
               have PSET := Ad (Pl.partly_set faults mask lv xs j x hx)
               have KN := Ad (show (x.step Pl.Td.none lv).2.evs.length <= 4 from by have := Pl.step_kn x Pl.Td.none lv; unfold Pl.Td.evs; rw [List.length_map]; simpa [Pl.Td.none] using this)
               generalize hst : x.step Pl.Td.none lv = st at *
               rw [hmk] at HS
               rw [hfk] at HF
               have HP := Ad hp
               have HXP := Ad hxp
               clear hst hx hxf hmk hfk SV hp hxp
               go_wp2_with fail
               refine (HS.out _).mono ?_
               rintro e w99 ⟨rfl, hw⟩
               rw [hw]
               clear hw w99 HS
               go_wp2_with fail
               refine (HF.out _).mono ?_
               rintro e w99 ⟨rfl, hw⟩
               rw [hw]
               clear hw w99 HF
               go_wp2_with fail
               refine NS.out.mono ?_
               rintro e w1 ⟨⟨A9, c9, q9, n9, rfl, hn9, hO9⟩, L', hN, hC, hk9⟩
               obtain ⟨hBt, hSt⟩ := HB.out.1.turn HP.out HXP.out hN hC hk9
               have B1 := Ad (show BusAt w1 b gB (some ⟨g2, o2, none⟩) c q (ps2.set j (p.1, L')) (Pl.partly faults mask lv xs (j + 1)) tick from by rw [<- PSET.out, AF.out]; exact hBt)
               have S1 := Ad (HB.out.2.trans hSt)
               have O9 := Ad hO9
               have N9 := Ad hn9
               have OB := Ad (show Ow Evv w1 w5.heap.size q2 A2 c2 (Pl.stepsE faults mask lv tick (xs.take j) 0) from O.out.2.keep hSt.1 (fun y hy hm => HB.out.1.apart O.out.2 y hm (by rw [Option.mem_toList]; exact hy)))
               have QS := Ad (show ∀ y, q2 = some y -> y < wr.heap.size from fun y hy => (O.out.2.size y hy).2)
               have n4 : n9 <= 4 := by rw [hn9]; exact KN.out
               have y1 : w1.cell? ⟨gB, 1, none⟩ = some (.int .i64 tick) := hBt.cs.cell (by rfl)
               have hg1 := hBt.cs.lt
               have t128 : t <= 4 * k := by
                 have h1 := SLE.out
                 rw [O.out.1, List.length_take] at h1
                 omega
               have ht1 := O.out.1
               have HT1 := Ad ht1
               clear hN hC hk9 hBt hSt hO9 hn9 NS ht1 HP HXP PSET AF O KN z0 z1 rz1 hrz hgz cp
               go_wp2_with fail
               generalize wr = wO at *
               go_loopw [16, 105] (fun v i wi => ∃ r : Nat, r <= n9 /\ i = .int .i64 r /\ (∃ A3 c3 q3 t3, v = .slice A3 t3 c3 /\ Aside0 ((Pl.stepsE faults mask lv tick (xs.take j) 0 ++ (st.2.evs.take r).map (Pl.stamp tick j)).length = t3 /\ Ow Evv wi w5.heap.size q3 A3 c3 (Pl.stepsE faults mask lv tick (xs.take j) 0 ++ (st.2.evs.take r).map (Pl.stamp tick j)) /\ ∀ y, q3 = some y -> q2 = some y ∨ w1.heap.size <= y)) /\ Aside0 (Ch q2.toList w1 wi)) (fun _ i _ => n9 - (intOf i).toNat)
               case atStart => exact ⟨0, by omega, rfl, ⟨A2, c2, q2, t, rfl, ⟨by simpa using HT1.out, by simpa using OB.out, fun y hy => .inl hy⟩⟩, ⟨Ch.refl _ _⟩⟩
               case round =>
                 obtain ⟨r, hr, rfl, ⟨A3, c3, q3, t3, rfl, O3⟩, C3⟩ := hrel
                 by_cases hlt2 : r < n9
                 · obtain ⟨x9, hx9⟩ : ∃ x9, st.2.evs[r]? = some x9 := ⟨_, List.getElem?_eq_getElem (by rw [<- N9.out]; exact hlt2)⟩
                   have hB2 := B1.out.keep C3.out (B1.out.apart OB.out)
                   have hO9 := O9.out.keep C3.out (fun y hy hm => by rw [Option.mem_toList] at hm; have := QS.out y hm; have := (O9.out.size y hy).1; omega)
                   obtain ⟨g9, o9, rfl, hc9⟩ := hO9.rd.cells hx9
                   have R9 := Ad (show wr.rangeAt g9 (o9 + r * 15) (Evv.enc x9) from fun y v hv => hc9 y v hv)
                   have TK := Ad (show (st.2.evs.take (r + 1)).map (Pl.stamp tick j) = (st.2.evs.take r).map (Pl.stamp tick j) ++ [Pl.stamp tick j x9] by rw [List.take_add_one, hx9, Option.toList_some, List.map_append]; rfl)
                   have k90 : (0 : Int) <= (r : Int) := by omega
                   have k91 : (r : Int) < (n9 : Int) := by omega
                   have yr1 : wr.cell? ⟨gB, 1, none⟩ = some (.int .i64 tick) := hB2.cs.cell (by rfl)
                   have DN := Ad (Cs.new wr ([Value.int .i64 0, .int .i64 0, .int .i64 0] ++ zf) 51)
                   have CN := Ad ((Ch.refl [] wr).alloc (.cells ([Value.int .i64 0, .int .i64 0, .int .i64 0] ++ zf).toArray 51))
                   have P9 := Ad (show ∀ u ∈ Evv.enc x9, u.oneCell' = true from fun u hu => Evv.hone x9 u hu)
                   have t3b : t3 <= 4 * k + 4 := by
                     have h1 := O3.out.1
                     rw [List.length_append, HT1.out, List.length_map, List.length_take] at h1
                     omega
                   have HLK := Ad O3.out.1
                   have E9 := Ad (show (Evv.enc (Pl.stamp tick j x9)) = [Value.int .i64 tick, .int .i64 j, .int .i64 x9.kind, .int .i64 x9.f.id, .bool x9.f.ext, .bool x9.f.rtr, .int .i64 x9.f.len, .int .u8 x9.f.d0, .int .u8 x9.f.d1, .int .u8 x9.f.d2, .int .u8 x9.f.d3, .int .u8 x9.f.d4, .int .u8 x9.f.d5, .int .u8 x9.f.d6, .int .u8 x9.f.d7] from rfl)
                   clear hB2 hO9 hc9 hx9
                   go_wp2_with (first | refine wpList_load_mid rfl 51 (.tmp 107) rfl g9 (o9 + r * 15) (by rfl) (Evv.enc x9) _ R9.out Tryz.underlying51 rfl size51 ?_ | refine wpList_store_all rfl 51 (.tmp 22) (.tmp 108) rfl (Evv.enc x9) (by rfl) (by rfl) DN.out rfl size51 P9.out ?_)
                   intro wa ha ca
                   have CA := Ad (CN.out.trans ca (by simp))
                   have DA := Ad ha
                   have ya1 : wa.cell? ⟨gB, 1, none⟩ = some (.int .i64 tick) := CA.out.cell yr1 (by simp)
                   clear ha ca DN CN R9 P9
                   go_wp2_with (refine wpList_put_Cs rfl 3 (.tmp 114) (.tmp 112) rfl 0 (.int .i64 tick) (by rfl) (by rfl) size3 rfl DA.out (show 0 < 15 by decide) ?_)
                   intro wb hb cb
                   have DB := Ad hb
                   have CB := Ad (CA.out.trans cb (by simp))
                   clear hb cb DA CA
                   go_wp2_with (refine wpList_put_Cs rfl 3 (.tmp 115) (.tmp 113) rfl 1 (.int .i64 j) (by rfl) (by rfl) size3 rfl DB.out (show 1 < 15 by decide) ?_)
                   intro wc hc cc
                   have DC := Ad (show Cs wc wr.heap.size 51 [Value.int .i64 tick, .int .i64 j, .int .i64 x9.kind, .int .i64 x9.f.id, .bool x9.f.ext, .bool x9.f.rtr, .int .i64 x9.f.len, .int .u8 x9.f.d0, .int .u8 x9.f.d1, .int .u8 x9.f.d2, .int .u8 x9.f.d3, .int .u8 x9.f.d4, .int .u8 x9.f.d5, .int .u8 x9.f.d6, .int .u8 x9.f.d7] from hc)
                   have CC := Ad (CB.out.trans cc (by simp))
                   clear hc cc DB CB yr1 ya1
                   have EZ := Ad (show ∀ y v, ([Value.int .i64 tick, .int .i64 j, .int .i64 x9.kind, .int .i64 x9.f.id, .bool x9.f.ext, .bool x9.f.rtr, .int .i64 x9.f.len, .int .u8 x9.f.d0, .int .u8 x9.f.d1, .int .u8 x9.f.d2, .int .u8 x9.f.d3, .int .u8 x9.f.d4, .int .u8 x9.f.d5, .int .u8 x9.f.d6, .int .u8 x9.f.d7] : List Value)[y]? = some v -> ([Value.int .i64 tick, .int .i64 j, .int .i64 x9.kind, .int .i64 x9.f.id, .bool x9.f.ext, .bool x9.f.rtr, .int .i64 x9.f.len, .int .u8 x9.f.d0, .int .u8 x9.f.d1, .int .u8 x9.f.d2, .int .u8 x9.f.d3, .int .u8 x9.f.d4, .int .u8 x9.f.d5, .int .u8 x9.f.d6, .int .u8 x9.f.d7] : List Value)[0 + y]? = some v from fun y v hv => by rwa [Nat.zero_add])
                   have Y := Ad (Ow.lit Evv wc [Pl.stamp tick j x9] [Value.int .i64 tick, .int .i64 j, .int .i64 x9.kind, .int .i64 x9.f.id, .bool x9.f.ext, .bool x9.f.rtr, .int .i64 x9.f.len, .int .u8 x9.f.d0, .int .u8 x9.f.d1, .int .u8 x9.f.d2, .int .u8 x9.f.d3, .int .u8 x9.f.d4, .int .u8 x9.f.d5, .int .u8 x9.f.d6, .int .u8 x9.f.d7].toArray (by rfl) (by decide : 1 <= maxLen)).rd
                   have CY := Ad ((Ch.refl [] wc).alloc (.cells [Value.int .i64 tick, .int .i64 j, .int .i64 x9.kind, .int .i64 x9.f.id, .bool x9.f.ext, .bool x9.f.rtr, .int .i64 x9.f.len, .int .u8 x9.f.d0, .int .u8 x9.f.d1, .int .u8 x9.f.d2, .int .u8 x9.f.d3, .int .u8 x9.f.d4, .int .u8 x9.f.d5, .int .u8 x9.f.d6, .int .u8 x9.f.d7].toArray 51))
                   have OY := Ad ((O3.out.2.1.on CC.out).on CY.out)
                   have BY := Ad (show w5.heap.size <= (wc.alloc (.cells [Value.int .i64 tick, .int .i64 j, .int .i64 x9.kind, .int .i64 x9.f.id, .bool x9.f.ext, .bool x9.f.rtr, .int .i64 x9.f.len, .int .u8 x9.f.d0, .int .u8 x9.f.d1, .int .u8 x9.f.d2, .int .u8 x9.f.d3, .int .u8 x9.f.d4, .int .u8 x9.f.d5, .int .u8 x9.f.d6, .int .u8 x9.f.d7].toArray 51)).heap.size from Nat.le_trans (Nat.le_trans (Nat.le_trans S1.out.1.size C3.out.size) CC.out.size) CY.out.size)
                   go_wp2_with (first | refine wpList_load_Cs rfl 51 (.tmp 22) rfl 0 [Value.int .i64 tick, .int .i64 j, .int .i64 x9.kind, .int .i64 x9.f.id, .bool x9.f.ext, .bool x9.f.rtr, .int .i64 x9.f.len, .int .u8 x9.f.d0, .int .u8 x9.f.d1, .int .u8 x9.f.d2, .int .u8 x9.f.d3, .int .u8 x9.f.d4, .int .u8 x9.f.d5, .int .u8 x9.f.d6, .int .u8 x9.f.d7] (by rfl) DC.out EZ.out Tryz.underlying51 rfl size51 ?_ | (at_builtin; go_loud (refine wpList_append_Ow rfl (.tmp 116) (.tmp 118) 42 (by rfl) (by rfl) (some ⟨wc.heap.size, 0, none⟩) 1 1 [Pl.stamp tick j x9] (by rfl) (by rfl) HLK.out OY.out Y.out rfl (by show (t3 + 1) * 56 <= _; omega) BY.out ?_)))
                   intro A4 c4 q4 w4 hO hC hq
                   have O4 := Ad (show (Pl.stepsE faults mask lv tick (xs.take j) 0 ++ (st.2.evs.take (r + 1)).map (Pl.stamp tick j)).length = t3 + 1 /\ Ow Evv w4 w5.heap.size q4 A4 c4 (Pl.stepsE faults mask lv tick (xs.take j) 0 ++ (st.2.evs.take (r + 1)).map (Pl.stamp tick j)) /\ ∀ y, q4 = some y -> q2 = some y ∨ w1.heap.size <= y from by
                     rw [TK.out, <- List.append_assoc]
                     refine ⟨by rw [List.length_append, HLK.out]; rfl, by simpa [List.append_assoc, List.map_take] using hO, fun y hy => ?_⟩
                     rcases hq with e | e
                     · exact O3.out.2.2 y (by rw [<- e]; exact hy)
                     · rw [e] at hy; cases hy; exact .inr (by have h1 := C3.out.size; have h2 := CC.out.size; omega))
                   have C4 := Ad (((C3.out.then (CC.out.any.then CY.out.any)).trans hC (fun y hy => by rw [Option.mem_toList] at hy; rcases O3.out.2.2 y hy with e | e; exact .inl (by rw [Option.mem_toList]; exact e); exact .inr e)))
                   clear hO hC hq Y OY BY EZ DC CC CY TK O3 C3 HLK E9
                   go_wp2_with fail
                   go_roundw
                   case rel => exact ⟨r + 1, by omega, by go_num, ⟨A4, c4, q4, _, rfl, O4⟩, C4⟩
                   case measure => simp [intOf]; omega
                 · have hrn : r = n9 := by omega
                   subst hrn
                   have TKN := Ad (show st.2.evs.take r = st.2.evs from List.take_of_length_le (by rw [<- N9.out]; exact Nat.le_refl _))
                   have OZ := Ad (show (Pl.stepsE faults mask lv tick (xs.take (j + 1)) 0).length = t3 /\ Ow Evv wr w5.heap.size q3 A3 c3 (Pl.stepsE faults mask lv tick (xs.take (j + 1)) 0) from by
                     rw [SE.out, TL.out]
                     have := O3.out
                     rw [TKN.out] at this
                     exact ⟨this.1, this.2.1⟩)
                   have BZ := Ad (show BusAt wr b gB (some ⟨g2, o2, none⟩) c q (ps2.set j (p.1, L')) (Pl.partly faults mask lv xs (j + 1)) tick /\ St (bfp gB q ps) w5 wr (bfp gB q (ps2.set j (p.1, L'))) from by
                     refine ⟨B1.out.keep C3.out (B1.out.apart OB.out), ?_⟩
                     refine ⟨S1.out.1.trans C3.out (fun y hy => ?_), S1.out.2⟩
                     rw [Option.mem_toList] at hy
                     exact .inr (OB.out.size y hy).1)
                   clear hlt2 hr O3 TKN SE TL
                   go_wp2_with fail
                   go_roundw
                   case rel => exact ⟨j + 1, by omega, by go_num, ⟨A3, c3, q3, t3, rfl, OZ⟩, _, BZ⟩
                   case measure => simp [intOf]; omega
             · have SV := Ad (show Pl.sees faults lv j = (1 - lv) by unfold Pl.sees; rw [hfk]; rfl)
               have NS := Ad (nstep_calls wr (HB.out.1.ns.at_ j p x hp hxp) HB.out.1.ns.base (1 - lv) (by omega) hxf (by have := Pl.step_kn x Pl.Td.none (1 - lv); simp [Pl.Td.none] at this ⊢; omega))
               have TL := Ad (show Pl.tells faults mask lv tick j x = (x.step Pl.Td.none (1 - lv)).2.evs.map (Pl.stamp tick j) by rw [Pl.tells, if_neg (by rw [hmk]; decide), SV.out])
               have AF := Ad (show Pl.after faults mask lv j x = (x.step Pl.Td.none (1 - lv)).1 by rw [Pl.after, if_neg (by rw [hmk]; decide), SV.out])
               have PSET := Ad (Pl.partly_set faults mask lv xs j x hx)
               have KN := Ad (show (x.step Pl.Td.none (1 - lv)).2.evs.length <= 4 from by have := Pl.step_kn x Pl.Td.none (1 - lv); unfold Pl.Td.evs; rw [List.length_map]; simpa [Pl.Td.none] using this)
               generalize hst : x.step Pl.Td.none (1 - lv) = st at *
               rw [hmk] at HS
               rw [hfk] at HF
               have HP := Ad hp
               have HXP := Ad hxp
               clear hst hx hxf hmk hfk SV hp hxp
               go_wp2_with fail
               refine (HS.out _).mono ?_
               rintro e w99 ⟨rfl, hw⟩
               rw [hw]
               clear hw w99 HS
               go_wp2_with fail
               refine (HF.out _).mono ?_
               rintro e w99 ⟨rfl, hw⟩
               rw [hw]
               clear hw w99 HF
               go_wp2_with fail
               refine NS.out.mono ?_
               rintro e w1 ⟨⟨A9, c9, q9, n9, rfl, hn9, hO9⟩, L', hN, hC, hk9⟩
               obtain ⟨hBt, hSt⟩ := HB.out.1.turn HP.out HXP.out hN hC hk9
               have B1 := Ad (show BusAt w1 b gB (some ⟨g2, o2, none⟩) c q (ps2.set j (p.1, L')) (Pl.partly faults mask lv xs (j + 1)) tick from by rw [<- PSET.out, AF.out]; exact hBt)
               have S1 := Ad (HB.out.2.trans hSt)
               have O9 := Ad hO9
               have N9 := Ad hn9
               have OB := Ad (show Ow Evv w1 w5.heap.size q2 A2 c2 (Pl.stepsE faults mask lv tick (xs.take j) 0) from O.out.2.keep hSt.1 (fun y hy hm => HB.out.1.apart O.out.2 y hm (by rw [Option.mem_toList]; exact hy)))
               have QS := Ad (show ∀ y, q2 = some y -> y < wr.heap.size from fun y hy => (O.out.2.size y hy).2)
               have n4 : n9 <= 4 := by rw [hn9]; exact KN.out
               have y1 : w1.cell? ⟨gB, 1, none⟩ = some (.int .i64 tick) := hBt.cs.cell (by rfl)
               have hg1 := hBt.cs.lt
               have t128 : t <= 4 * k := by
                 have h1 := SLE.out
                 rw [O.out.1, List.length_take] at h1
                 omega
               have ht1 := O.out.1
               have HT1 := Ad ht1
               clear hN hC hk9 hBt hSt hO9 hn9 NS ht1 HP HXP PSET AF O KN z0 z1 rz1 hrz hgz cp
               go_wp2_with fail
               generalize wr = wO at *
               go_loopw [16, 105] (fun v i wi => ∃ r : Nat, r <= n9 /\ i = .int .i64 r /\ (∃ A3 c3 q3 t3, v = .slice A3 t3 c3 /\ Aside0 ((Pl.stepsE faults mask lv tick (xs.take j) 0 ++ (st.2.evs.take r).map (Pl.stamp tick j)).length = t3 /\ Ow Evv wi w5.heap.size q3 A3 c3 (Pl.stepsE faults mask lv tick (xs.take j) 0 ++ (st.2.evs.take r).map (Pl.stamp tick j)) /\ ∀ y, q3 = some y -> q2 = some y ∨ w1.heap.size <= y)) /\ Aside0 (Ch q2.toList w1 wi)) (fun _ i _ => n9 - (intOf i).toNat)
               case atStart => exact ⟨0, by omega, rfl, ⟨A2, c2, q2, t, rfl, ⟨by simpa using HT1.out, by simpa using OB.out, fun y hy => .inl hy⟩⟩, ⟨Ch.refl _ _⟩⟩
               case round =>
                 obtain ⟨r, hr, rfl, ⟨A3, c3, q3, t3, rfl, O3⟩, C3⟩ := hrel
                 by_cases hlt2 : r < n9
                 · obtain ⟨x9, hx9⟩ : ∃ x9, st.2.evs[r]? = some x9 := ⟨_, List.getElem?_eq_getElem (by rw [<- N9.out]; exact hlt2)⟩
                   have hB2 := B1.out.keep C3.out (B1.out.apart OB.out)
                   have hO9 := O9.out.keep C3.out (fun y hy hm => by rw [Option.mem_toList] at hm; have := QS.out y hm; have := (O9.out.size y hy).1; omega)
                   obtain ⟨g9, o9, rfl, hc9⟩ := hO9.rd.cells hx9
                   have R9 := Ad (show wr.rangeAt g9 (o9 + r * 15) (Evv.enc x9) from fun y v hv => hc9 y v hv)
                   have TK := Ad (show (st.2.evs.take (r + 1)).map (Pl.stamp tick j) = (st.2.evs.take r).map (Pl.stamp tick j) ++ [Pl.stamp tick j x9] by rw [List.take_add_one, hx9, Option.toList_some, List.map_append]; rfl)
                   have k90 : (0 : Int) <= (r : Int) := by omega
                   have k91 : (r : Int) < (n9 : Int) := by omega
                   have yr1 : wr.cell? ⟨gB, 1, none⟩ = some (.int .i64 tick) := hB2.cs.cell (by rfl)
                   have DN := Ad (Cs.new wr ([Value.int .i64 0, .int .i64 0, .int .i64 0] ++ zf) 51)
                   have CN := Ad ((Ch.refl [] wr).alloc (.cells ([Value.int .i64 0, .int .i64 0, .int .i64 0] ++ zf).toArray 51))
                   have P9 := Ad (show ∀ u ∈ Evv.enc x9, u.oneCell' = true from fun u hu => Evv.hone x9 u hu)
                   have t3b : t3 <= 4 * k + 4 := by
                     have h1 := O3.out.1
                     rw [List.length_append, HT1.out, List.length_map, List.length_take] at h1
                     omega
                   have HLK := Ad O3.out.1
                   have E9 := Ad (show (Evv.enc (Pl.stamp tick j x9)) = [Value.int .i64 tick, .int .i64 j, .int .i64 x9.kind, .int .i64 x9.f.id, .bool x9.f.ext, .bool x9.f.rtr, .int .i64 x9.f.len, .int .u8 x9.f.d0, .int .u8 x9.f.d1, .int .u8 x9.f.d2, .int .u8 x9.f.d3, .int .u8 x9.f.d4, .int .u8 x9.f.d5, .int .u8 x9.f.d6, .int .u8 x9.f.d7] from rfl)
                   clear hB2 hO9 hc9 hx9
                   go_wp2_with (first | refine wpList_load_mid rfl 51 (.tmp 107) rfl g9 (o9 + r * 15) (by rfl) (Evv.enc x9) _ R9.out Tryz.underlying51 rfl size51 ?_ | refine wpList_store_all rfl 51 (.tmp 22) (.tmp 108) rfl (Evv.enc x9) (by rfl) (by rfl) DN.out rfl size51 P9.out ?_)
                   intro wa ha ca
                   have CA := Ad (CN.out.trans ca (by simp))
                   have DA := Ad ha
                   have ya1 : wa.cell? ⟨gB, 1, none⟩ = some (.int .i64 tick) := CA.out.cell yr1 (by simp)
                   clear ha ca DN CN R9 P9
                   go_wp2_with (refine wpList_put_Cs rfl 3 (.tmp 114) (.tmp 112) rfl 0 (.int .i64 tick) (by rfl) (by rfl) size3 rfl DA.out (show 0 < 15 by decide) ?_)
                   intro wb hb cb
                   have DB := Ad hb
                   have CB := Ad (CA.out.trans cb (by simp))
                   clear hb cb DA CA
                   go_wp2_with (refine wpList_put_Cs rfl 3 (.tmp 115) (.tmp 113) rfl 1 (.int .i64 j) (by rfl) (by rfl) size3 rfl DB.out (show 1 < 15 by decide) ?_)
                   intro wc hc cc
                   have DC := Ad (show Cs wc wr.heap.size 51 [Value.int .i64 tick, .int .i64 j, .int .i64 x9.kind, .int .i64 x9.f.id, .bool x9.f.ext, .bool x9.f.rtr, .int .i64 x9.f.len, .int .u8 x9.f.d0, .int .u8 x9.f.d1, .int .u8 x9.f.d2, .int .u8 x9.f.d3, .int .u8 x9.f.d4, .int .u8 x9.f.d5, .int .u8 x9.f.d6, .int .u8 x9.f.d7] from hc)
                   have CC := Ad (CB.out.trans cc (by simp))
                   clear hc cc DB CB yr1 ya1
                   have EZ := Ad (show ∀ y v, ([Value.int .i64 tick, .int .i64 j, .int .i64 x9.kind, .int .i64 x9.f.id, .bool x9.f.ext, .bool x9.f.rtr, .int .i64 x9.f.len, .int .u8 x9.f.d0, .int .u8 x9.f.d1, .int .u8 x9.f.d2, .int .u8 x9.f.d3, .int .u8 x9.f.d4, .int .u8 x9.f.d5, .int .u8 x9.f.d6, .int .u8 x9.f.d7] : List Value)[y]? = some v -> ([Value.int .i64 tick, .int .i64 j, .int .i64 x9.kind, .int .i64 x9.f.id, .bool x9.f.ext, .bool x9.f.rtr, .int .i64 x9.f.len, .int .u8 x9.f.d0, .int .u8 x9.f.d1, .int .u8 x9.f.d2, .int .u8 x9.f.d3, .int .u8 x9.f.d4, .int .u8 x9.f.d5, .int .u8 x9.f.d6, .int .u8 x9.f.d7] : List Value)[0 + y]? = some v from fun y v hv => by rwa [Nat.zero_add])
                   have Y := Ad (Ow.lit Evv wc [Pl.stamp tick j x9] [Value.int .i64 tick, .int .i64 j, .int .i64 x9.kind, .int .i64 x9.f.id, .bool x9.f.ext, .bool x9.f.rtr, .int .i64 x9.f.len, .int .u8 x9.f.d0, .int .u8 x9.f.d1, .int .u8 x9.f.d2, .int .u8 x9.f.d3, .int .u8 x9.f.d4, .int .u8 x9.f.d5, .int .u8 x9.f.d6, .int .u8 x9.f.d7].toArray (by rfl) (by decide : 1 <= maxLen)).rd
                   have CY := Ad ((Ch.refl [] wc).alloc (.cells [Value.int .i64 tick, .int .i64 j, .int .i64 x9.kind, .int .i64 x9.f.id, .bool x9.f.ext, .bool x9.f.rtr, .int .i64 x9.f.len, .int .u8 x9.f.d0, .int .u8 x9.f.d1, .int .u8 x9.f.d2, .int .u8 x9.f.d3, .int .u8 x9.f.d4, .int .u8 x9.f.d5, .int .u8 x9.f.d6, .int .u8 x9.f.d7].toArray 51))
                   have OY := Ad ((O3.out.2.1.on CC.out).on CY.out)
                   have BY := Ad (show w5.heap.size <= (wc.alloc (.cells [Value.int .i64 tick, .int .i64 j, .int .i64 x9.kind, .int .i64 x9.f.id, .bool x9.f.ext, .bool x9.f.rtr, .int .i64 x9.f.len, .int .u8 x9.f.d0, .int .u8 x9.f.d1, .int .u8 x9.f.d2, .int .u8 x9.f.d3, .int .u8 x9.f.d4, .int .u8 x9.f.d5, .int .u8 x9.f.d6, .int .u8 x9.f.d7].toArray 51)).heap.size from Nat.le_trans (Nat.le_trans (Nat.le_trans S1.out.1.size C3.out.size) CC.out.size) CY.out.size)
                   go_wp2_with (first | refine wpList_load_Cs rfl 51 (.tmp 22) rfl 0 [Value.int .i64 tick, .int .i64 j, .int .i64 x9.kind, .int .i64 x9.f.id, .bool x9.f.ext, .bool x9.f.rtr, .int .i64 x9.f.len, .int .u8 x9.f.d0, .int .u8 x9.f.d1, .int .u8 x9.f.d2, .int .u8 x9.f.d3, .int .u8 x9.f.d4, .int .u8 x9.f.d5, .int .u8 x9.f.d6, .int .u8 x9.f.d7] (by rfl) DC.out EZ.out Tryz.underlying51 rfl size51 ?_ | (at_builtin; go_loud (refine wpList_append_Ow rfl (.tmp 116) (.tmp 118) 42 (by rfl) (by rfl) (some ⟨wc.heap.size, 0, none⟩) 1 1 [Pl.stamp tick j x9] (by rfl) (by rfl) HLK.out OY.out Y.out rfl (by show (t3 + 1) * 56 <= _; omega) BY.out ?_)))
                   intro A4 c4 q4 w4 hO hC hq
                   have O4 := Ad (show (Pl.stepsE faults mask lv tick (xs.take j) 0 ++ (st.2.evs.take (r + 1)).map (Pl.stamp tick j)).length = t3 + 1 /\ Ow Evv w4 w5.heap.size q4 A4 c4 (Pl.stepsE faults mask lv tick (xs.take j) 0 ++ (st.2.evs.take (r + 1)).map (Pl.stamp tick j)) /\ ∀ y, q4 = some y -> q2 = some y ∨ w1.heap.size <= y from by
                     rw [TK.out, <- List.append_assoc]
                     refine ⟨by rw [List.length_append, HLK.out]; rfl, by simpa [List.append_assoc, List.map_take] using hO, fun y hy => ?_⟩
                     rcases hq with e | e
                     · exact O3.out.2.2 y (by rw [<- e]; exact hy)
                     · rw [e] at hy; cases hy; exact .inr (by have h1 := C3.out.size; have h2 := CC.out.size; omega))
                   have C4 := Ad (((C3.out.then (CC.out.any.then CY.out.any)).trans hC (fun y hy => by rw [Option.mem_toList] at hy; rcases O3.out.2.2 y hy with e | e; exact .inl (by rw [Option.mem_toList]; exact e); exact .inr e)))
                   clear hO hC hq Y OY BY EZ DC CC CY TK O3 C3 HLK E9
                   go_wp2_with fail
                   go_roundw
                   case rel => exact ⟨r + 1, by omega, by go_num, ⟨A4, c4, q4, _, rfl, O4⟩, C4⟩
                   case measure => simp [intOf]; omega
                 · have hrn : r = n9 := by omega
                   subst hrn
                   have TKN := Ad (show st.2.evs.take r = st.2.evs from List.take_of_length_le (by rw [<- N9.out]; exact Nat.le_refl _))
                   have OZ := Ad (show (Pl.stepsE faults mask lv tick (xs.take (j + 1)) 0).length = t3 /\ Ow Evv wr w5.heap.size q3 A3 c3 (Pl.stepsE faults mask lv tick (xs.take (j + 1)) 0) from by
                     rw [SE.out, TL.out]
                     have := O3.out
                     rw [TKN.out] at this
                     exact ⟨this.1, this.2.1⟩)
                   have BZ := Ad (show BusAt wr b gB (some ⟨g2, o2, none⟩) c q (ps2.set j (p.1, L')) (Pl.partly faults mask lv xs (j + 1)) tick /\ St (bfp gB q ps) w5 wr (bfp gB q (ps2.set j (p.1, L'))) from by
                     refine ⟨B1.out.keep C3.out (B1.out.apart OB.out), ?_⟩
                     refine ⟨S1.out.1.trans C3.out (fun y hy => ?_), S1.out.2⟩
                     rw [Option.mem_toList] at hy
                     exact .inr (OB.out.size y hy).1)
                   clear hlt2 hr O3 TKN SE TL
                   go_wp2_with fail
                   go_roundw
                   case rel => exact ⟨j + 1, by omega, by go_num, ⟨A3, c3, q3, t3, rfl, OZ⟩, _, BZ⟩
                   case measure => simp [intOf]; omega
           · have PS := Ad (partly_same faults mask lv xs j x hx hmk)
             have TN := Ad (show Pl.stepsE faults mask lv tick (xs.take (j + 1)) 0 = Pl.stepsE faults mask lv tick (xs.take j) 0 by rw [SE.out, Pl.tells, if_pos hmk, List.append_nil])
             rw [hmk] at HS
             clear hxp hp hx hxf hmk HF SE
             go_wp2_with fail
             refine (HS.out _).mono ?_
             rintro e w99 ⟨rfl, hw⟩
             rw [hw]
             clear hw w99 HS
             go_wp2_with fail
             go_roundw
             case rel => exact ⟨j + 1, by omega, by go_num, ⟨A2, c2, q2, t, rfl, by rw [TN.out]; exact O⟩, ps2, by rw [PS.out]; exact HB⟩
             case measure => simp [intOf]; omega
         · have hjk : j = k := by omega
           subst hjk
           have PA := Ad (show Pl.partly faults mask lv xs j = Pl.stepsN faults mask lv xs 0 by rw [<- hnk]; exact Pl.partly_all faults mask lv xs)
           have TA := Ad (show xs.take j = xs from List.take_of_length_le (by rw [hnk]; exact Nat.le_refl _))
           obtain ⟨hT, hCt⟩ := HB.out.1.ticked (tick + 1)
           have f1 := HB.out.1.cs.free 1
           have HT := Ad hT
           have CT := Ad hCt
           have RT := Ad (RZ.out.keep CT.out (fun hm => by simp at hm; exact blk_ne RZ.out HB.out.1.cs (by decide) hm))
           have DW := Ad ((DR2.out.on C5.out).keep HB.out.2.1 ((BR.out.on C5.out).other (DR2.out.on C5.out) (.inr rfl)))
           have DT := Ad (DW.out.keep CT.out (fun hm => by simp at hm; exact blk_ne DW.out HB.out.1.cs (by decide) hm))
           have EA := Ad (show ∀ y v, ([Value.int .i64 1, .int .i64 lv, .int .u32 m1] : List Value)[y]? = some v -> ([Value.int .i64 1, .int .i64 lv, .int .u32 m1] : List Value)[0 + y]? = some v from fun y v hv => by rwa [Nat.zero_add])
           clear hT hCt hlt hj
           go_wp2_with (first | refine wpList_load_Cs rfl 93 (.tmp 15) rfl 0 [Value.int .i64 1, .int .i64 lv, .int .u32 m1] (by rfl) RT.out EA.out Tryz.underlying93 rfl size93 ?_ | refine wpList_store_all rfl 93 (.tmp 8) (.tmp 129) rfl [Value.int .i64 1, .int .i64 lv, .int .u32 m1] (by rfl) (by rfl) DT.out rfl size93 (by simp [Value.oneCell']) ?_)
           intro w9 hd hc
           go_wp2_with fail
           refine bodyPost_ret (v := .tuple #[.agg #[.int .i64 1, .int .i64 lv, .int .u32 m1], .slice A2 t c2, .int .i64 0]) ?_ rfl ?_
           · exact results_list (rs := [.cell 8 93, .tmp 9, .tmp 10]) rfl (by simp) (.cell w.heap.size 93 _ (0, 0) _ rfl hd Tryz.underlying93 rfl size93 (.tmp (.tmp .nil)))
           · have hw5 : w.heap.size <= w5.heap.size := Nat.le_trans S0.out.1.size C5.out.size
             have hO := O.out
             rw [TA.out] at hO
             have hn51 : ∀ {y : Nat}, y ∈ q2.toList -> y ≠ w.heap.size /\ y ≠ gB := fun {y} hy => by
               rw [Option.mem_toList] at hy
               have := (hO.2.size y hy).1
               have := DR2.out.lt
               have := hgr
               have h9 := C5.out.size
               exact ⟨by omega, by omega⟩
             have hO2 : Ow Evv w9 w.heap.size q2 A2 c2 (Pl.stepsE faults mask lv tick xs 0) := ((hO.2.keep CT.out (fun y hy hm => by simp at hm; exact (hn51 (by rw [Option.mem_toList]; exact hy)).2 hm)).keep hc (fun y hy hm => by simp at hm; exact (hn51 (by rw [Option.mem_toList]; exact hy)).1 hm)).less hw5
             have hB9 := HT.out.keep hc (fun y hy hm => by simp at hm; subst hm; exact HT.out.other DT.out (.inr rfl) hy)
             have hS9 : St (bfp gB q ps) w w9 (bfp gB q ps2) := by
               have h1 := S0.out.trans (F' := bfp gB q ps) ((St.of C5.out).trans HB.out.2)
               refine ⟨(h1.1.trans CT.out (fun y hy => ?_)).trans hc (fun y hy => ?_), h1.2⟩
               · simp at hy; subst hy; exact .inl (by simp [bfp])
               · simp at hy; subst hy; exact .inr (Nat.le_refl _)
             refine ⟨A2, c2, q2, ps2, t, ?_, ?_, ?_, hS9⟩
             · rw [RUN.out]
             · unfold Pl.Bus.force
               simp only []
               rw [RUN.out]
               exact ⟨hO.1, hO2⟩
             · unfold Pl.Bus.force
               simp only []
               rw [RUN.out, <- PA.out]
               exact hB9
def Ticked (w : World) (b gB c : Nat) (A : Option Addr) (q : Option Nat) (ps : List (Nat × Lay)) (B : Pl.Bus) (faults mask drive : Nat) (e : Ending) (w' : World) : Prop :=
 ∃ A' c' q' ps' m lv dr, e = .returned (.tuple #[.agg #[.int .i64 1, .int .i64 lv, .int .u32 dr], .slice A' m c', .int .i64 0]) /\ B.run mask drive = ⟨1, lv, dr⟩ /\ ((B.force faults mask drive).2.2.length = m /\ Ow Evv w' w.heap.size q' A' c' (B.force faults mask drive).2.2) /\
   BusAt w' b gB A c q ps' (B.force faults mask drive).1.nodes (B.force faults mask drive).1.tick /\ St (bfp gB q ps) w w' (bfp gB q ps')
theorem force_ticked {w : World} {b gB c : Nat} {A : Option Addr} {q : Option Nat} {ps : List (Nat × Lay)} (B : Pl.Bus) (faults mask drive : Nat) (h : BusAt w b gB A c q ps B.nodes B.tick) (hn : B.nodes.length <= 32) (hfm : (faults ||| mask) / 2 ^ B.nodes.length = 0) (hf : faults < 4294967296) (hm : mask < 4294967296) (hd : drive < 4294967296) (ht : 0 <= B.tick /\ B.tick <= 1000000)
   (hfit : ∀ x ∈ B.nodes, x.fit) : Calls Tryz.prog 39 #[.pointer (some ⟨gB, 0, none⟩), .int .u32 faults, .int .u32 mask, .int .u32 drive] w (Ticked w b gB c A q ps B faults mask drive) := by
 refine (force_calls faults mask drive h hn hfm hf hm hd ht hfit).mono ?_
 rintro e w' ⟨A', c', q', ps', m, rfl, h1, h2, h3⟩
 exact ⟨A', c', q', ps', m, _, _, rfl, rfl, h1, h2, h3⟩
theorem step_ticked {w : World} {b gB c : Nat} {A : Option Addr} {q : Option Nat} {ps : List (Nat × Lay)} (B : Pl.Bus) (faults : Nat) (h : BusAt w b gB A c q ps B.nodes B.tick) (hn : B.nodes.length <= 32) (hfm : faults / 2 ^ B.nodes.length = 0) (hf : faults < 4294967296) (ht : 0 <= B.tick /\ B.tick <= 1000000)
   (hfit : ∀ x ∈ B.nodes, x.fit) : Calls Tryz.prog 33 #[.pointer (some ⟨gB, 0, none⟩), .int .u32 faults] w (Ticked w b gB c A q ps B faults 0 0) := by
 have D0 := Ad (Cs.new w [Value.int .i64 0, .int .i64 0, .int .u32 0] 93)
 have C0 := Ad ((Ch.refl [] w).alloc (.cells [Value.int .i64 0, .int .i64 0, .int .u32 0].toArray 93))
 obtain ⟨w0, hw0⟩ : ∃ w0, w.alloc (.cells [Value.int .i64 0, .int .i64 0, .int .u32 0].toArray 93) = w0 := ⟨_, rfl⟩
 rw [hw0] at C0 D0
 have H0 := Ad (h.on C0.out)
 have FC := Ad (force_ticked B faults 0 0 H0.out hn (by simpa using hfm) hf (by decide) (by decide) ht hfit)
 have HW := Ad hw0
 clear h hn hfm hf ht hfit hw0
 go_enter Tryz.func33, Tryz.ntmps33
 go_wp2_with fail
 rw [HW.out]
 refine FC.out.mono ?_
 rintro e w1 ⟨A', c', q', ps', m, lv, dr, rfl, h1, h2, h3, h4⟩
 have D1 := Ad (D0.out.keep h4.1 (H0.out.other D0.out (.inr rfl)))
 have H1 := Ad (And.intro h1 (And.intro h2 (And.intro h3 h4)))
 clear h1 h2 h3 h4 FC
 go_wp2_with (refine wpList_store_all rfl 93 (.tmp 4) (.tmp 10) rfl [Value.int .i64 1, .int .i64 lv, .int .u32 dr] (by rfl) (by rfl) D1.out rfl size93 (by simp [Value.oneCell']) ?_; intro w2 hd hc)
 refine bodyPost_ret (v := .tuple #[.agg #[.int .i64 1, .int .i64 lv, .int .u32 dr], .slice A' m c', .int .i64 0]) ?_ rfl ?_
 · exact results_list (rs := [.cell 4 93, .tmp 5, .tmp 6]) rfl (by simp) (.cell w.heap.size 93 _ (0, 0) _ rfl hd Tryz.underlying93 rfl size93 (.tmp (.tmp .nil)))
 · obtain ⟨h1, h2, h3, h4⟩ := H1.out
   have hs := C0.out.size
   have hl := D0.out.lt
   refine ⟨A', c', q', ps', m, lv, dr, rfl, h1, ⟨h2.1, (h2.2.keep hc (fun y hy hm => by simp at hm; have := (h2.2.size y hy).1; omega)).less hs⟩, h3.keep hc (fun y hy hm => by simp at hm; subst hm; exact h3.other D1.out (.inr rfl) hy), ?_⟩
   have h5 := (St.of C0.out).trans h4
   exact ⟨h5.1.trans hc (fun y hy => by simp at hy; subst hy; exact .inr (Nat.le_refl _)), h5.2⟩
end Go.Proofs.YtjoehjclaonneaaGreat
