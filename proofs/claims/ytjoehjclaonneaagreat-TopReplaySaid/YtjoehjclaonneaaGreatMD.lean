/- A part of the proof of TopReplay (no condition of its own). -/
import Derived.Laws.CopyRow
import Derived.Laws.StructEq
import Derived.Lib.AppendZerosOnto
import Derived.Lib.Overlaps
import Derived.Test.YtjoehjclaonneaaGreatMC
import Derived.Test.YtjoehjclaonneaaGreatMA
namespace Go.Proofs.YtjoehjclaonneaaGreat
open Go.RowKit Go.Proofs.YtjoehjclaonneaaGreatW.PrintWords
set_option maxHeartbeats 8000000
set_option linter.unusedVariables false
set_option linter.unusedSimpArgs false
theorem run_copy_gen (W : World) (t tS rt e : TypeId) (i : TypeInfo) (hu : Tryz.prog.underlying t = some (.slice e)) (hi : Tryz.prog.info? e = some i) (g off dLen dCap : Nat) (ad : Addr) (sLen sCap : Nat) (cur : List Value) (ty : TypeId)
   (hg : W.heap[g]? = some (.cells cur.toArray ty (0, 0))) (news : List Value) (n : Nat) (hn : Nat.min sLen dLen = n) (hl : news.length = n * i.size) (hsrc : ∀ j v, news[j]? = some v -> W.cell? (ad.add j) = some v) (hfit : off + news.length <= cur.length) (h1 : ∀ v ∈ news, v.oneCell' = true) :
   (Builtin.copy_ #[t, tS] rt #[.slice (some ⟨g, off, none⟩) dLen dCap, .slice (some ad) sLen sCap]).run Tryz.prog W = .ok (goInt n) (W.setRow g (cur.take off ++ news ++ cur.drop (off + news.length)).toArray) := by
 have hf := run_firstCells_some (P := Tryz.prog) W i.size n ad sLen sCap news hl hsrc
 have hs := run_storeCells_at (P := Tryz.prog) g off ty news 0 cur.toArray W hg (by simpa using hfit) h1
 simp only [Nat.add_zero] at hs
 simp [Builtin.copy_, run_underlying hu, sizeOf, typeInfo, hi, Builtin.lenOf, hn, hf, hs]
theorem wpList_copy_gen {W : World} {ops : Array Oper} {rest : List Oper} {o : Oper} {a : Act} {Q : Exit -> Act -> World -> Prop} (hgd : o.guard = none) (d s : Operand) (t tS : TypeId)
   (ho : o.op = .call { callee := .builtin .copy, args := #[d, s], argTypes := #[t, tS] }) (e : TypeId) (i : TypeInfo) (hu : Tryz.prog.underlying t = some (.slice e)) (hi : Tryz.prog.info? e = some i)
   (g off dLen dCap : Nat) (ad : Addr) (sLen sCap : Nat) (cur : List Value) (ty : TypeId) (hd : a.eval d = .slice (some ⟨g, off, none⟩) dLen dCap) (hs : a.eval s = .slice (some ad) sLen sCap)
   (hg : Cs W g ty cur) (news : List Value) (n : Nat) (nv : Value) (hnv : goInt n = nv) (hn : Nat.min sLen dLen = n) (hl : news.length = n * i.size) (hsrc : ∀ j v, news[j]? = some v -> W.cell? (ad.add j) = some v) (hfit : off + news.length <= cur.length) (h1 : ∀ v ∈ news, v.oneCell' = true)
   (hK : ∀ W2, Cs W2 g ty (cur.take off ++ news ++ cur.drop (off + news.length)) -> Ch [g] W W2 -> wpList Tryz.prog ops Q rest (a.put o.dst nv) W2) :
   wpList Tryz.prog ops Q (o :: rest) a W := by
 subst hnv
 have hr := run_copy_gen W t tS o.type e i hu hi g off dLen dCap ad sLen sCap cur ty hg news n hn hl hsrc hfit h1
 refine wpList_plain hgd fun K hK' => ?_
 have hk2 := hK' _ _ (hK _ (setRow_heap W g _ _ ty _ hg) ⟨rfl, rfl, rfl, by simp, fun k _ hk => setRow_other W g k _ (fun e => hk (by simp [e]))⟩)
 unfold Oper.wp execOp
 simp only [ho, resolve, invoke, builtin, Sem.run_bind, Sem.run_pure, Result.andThen_ok, List.map_toArray, List.map_cons, List.map_nil, hd, hs, hr]
 exact hk2
theorem step_copy_gen {W : World} {ops : Array Oper} {o : Oper} {a : Act} {Kc : Act -> World -> Prop} {Q : Exit -> Act -> World -> Prop} (hw : Region.wanted o (yielded ops a.tmps) = true) (d s : Operand) (t tS : TypeId)
   (ho : o.op = .call { callee := .builtin .copy, args := #[d, s], argTypes := #[t, tS] }) (e : TypeId) (i : TypeInfo) (hu : Tryz.prog.underlying t = some (.slice e)) (hi : Tryz.prog.info? e = some i)
   (g off dLen dCap : Nat) (ad : Addr) (sLen sCap : Nat) (cur : List Value) (ty : TypeId) (hd : a.eval d = .slice (some ⟨g, off, none⟩) dLen dCap) (hs : a.eval s = .slice (some ad) sLen sCap)
   (hg : Cs W g ty cur) (news : List Value) (n : Nat) (nv : Value) (hnv : goInt n = nv) (hn : Nat.min sLen dLen = n) (hl : news.length = n * i.size) (hsrc : ∀ j v, news[j]? = some v -> W.cell? (ad.add j) = some v) (hfit : off + news.length <= cur.length) (h1 : ∀ v ∈ news, v.oneCell' = true)
   (hK : ∀ W2, Cs W2 g ty (cur.take off ++ news ++ cur.drop (off + news.length)) -> Ch [g] W W2 -> Kc (a.put o.dst nv) W2) :
   if Region.wanted o (yielded ops a.tmps) = true then Oper.wp Tryz.prog o a W Kc Q else Kc (a.put o.dst undef) W := by
 subst hnv
 have hr := run_copy_gen W t tS o.type e i hu hi g off dLen dCap ad sLen sCap cur ty hg news n hn hl hsrc hfit h1
 have hk2 := hK _ (setRow_heap W g _ _ ty _ hg) ⟨rfl, rfl, rfl, by simp, fun k _ hk => setRow_other W g k _ (fun e => hk (by simp [e]))⟩
 rw [if_pos hw]
 unfold Oper.wp execOp
 simp only [ho, resolve, invoke, builtin, Sem.run_bind, Sem.run_pure, Result.andThen_ok, List.map_toArray, List.map_cons, List.map_nil, hd, hs, hr]
 exact hk2
set_option maxRecDepth 100000 in
theorem mul_calls (w : World) : Calls Tryz.prog 174 #[.int .u64 1, .int .u64 10] w fun e w' => e = .returned (.tuple #[.int .u64 0, .int .u64 10]) /\ w = w' := by
 go_enter Tryz.func174, Tryz.ntmps174
 go_wp2
 go_ret2
 refine ⟨?_, rfl⟩
 kernel_rfl
set_option maxRecDepth 100000 in
theorem repeat_calls (A : Option Addr) (c : Nat) (w : World) (h : Rd Iv w A c [1]) :
   Calls Tryz.prog 158 #[.slice A 1 c, .int .i64 10] w fun e w' => ∃ A' c' q, e = .returned (.slice A' 10 c') /\ Ow Iv w' w.heap.size q A' c' (List.replicate 10 1) /\ Ch [] w w' := by
 have hcap := h.cap
 simp only [List.length_cons, List.length_nil] at hcap
 obtain ⟨g, o, rfl, hc⟩ := h.int 0 (by simp)
 rw [Nat.add_zero] at hc
 have hg := World.block_lt_of_cell? _ _ hc
 have hc1 : w.cell? ⟨g, o, none⟩ = some (.int .i64 1) := hc
 have hmk : ∀ W : World, (Instr.makeSlice 57 (.int .i64 10) (.int .i64 10)).run Tryz.prog W = .ok (.slice (some ⟨W.heap.size, 0, none⟩) 10 10) (W.alloc (.cells #[.int .i64 0, .int .i64 0, .int .i64 0, .int .i64 0, .int .i64 0, .int .i64 0, .int .i64 0, .int .i64 0, .int .i64 0, .int .i64 0] 3)) :=
   fun W => (print_make (P := Tryz.prog) 57 3 .i64 8 Tryz.underlying57 info3 (by decide) 10 (by decide) W).trans (by kernel_rfl)
 have wr2 : IntKind.i64.wrap 2 = 2 := by decide
 have wr4 : IntKind.i64.wrap 4 = 4 := by decide
 have wr8 : IntKind.i64.wrap 8 = 8 := by decide
 have wr10 : IntKind.i64.wrap 10 = 10 := by decide
 clear hc h
 go_enter Tryz.func158, Tryz.ntmps158
 go_wp2_with fail
 refine (mul_calls _).mono ?_
 rintro e w' ⟨rfl, rfl⟩
 obtain ⟨i3, hi3, hz3⟩ := Option.map_eq_some_iff.1 size3
 have hcs := Cs.new w [.int .i64 0, .int .i64 0, .int .i64 0, .int .i64 0, .int .i64 0, .int .i64 0, .int .i64 0, .int .i64 0, .int .i64 0, .int .i64 0] 3
 have hc2 := (((Ch.refl [] w).alloc (.cells #[.int .i64 0, .int .i64 0, .int .i64 0, .int .i64 0, .int .i64 0, .int .i64 0, .int .i64 0, .int .i64 0, .int .i64 0, .int .i64 0] 3)).cell hc1 (by simp))
 have D0 := Ad hcs
 have S0 := Ad (show ∀ j v, [Value.int .i64 1][j]? = some v -> (w.alloc (.cells #[.int .i64 0, .int .i64 0, .int .i64 0, .int .i64 0, .int .i64 0, .int .i64 0, .int .i64 0, .int .i64 0, .int .i64 0, .int .i64 0] 3)).cell? ((⟨g, o, none⟩ : Addr).add j) = some v from fun j v hv => by
   match j, hv with
   | 0, hv => rw [Addr.add_mid]; simp at hv; subst hv; exact hc2
   | j + 1, hv => simp at hv)
 have HI := Ad hi3
 have HZ := Ad hz3
 clear hi3 hz3 hcs hc2
 go_wp2_with (refine wpList_copy_gen rfl (.tmp 31) (.tmp 32) 57 57 rfl 3 i3 Tryz.underlying57 HI.out w.heap.size 0 10 10 ⟨g, o, none⟩ 1 c [.int .i64 0, .int .i64 0, .int .i64 0, .int .i64 0, .int .i64 0, .int .i64 0, .int .i64 0, .int .i64 0, .int .i64 0, .int .i64 0] 3 (by rfl) (by rfl) D0.out [.int .i64 1] 1 (.int .i64 1) rfl rfl (by rw [HZ.out]; rfl) S0.out (by decide) (by simp [Value.oneCell']) ?_; intro w1 hd1 hh1)
 have D1 := Ad (show Cs w1 w.heap.size 3 [.int .i64 1, .int .i64 0, .int .i64 0, .int .i64 0, .int .i64 0, .int .i64 0, .int .i64 0, .int .i64 0, .int .i64 0, .int .i64 0] from hd1)
 have C1 := Ad (((Ch.refl [] w).alloc _).trans hh1 (by simp))
 clear hd1 hh1 D0 S0 hc1
 go_wp2_with fail
 refine wp_loop_rounds 5 ?_
 rw [rounds_succ]
 go_wp2_with fail
 have X1 := Ad (show Cs w1.drew w.heap.size 3 [.int .i64 1, .int .i64 0, .int .i64 0, .int .i64 0, .int .i64 0, .int .i64 0, .int .i64 0, .int .i64 0, .int .i64 0, .int .i64 0] from D1.out.on (Ch.refl _ _).drew)
 have S1 := Ad (show ∀ j v, [Value.int .i64 1][j]? = some v -> w1.drew.cell? ((⟨w.heap.size, 0, none⟩ : Addr).add j) = some v from fun j v hv => by rw [Addr.add_mid]; refine X1.out.cell ?_; rw [Nat.zero_add]; have hj := (List.getElem?_eq_some_iff.1 hv).1; simp at hj; match j, hj, hv with | 0, _, hv => exact hv)
 go_region_held3 (fun W' => Aside0 (Ch [] w W')) (first | exact ⟨C1.out.drew⟩ | exact ⟨C1.out.drew.trans (by assumption) (by simp)⟩) ((refine step_copy_gen (by rfl) (.tmp 41) (.tmp 44) 57 57 (by rfl) 3 i3 Tryz.underlying57 HI.out w.heap.size 1 9 9 ⟨w.heap.size, 0, none⟩ 1 10 [.int .i64 1, .int .i64 0, .int .i64 0, .int .i64 0, .int .i64 0, .int .i64 0, .int .i64 0, .int .i64 0, .int .i64 0, .int .i64 0] 3 (by rfl) (by rfl) X1.out [.int .i64 1] 1 (.int .i64 1) rfl rfl (by rw [HZ.out]; rfl) S1.out (by decide) (by simp [Value.oneCell']) ?_; intro w2 hd2 hh2))
 have D2 := Ad (show Cs w2 w.heap.size 3 [.int .i64 1, .int .i64 1, .int .i64 0, .int .i64 0, .int .i64 0, .int .i64 0, .int .i64 0, .int .i64 0, .int .i64 0, .int .i64 0] from hd2)
 have C2 := Ad (C1.out.drew.trans hh2 (by simp))
 clear hd2 hh2 X1 D1 C1
 go_wp2_with fail
 rw [rounds_succ]
 go_wp2_with fail
 have X2 := Ad (show Cs w2.drew w.heap.size 3 [.int .i64 1, .int .i64 1, .int .i64 0, .int .i64 0, .int .i64 0, .int .i64 0, .int .i64 0, .int .i64 0, .int .i64 0, .int .i64 0] from D2.out.on (Ch.refl _ _).drew)
 have S2 := Ad (show ∀ j v, [Value.int .i64 1, .int .i64 1][j]? = some v -> w2.drew.cell? ((⟨w.heap.size, 0, none⟩ : Addr).add j) = some v from fun j v hv => by rw [Addr.add_mid]; refine X2.out.cell ?_; rw [Nat.zero_add]; have hj := (List.getElem?_eq_some_iff.1 hv).1; simp at hj; match j, hj, hv with | 0, _, hv => exact hv | 1, _, hv => exact hv)
 go_region_held3 (fun W' => Aside0 (Ch [] w W')) (first | exact ⟨C2.out.drew⟩ | exact ⟨C2.out.drew.trans (by assumption) (by simp)⟩) ((refine step_copy_gen (by rfl) (.tmp 41) (.tmp 44) 57 57 (by rfl) 3 i3 Tryz.underlying57 HI.out w.heap.size 2 8 8 ⟨w.heap.size, 0, none⟩ 2 10 [.int .i64 1, .int .i64 1, .int .i64 0, .int .i64 0, .int .i64 0, .int .i64 0, .int .i64 0, .int .i64 0, .int .i64 0, .int .i64 0] 3 (by rfl) (by rfl) X2.out [.int .i64 1, .int .i64 1] 2 (.int .i64 2) rfl rfl (by rw [HZ.out]; rfl) S2.out (by decide) (by simp [Value.oneCell']) ?_; intro w3 hd3 hh3))
 have D3 := Ad (show Cs w3 w.heap.size 3 [.int .i64 1, .int .i64 1, .int .i64 1, .int .i64 1, .int .i64 0, .int .i64 0, .int .i64 0, .int .i64 0, .int .i64 0, .int .i64 0] from hd3)
 have C3 := Ad (C2.out.drew.trans hh3 (by simp))
 clear hd3 hh3 X2 D2 C2
 go_wp2_with fail
 rw [rounds_succ]
 go_wp2_with fail
 have X3 := Ad (show Cs w3.drew w.heap.size 3 [.int .i64 1, .int .i64 1, .int .i64 1, .int .i64 1, .int .i64 0, .int .i64 0, .int .i64 0, .int .i64 0, .int .i64 0, .int .i64 0] from D3.out.on (Ch.refl _ _).drew)
 have S3 := Ad (show ∀ j v, [Value.int .i64 1, .int .i64 1, .int .i64 1, .int .i64 1][j]? = some v -> w3.drew.cell? ((⟨w.heap.size, 0, none⟩ : Addr).add j) = some v from fun j v hv => by rw [Addr.add_mid]; refine X3.out.cell ?_; rw [Nat.zero_add]; have hj := (List.getElem?_eq_some_iff.1 hv).1; simp at hj; match j, hj, hv with | 0, _, hv => exact hv | 1, _, hv => exact hv | 2, _, hv => exact hv | 3, _, hv => exact hv)
 go_region_held3 (fun W' => Aside0 (Ch [] w W')) (first | exact ⟨C3.out.drew⟩ | exact ⟨C3.out.drew.trans (by assumption) (by simp)⟩) ((refine step_copy_gen (by rfl) (.tmp 41) (.tmp 44) 57 57 (by rfl) 3 i3 Tryz.underlying57 HI.out w.heap.size 4 6 6 ⟨w.heap.size, 0, none⟩ 4 10 [.int .i64 1, .int .i64 1, .int .i64 1, .int .i64 1, .int .i64 0, .int .i64 0, .int .i64 0, .int .i64 0, .int .i64 0, .int .i64 0] 3 (by rfl) (by rfl) X3.out [.int .i64 1, .int .i64 1, .int .i64 1, .int .i64 1] 4 (.int .i64 4) rfl rfl (by rw [HZ.out]; rfl) S3.out (by decide) (by simp [Value.oneCell']) ?_; intro w4 hd4 hh4))
 have D4 := Ad (show Cs w4 w.heap.size 3 [.int .i64 1, .int .i64 1, .int .i64 1, .int .i64 1, .int .i64 1, .int .i64 1, .int .i64 1, .int .i64 1, .int .i64 0, .int .i64 0] from hd4)
 have C4 := Ad (C3.out.drew.trans hh4 (by simp))
 clear hd4 hh4 X3 D3 C3
 go_wp2_with fail
 rw [rounds_succ]
 go_wp2_with fail
 have X4 := Ad (show Cs w4.drew w.heap.size 3 [.int .i64 1, .int .i64 1, .int .i64 1, .int .i64 1, .int .i64 1, .int .i64 1, .int .i64 1, .int .i64 1, .int .i64 0, .int .i64 0] from D4.out.on (Ch.refl _ _).drew)
 have S4 := Ad (show ∀ j v, [Value.int .i64 1, .int .i64 1][j]? = some v -> w4.drew.cell? ((⟨w.heap.size, 0, none⟩ : Addr).add j) = some v from fun j v hv => by rw [Addr.add_mid]; refine X4.out.cell ?_; rw [Nat.zero_add]; have hj := (List.getElem?_eq_some_iff.1 hv).1; simp at hj; match j, hj, hv with | 0, _, hv => exact hv | 1, _, hv => exact hv)
 go_region_held3 (fun W' => Aside0 (Ch [] w W')) (first | exact ⟨C4.out.drew⟩ | exact ⟨C4.out.drew.trans (by assumption) (by simp)⟩) ((refine step_copy_gen (by rfl) (.tmp 41) (.tmp 44) 57 57 (by rfl) 3 i3 Tryz.underlying57 HI.out w.heap.size 8 2 2 ⟨w.heap.size, 0, none⟩ 8 10 [.int .i64 1, .int .i64 1, .int .i64 1, .int .i64 1, .int .i64 1, .int .i64 1, .int .i64 1, .int .i64 1, .int .i64 0, .int .i64 0] 3 (by rfl) (by rfl) X4.out [.int .i64 1, .int .i64 1] 2 (.int .i64 2) rfl rfl (by rw [HZ.out]; rfl) S4.out (by decide) (by simp [Value.oneCell']) ?_; intro w5 hd5 hh5))
 have D5 := Ad (show Cs w5 w.heap.size 3 [.int .i64 1, .int .i64 1, .int .i64 1, .int .i64 1, .int .i64 1, .int .i64 1, .int .i64 1, .int .i64 1, .int .i64 1, .int .i64 1] from hd5)
 have C5 := Ad (C4.out.drew.trans hh5 (by simp))
 clear hd5 hh5 X4 D4 C4
 go_wp2_with fail
 rw [rounds_succ]
 go_wp2_with fail
 go_ret
 refine ⟨_, 10, some w.heap.size, rfl, ⟨.inr ⟨_, _, rfl, rfl, Nat.le_refl _, D5.out, by decide, by decide, by decide, rfl⟩⟩, C5.out⟩
theorem Ow.ne {α : Type} {E : El α} {w : World} {b : Nat} {q : Option Nat} {A : Option Addr} {c : Nat} {l : List α} (h : Ow E w b q A c l) {g : Nat} {t : TypeId} {cs : Array Value} (hg : w.heap[g]? = some (.cells cs t (0, 0))) (ht : E.t ≠ t) : q ≠ some g := by
 intro e
 rcases h.lies with ⟨_, _, _, h1⟩ | ⟨g', cur, h1, _, _, h4, _⟩
 · rw [h1] at e; cases e
 · rw [h1] at e; cases e
   exact blk_ne h4 hg ht rfl
theorem Bx.ne {W : World} {g g' : Nat} {t t' : TypeId} {v v' : Value} (h : Bx W g t v) (h' : Bx W g' t' v') (ht : t ≠ t') : g ≠ g' := blk_ne h h' ht
theorem put_calls (n k : Nat) (kk : Int) (hkk : kk = k) (hn : n < 18446744073709551616) (hk : k <= 64) (gw go b m : Nat) (q : Option Nat) (A : Option Addr) (c : Nat) (l : List Int) (hm : l.length = m) (hb : m <= 100000) (w : World) (hW : Bx w gw 26 (.int .i64 0)) (hG : Bx w go 57 (.slice A m c)) (hO : Ow Iv w b q A c l) (hbb : b <= w.heap.size) :
   Calls Tryz.prog 172 #[.int .u64 n, .int .i64 kk, .pointer (some ⟨gw, 0, none⟩), .pointer (some ⟨go, 0, none⟩)] w fun e w' => e = .returned (.tuple #[]) /\ Bx w' gw 26 (.int .i64 0) /\ ∃ A' c' q', Bx w' go 57 (.slice A' (m + k) c') /\ Ow Iv w' b q' A' c' (l ++ Pl.ofBits n k) /\ Ch (go :: q.toList) w w' := by
 have OF := Ad (of_calls n k hn hk)
 rw [<- hkk] at OF
 have hne := hW.ne hG (by decide)
 have hqw := hO.ne hW (by decide)
 have hqg := hO.ne hG (by decide)
 have HW := Ad hW
 have HG := Ad hG
 have HO := Ad hO
 have HM := Ad hm
 have NE := Ad (And.intro hne (And.intro hqw hqg))
 clear hn hW hG hO hm hne hqw hqg hkk
 go_enter Tryz.func172, Tryz.ntmps172
 go_wp2_with fail
 refine (OF.out _).mono ?_
 rintro e w1 ⟨A1, c1, q1, rfl, hO1, hC1⟩
 have W1 := Ad (HW.out.keep hC1 (by simp))
 have hG1 := HG.out.keep hC1 (by simp)
 have hc := hG1.cell
 have G1 := Ad hG1
 have X1 := Ad (HO.out.on hC1)
 have O1 := Ad hO1
 have C1 := Ad (hC1.any (F := go :: q.toList))
 have HB := Ad (show b <= w1.heap.size from Nat.le_trans hbb hC1.size)
 have HL := Ad (Pl.ofBits_length n k)
 clear hC1 hG1 hO1
 have hmb : (m + k) * Iv.bytes <= 140737488355328 := by simp [Iv]; omega
 go_wp2_with (at_builtin; refine wpList_append_Ow (E := Iv) (l := l) rfl (.tmp 17) (.tmp 18) 57 rfl rfl A1 k c1 (Pl.ofBits n k) (by rfl) (by rfl) HM.out X1.out O1.out.rd HL.out hmb HB.out ?_)
 intro A' c' q' W' hO' hC' hq'
 have G2 := Ad (G1.out.keep hC' (by intro h; simp at h; exact NE.out.2.2 h))
 have W2 := Ad (W1.out.keep hC' (by intro h; simp at h; exact NE.out.2.1 h))
 have O2 := Ad hO'
 have hqg' : q' ≠ some go := O2.out.ne G2.out (by decide)
 have C2 := Ad (C1.out.trans hC' (fun y hy => .inl (by simp at hy; simp [hy])))
 have hcg := G2.out.cell
 have hfg := G2.out.free
 clear hO' hC' hc hq'
 go_wp2_with fail
 go_end0
 refine ⟨rfl, W2.out.keep ((Ch.refl [go] _).set _ _ (.inl (by simp))) (by simp; exact NE.out.1), A', c', q', G2.out.set _, O2.out.keep ((Ch.refl [go] _).set _ _ (.inl (by simp))) (by intro j hj; simp; rintro rfl; exact hqg' hj), C2.out.set _ _ (.inl (by simp))⟩
theorem fbits_lv (f : Pl.Fr) : Lvs (Pl.fbits f) := by
 have hbb : ∀ l : List Int, Lvs (Pl.byteBits l) := by
   intro l
   induction l with
   | nil => intro x hx; simp [Pl.byteBits] at hx
   | cons y l ih => exact Lvs.app (Pl.ofBits_lv _ _) ih
 unfold Pl.fbits Pl.front
 refine Lvs.app (Lvs.app (Lvs.app (Lvs.one (.inl rfl)) (arb_lv f)) (Pl.ofBits_lv _ _)) ?_
 split
 · intro x hx; simp at hx
 · exact hbb _
theorem cut_data_h (W : World) (b u : Nat) (hu : u <= 8) :
   (Instr.sliceAt 47 (.pointer (some ⟨b, 4, none⟩)) none (some (.int .i64 (u : Int))) none).run Tryz.prog W = .ok (.slice (some ⟨b, 4, none⟩) u 8) W := by
 obtain ⟨i, hi, hs⟩ := Option.map_eq_some_iff.1 size5
 rw [run_sliceAt_array_h W 47 ⟨b, 4, none⟩ arr47 .i64 (u : Int) (by omega) (by rw [len47]; omega), len47, elem47]
 simp [sizeOf, typeInfo, hi, hs, slicedAt, Result.andThen, Addr.add]
theorem lit0 (w : World) : Ow Iv (w.alloc (.cells #[.int .i64 0] 3)) w.heap.size (some w.heap.size) (some ⟨w.heap.size, 0, none⟩) 1 [0] := Ow.lit Iv w [0] #[.int .i64 0] rfl (by decide)
set_option maxRecDepth 100000 in
theorem bits_calls (f : Pl.Fr) (hw : f.wf) (hok : f.ok = true) (w : World) :
   Calls Tryz.prog 156 #[frv f] w fun e w' => ∃ A c q n, e = .returned (.tuple #[.slice A n c, .int .i64 0]) /\ n = (Pl.fbits f).length /\ Ow Iv w' w.heap.size q A c (Pl.fbits f) /\ Ch [] w w' := by
 have hmf : ∀ (fn : Fn) (first cap : Array Value) (w : World), (Instr.makeFunc fn first cap).run Tryz.prog w = .ok (.func fn first cap) w := fun _ _ _ _ => rfl
 obtain ⟨h1, h2, h3, h4, h5⟩ := (Pl.Fr.ok_iff f).1 hok
 have AC := Ad (arb_calls f hw hok)
 have AL := Pl_arb_length f
 obtain ⟨z, hz⟩ := Int.eq_ofNat_of_zero_le h3
 have hz8 : z <= 8 := by omega
 have FD := Ad (show f.data.length = 8 from rfl)
 have FW := Ad hw
 have HFB := Ad (show Pl.fbits f = [0] ++ Pl.arb f ++ Pl.ofBits z (if f.ext then 6 else 5) ++ (if f.rtr then [] else Pl.byteBits (f.data.take z)) by unfold Pl.fbits Pl.front; rw [hz]; rfl)
 have HFR := Ad (Cs.new w (frc f) 49)
 have cut := fun W b => cut_data_h W b z hz8
 have DR := Ad (fun W b (h : Cs W b 49 (frc f)) => (data_rd h (u := 0) (by decide)))
 obtain ⟨D, hD⟩ : ∃ D, f.data = D := ⟨_, rfl⟩
 rw [hD] at FD HFB DR
 have HDD := Ad hD
 generalize hA : Pl.arb f = la at *
 obtain ⟨id, ext, rtr, len, d0, d1, d2, d3, d4, d5, d6, d7⟩ := f
 simp only [] at hz h1 h2 h3 h4 AL HFB
 subst hz
 have al34 : la.length <= 32 := by rw [AL]; split <;> omega
 clear h1 h2 h5 hok hw hA hD
 unfold frv at *
 simp only [] at AC ⊢
 cases ext
 · go_enter Tryz.func156, Tryz.ntmps156
   go_wp2_with fail
   refine (AC.out _).mono ?_
   rintro e w1 ⟨A1, c1, q1, n1, rfl, hn1, hO1, hC1⟩
   have O1 := Ad hO1
   have N1 := Ad hn1.symm
   have F1 := Ad (HFR.out.on hC1)
   have C1 := Ad (((Ch.refl [] w).alloc _).then hC1)
   have X1 := Ad (lit0 w1)
   have O1' := Ad (O1.out.rd.on ((Ch.refl _ _).alloc (.cells #[.int .i64 0] 3)))
   clear hn1 hO1 hC1
   have hmb : (1 + n1) * Iv.bytes <= 140737488355328 := by have := N1.out; simp [Iv]; omega
   have n32 : n1 <= 32 := by have := N1.out; omega
   go_wp2_with (at_builtin; refine wpList_append_Ow (E := Iv) (l := [0]) rfl (.tmp 20) (.tmp 21) 57 rfl rfl A1 n1 c1 la (by rfl) (by rfl) rfl X1.out O1'.out N1.out hmb (by simp) ?_)
   intro A' c' q' W' hO' hC' _
   have CW : Ch [] w W' := ((C1.out.alloc _).trans hC' (by have := C1.out.size; simp; omega))
   have FW' := F1.out.on (((Ch.refl [] w1).alloc (.cells #[.int .i64 0] 3)))
   have FW' := FW'.keep hC' (by have := F1.out.lt; simp; omega)
   obtain ⟨W2, hW2⟩ : ∃ W2, (W'.alloc (.cells #[.slice A' (1 + n1) c'] 57)).alloc (.cells #[.int .i64 0] 26) = W2 := ⟨_, rfl⟩
   have cc : Ch [] W' W2 := hW2 ▸ ((Ch.refl _ _).alloc _).alloc _
   have G := Ad (show Bx W2 W'.heap.size 57 (.slice A' (1 + n1) c') from hW2 ▸ (Bx.new W' _ 57).keep ((Ch.refl [] _).alloc _) (by simp))
   have R := Ad (show Bx W2 (W'.heap.size + 1) 26 (.int .i64 0) from by have := Bx.new (W'.alloc (.cells #[.slice A' (1 + n1) c'] 57)) (.int .i64 0) 26; rw [World.size_alloc] at this; exact hW2 ▸ this)
   have O := Ad (hO'.on cc)
   have F := Ad (FW'.on cc)
   have C := Ad (CW.then cc)
   have e1 := FW'.cell (j := 1) rfl
   have e2 := FW'.cell (j := 2) rfl
   have e3 := FW'.cell (j := 3) rfl
   have hlt := FW'.lt
   have HLT := Ad hlt
   have HW2 := Ad hW2
   have hb1 : w1.heap.size <= W2.heap.size := Nat.le_trans (by have := hC'.size; simp at this; omega) cc.size
   have HB1 := Ad hb1
   have SW := Ad CW.size
   have HW1 := Ad (show w1.heap.size <= W'.heap.size by have := hC'.size; simp at this; omega)
   have SL := Ad (show ([0] ++ la).length = 1 + n1 by rw [List.length_append, N1.out]; rfl)
   obtain ⟨go, hgo⟩ : ∃ go, W'.heap.size = go := ⟨_, rfl⟩
   have HGO := Ad hgo
   have HW1G := Ad (show w1.heap.size <= go by have := HW1.out; omega)
   have PC := Ad (put_calls z 5 5 rfl (by omega) (by decide) (go + 1) go w1.heap.size (1 + n1) q' A' c' ([0] ++ la) SL.out (by omega) W2 (by rw [<- hgo]; exact R.out) (by rw [<- hgo]; exact G.out) O.out hb1)
   clear hW2 hO' hC' CW FW' cc hb1 hgo
   go_wp2_with fail
   rw [HW2.out, HGO.out]
   refine PC.out.mono ?_
   rintro e w3 ⟨rfl, hR3, A3, c3, q3, hG3, hO3, hC3⟩
   have hF3 := F.out.keep hC3 (by
     have h1 := O.out.ne F.out (by decide)
     have h2 := HGO.out
     intro hm
     simp at hm
     rcases hm with hm | hm
     · omega
     · exact h1 hm)
   have C3 := Ad (C.out.trans hC3 (by
     intro y hy
     simp at hy
     rcases hy with hy | hy
     · exact .inr (by have := SW.out; have := HGO.out; omega)
     · exact .inr (by have := (O.out.size y hy).1; have := C1.out.size; omega)))
   have g1 := hF3.cell (j := 1) rfl
   have g2 := hF3.cell (j := 2) rfl
   have g3 := hF3.cell (j := 3) rfl
   clear G R O F C PC e1 e2 e3 HW2
   have G := Ad hG3
   have R := Ad hR3
   have O := Ad hO3
   have F := Ad hF3
   have C := C3
   have N := Ad (show ([0] ++ la ++ Pl.ofBits z 5).length = 1 + n1 + 5 by rw [List.length_append, SL.out, Pl.ofBits_length])
   have SGN := Ad (show w.heap.size ≠ go by have := HLT.out; have := HGO.out; omega)
   have SG := Ad (show w.heap.size <= go by have := SW.out; have := HGO.out; omega)
   clear hG3 hR3 hO3 hF3 hC3 C3
   cases rtr
   · go_wp2_with fail
     have DR2 := Ad (DR.out)
     go_loopw [41] (fun v wr => ∃ k : Nat, k <= z /\ v = .int .i64 k /\ (∃ A c q n, Aside0 (([0] ++ la ++ Pl.ofBits z 5 ++ Pl.byteBits (D.take k)).length = n) /\ Aside0 (Bx wr go 57 (.slice A n c)) /\ Aside0 (Ow Iv wr w1.heap.size q A c ([0] ++ la ++ Pl.ofBits z 5 ++ Pl.byteBits (D.take k)))) /\ Aside0 (Bx wr (go + 1) 26 (.int .i64 0)) /\ Aside0 (Cs wr w.heap.size 49 (frc ⟨id, false, false, (z : Int), d0, d1, d2, d3, d4, d5, d6, d7⟩)) /\ Aside0 (Ch [] w wr)) (fun v _ => z - (intOf v).toNat)
     case atStart => exact ⟨0, by omega, rfl, ⟨_, _, _, _, ⟨by simp only [List.take_zero, Pl.byteBits, List.append_nil]; exact N.out⟩, G, ⟨by simp only [List.take_zero, Pl.byteBits, List.append_nil]; exact O.out⟩⟩, R, F, C⟩
     case round =>
       clear G R O F C N g1 g2 g3
       obtain ⟨k, hk, rfl, ⟨A5, c5, q5, n5, N, G, O⟩, R, F, C⟩ := hrel
       by_cases hlt2 : k < z
       · have hkD : k < D.length := by rw [FD.out]; omega
         have hrd := DR.out wr w.heap.size F.out
         simp only [if_neg (show ¬ (8 = 0) by decide), List.drop_zero, Nat.sub_zero, Nat.add_zero] at hrd
         obtain ⟨gg, oo, ee, hcell⟩ := hrd.u8 k hkD
         obtain ⟨rfl, rfl⟩ : gg = w.heap.size /\ oo = 4 := by simp at ee; exact ⟨ee.1.symm, ee.2.symm⟩
         have hx := FW.out (rd D k) (by have := rd_mem hkD; rwa [HDD.out])
         have HS := Ad (take_rd D k hkD)
         generalize rd D k = x at *
         obtain ⟨xn, rfl⟩ := Int.eq_ofNat_of_zero_le hx.1
         have hx256 : xn < 256 := by omega
         have hn5 : n5 <= 1 + n1 + 5 + 64 := by
           rw [<- N.out, List.length_append, List.length_append, SL.out, Pl.ofBits_length, Pl.byteBits_length, List.length_take]
           have := FD.out
           omega
         have hbb : w1.heap.size <= wr.heap.size := by
           have h1 := HW1G.out
           have h2 := G.out.lt
           omega
         have PC := Ad (put_calls xn 8 8 rfl (by omega) (by decide) (go + 1) go w1.heap.size n5 q5 A5 c5 _ N.out (by omega) wr R.out G.out O.out hbb)
         have k0 : (0 : Int) <= (k : Int) := by omega
         clear ee hrd hbb
         go_wp2_with fail
         refine PC.out.mono ?_
         rintro e w4 ⟨rfl, hR4, A4, c4, q4, hG4, hO4, hC4⟩
         have hF4 := F.out.keep hC4 (by
           have h1 := O.out.ne F.out (by decide)
           intro hm
           simp at hm
           rcases hm with hm | hm
           · exact SGN.out hm
           · exact h1 hm)
         have C4 := Ad (C.out.trans hC4 (by
           intro y hy
           simp at hy
           rcases hy with hy | hy
           · exact .inr (by have := SG.out; omega)
           · exact .inr (by have := (O.out.size y hy).1; have := C1.out.size; omega)))
         have F4 := Ad hF4
         have G4 := Ad hG4
         have R4 := Ad hR4
         have HSB := Ad (show Pl.byteBits (D.take (k + 1)) = Pl.byteBits (D.take k) ++ Pl.ofBits xn 8 by rw [HS.out, Pl.byteBits_snoc]; rfl)
         have O4 := Ad hO4
         rw [List.append_assoc _ (Pl.byteBits (D.take k)), <- HSB.out] at O4
         have N4 := Ad (show ([0] ++ la ++ Pl.ofBits z 5 ++ Pl.byteBits (D.take (k + 1))).length = n5 + 8 by rw [HSB.out, <- List.append_assoc, List.length_append, N.out, Pl.ofBits_length])
         clear hF4 hG4 hR4 hO4 hC4
         go_wp2_with fail
         go_roundw
         case rel => exact ⟨k + 1, by omega, by go_num, ⟨A4, c4, q4, n5 + 8, N4, G4, O4⟩, R4, F4, C4⟩
         case measure => simp [intOf]; omega
       · obtain rfl : k = z := by omega
         have ec := G.out.cell
         have ew := R.out.cell
         go_wp2_with fail
         go_ret2
         refine ⟨A5, c5, q5, n5, rfl, ?_, ?_, C.out⟩
         · rw [HFB.out]; simp only [Bool.false_eq_true, if_false, if_true]; exact N.out.symm
         · rw [HFB.out]; simp only [Bool.false_eq_true, if_false, if_true]; exact O.out.less (by have := C1.out.size; simp at this ⊢; omega)
   ·
     have ec := G.out.cell
     have ew := R.out.cell
     go_wp2_with fail
     go_ret2
     refine ⟨A3, c3, q3, _, rfl, ?_, ?_, C.out⟩
     · rw [HFB.out]; simp only [Bool.false_eq_true, if_false, if_true, List.append_nil]; exact N.out.symm
     · rw [HFB.out]; simp only [Bool.false_eq_true, if_false, if_true, List.append_nil]; exact O.out.less (by have := C1.out.size; omega)
 · go_enter Tryz.func156, Tryz.ntmps156
   go_wp2_with fail
   refine (AC.out _).mono ?_
   rintro e w1 ⟨A1, c1, q1, n1, rfl, hn1, hO1, hC1⟩
   have O1 := Ad hO1
   have N1 := Ad hn1.symm
   have F1 := Ad (HFR.out.on hC1)
   have C1 := Ad (((Ch.refl [] w).alloc _).then hC1)
   have X1 := Ad (lit0 w1)
   have O1' := Ad (O1.out.rd.on ((Ch.refl _ _).alloc (.cells #[.int .i64 0] 3)))
   clear hn1 hO1 hC1
   have hmb : (1 + n1) * Iv.bytes <= 140737488355328 := by have := N1.out; simp [Iv]; omega
   have n32 : n1 <= 32 := by have := N1.out; omega
   go_wp2_with (at_builtin; refine wpList_append_Ow (E := Iv) (l := [0]) rfl (.tmp 20) (.tmp 21) 57 rfl rfl A1 n1 c1 la (by rfl) (by rfl) rfl X1.out O1'.out N1.out hmb (by simp) ?_)
   intro A' c' q' W' hO' hC' _
   have CW : Ch [] w W' := ((C1.out.alloc _).trans hC' (by have := C1.out.size; simp; omega))
   have FW' := F1.out.on (((Ch.refl [] w1).alloc (.cells #[.int .i64 0] 3)))
   have FW' := FW'.keep hC' (by have := F1.out.lt; simp; omega)
   obtain ⟨W2, hW2⟩ : ∃ W2, (W'.alloc (.cells #[.slice A' (1 + n1) c'] 57)).alloc (.cells #[.int .i64 0] 26) = W2 := ⟨_, rfl⟩
   have cc : Ch [] W' W2 := hW2 ▸ ((Ch.refl _ _).alloc _).alloc _
   have G := Ad (show Bx W2 W'.heap.size 57 (.slice A' (1 + n1) c') from hW2 ▸ (Bx.new W' _ 57).keep ((Ch.refl [] _).alloc _) (by simp))
   have R := Ad (show Bx W2 (W'.heap.size + 1) 26 (.int .i64 0) from by have := Bx.new (W'.alloc (.cells #[.slice A' (1 + n1) c'] 57)) (.int .i64 0) 26; rw [World.size_alloc] at this; exact hW2 ▸ this)
   have O := Ad (hO'.on cc)
   have F := Ad (FW'.on cc)
   have C := Ad (CW.then cc)
   have e1 := FW'.cell (j := 1) rfl
   have e2 := FW'.cell (j := 2) rfl
   have e3 := FW'.cell (j := 3) rfl
   have hlt := FW'.lt
   have HLT := Ad hlt
   have HW2 := Ad hW2
   have hb1 : w1.heap.size <= W2.heap.size := Nat.le_trans (by have := hC'.size; simp at this; omega) cc.size
   have HB1 := Ad hb1
   have SW := Ad CW.size
   have HW1 := Ad (show w1.heap.size <= W'.heap.size by have := hC'.size; simp at this; omega)
   have SL := Ad (show ([0] ++ la).length = 1 + n1 by rw [List.length_append, N1.out]; rfl)
   obtain ⟨go, hgo⟩ : ∃ go, W'.heap.size = go := ⟨_, rfl⟩
   have HGO := Ad hgo
   have HW1G := Ad (show w1.heap.size <= go by have := HW1.out; omega)
   have PC := Ad (put_calls z 6 6 rfl (by omega) (by decide) (go + 1) go w1.heap.size (1 + n1) q' A' c' ([0] ++ la) SL.out (by omega) W2 (by rw [<- hgo]; exact R.out) (by rw [<- hgo]; exact G.out) O.out hb1)
   clear hW2 hO' hC' CW FW' cc hb1 hgo
   go_wp2_with fail
   rw [HW2.out, HGO.out]
   refine PC.out.mono ?_
   rintro e w3 ⟨rfl, hR3, A3, c3, q3, hG3, hO3, hC3⟩
   have hF3 := F.out.keep hC3 (by
     have h1 := O.out.ne F.out (by decide)
     have h2 := HGO.out
     intro hm
     simp at hm
     rcases hm with hm | hm
     · omega
     · exact h1 hm)
   have C3 := Ad (C.out.trans hC3 (by
     intro y hy
     simp at hy
     rcases hy with hy | hy
     · exact .inr (by have := SW.out; have := HGO.out; omega)
     · exact .inr (by have := (O.out.size y hy).1; have := C1.out.size; omega)))
   have g1 := hF3.cell (j := 1) rfl
   have g2 := hF3.cell (j := 2) rfl
   have g3 := hF3.cell (j := 3) rfl
   clear G R O F C PC e1 e2 e3 HW2
   have G := Ad hG3
   have R := Ad hR3
   have O := Ad hO3
   have F := Ad hF3
   have C := C3
   have N := Ad (show ([0] ++ la ++ Pl.ofBits z 6).length = 1 + n1 + 6 by rw [List.length_append, SL.out, Pl.ofBits_length])
   have SGN := Ad (show w.heap.size ≠ go by have := HLT.out; have := HGO.out; omega)
   have SG := Ad (show w.heap.size <= go by have := SW.out; have := HGO.out; omega)
   clear hG3 hR3 hO3 hF3 hC3 C3
   cases rtr
   · go_wp2_with fail
     have DR2 := Ad (DR.out)
     go_loopw [41] (fun v wr => ∃ k : Nat, k <= z /\ v = .int .i64 k /\ (∃ A c q n, Aside0 (([0] ++ la ++ Pl.ofBits z 6 ++ Pl.byteBits (D.take k)).length = n) /\ Aside0 (Bx wr go 57 (.slice A n c)) /\ Aside0 (Ow Iv wr w1.heap.size q A c ([0] ++ la ++ Pl.ofBits z 6 ++ Pl.byteBits (D.take k)))) /\ Aside0 (Bx wr (go + 1) 26 (.int .i64 0)) /\ Aside0 (Cs wr w.heap.size 49 (frc ⟨id, true, false, (z : Int), d0, d1, d2, d3, d4, d5, d6, d7⟩)) /\ Aside0 (Ch [] w wr)) (fun v _ => z - (intOf v).toNat)
     case atStart => exact ⟨0, by omega, rfl, ⟨_, _, _, _, ⟨by simp only [List.take_zero, Pl.byteBits, List.append_nil]; exact N.out⟩, G, ⟨by simp only [List.take_zero, Pl.byteBits, List.append_nil]; exact O.out⟩⟩, R, F, C⟩
     case round =>
       clear G R O F C N g1 g2 g3
       obtain ⟨k, hk, rfl, ⟨A5, c5, q5, n5, N, G, O⟩, R, F, C⟩ := hrel
       by_cases hlt2 : k < z
       · have hkD : k < D.length := by rw [FD.out]; omega
         have hrd := DR.out wr w.heap.size F.out
         simp only [if_neg (show ¬ (8 = 0) by decide), List.drop_zero, Nat.sub_zero, Nat.add_zero] at hrd
         obtain ⟨gg, oo, ee, hcell⟩ := hrd.u8 k hkD
         obtain ⟨rfl, rfl⟩ : gg = w.heap.size /\ oo = 4 := by simp at ee; exact ⟨ee.1.symm, ee.2.symm⟩
         have hx := FW.out (rd D k) (by have := rd_mem hkD; rwa [HDD.out])
         have HS := Ad (take_rd D k hkD)
         generalize rd D k = x at *
         obtain ⟨xn, rfl⟩ := Int.eq_ofNat_of_zero_le hx.1
         have hx256 : xn < 256 := by omega
         have hn5 : n5 <= 1 + n1 + 6 + 64 := by
           rw [<- N.out, List.length_append, List.length_append, SL.out, Pl.ofBits_length, Pl.byteBits_length, List.length_take]
           have := FD.out
           omega
         have hbb : w1.heap.size <= wr.heap.size := by
           have h1 := HW1G.out
           have h2 := G.out.lt
           omega
         have PC := Ad (put_calls xn 8 8 rfl (by omega) (by decide) (go + 1) go w1.heap.size n5 q5 A5 c5 _ N.out (by omega) wr R.out G.out O.out hbb)
         have k0 : (0 : Int) <= (k : Int) := by omega
         clear ee hrd hbb
         go_wp2_with fail
         refine PC.out.mono ?_
         rintro e w4 ⟨rfl, hR4, A4, c4, q4, hG4, hO4, hC4⟩
         have hF4 := F.out.keep hC4 (by
           have h1 := O.out.ne F.out (by decide)
           intro hm
           simp at hm
           rcases hm with hm | hm
           · exact SGN.out hm
           · exact h1 hm)
         have C4 := Ad (C.out.trans hC4 (by
           intro y hy
           simp at hy
           rcases hy with hy | hy
           · exact .inr (by have := SG.out; omega)
           · exact .inr (by have := (O.out.size y hy).1; have := C1.out.size; omega)))
         have F4 := Ad hF4
         have G4 := Ad hG4
         have R4 := Ad hR4
         have HSB := Ad (show Pl.byteBits (D.take (k + 1)) = Pl.byteBits (D.take k) ++ Pl.ofBits xn 8 by rw [HS.out, Pl.byteBits_snoc]; rfl)
         have O4 := Ad hO4
         rw [List.append_assoc _ (Pl.byteBits (D.take k)), <- HSB.out] at O4
         have N4 := Ad (show ([0] ++ la ++ Pl.ofBits z 6 ++ Pl.byteBits (D.take (k + 1))).length = n5 + 8 by rw [HSB.out, <- List.append_assoc, List.length_append, N.out, Pl.ofBits_length])
         clear hF4 hG4 hR4 hO4 hC4
         go_wp2_with fail
         go_roundw
         case rel => exact ⟨k + 1, by omega, by go_num, ⟨A4, c4, q4, n5 + 8, N4, G4, O4⟩, R4, F4, C4⟩
         case measure => simp [intOf]; omega
       · obtain rfl : k = z := by omega
         have ec := G.out.cell
         have ew := R.out.cell
         go_wp2_with fail
         go_ret2
         refine ⟨A5, c5, q5, n5, rfl, ?_, ?_, C.out⟩
         · rw [HFB.out]; simp only [Bool.false_eq_true, if_false, if_true]; exact N.out.symm
         · rw [HFB.out]; simp only [Bool.false_eq_true, if_false, if_true]; exact O.out.less (by have := C1.out.size; simp at this ⊢; omega)
   ·
     have ec := G.out.cell
     have ew := R.out.cell
     go_wp2_with fail
     go_ret2
     refine ⟨A3, c3, q3, _, rfl, ?_, ?_, C.out⟩
     · rw [HFB.out]; simp only [Bool.false_eq_true, if_false, if_true, List.append_nil]; exact N.out.symm
     · rw [HFB.out]; simp only [Bool.false_eq_true, if_false, if_true, List.append_nil]; exact O.out.less (by have := C1.out.size; omega)
theorem fbits_length (f : Pl.Fr) (hok : f.ok = true) : (Pl.fbits f).length <= 103 /\ 19 <= (Pl.fbits f).length := by
 obtain ⟨h1, h2, h3, h4, h5⟩ := (Pl.Fr.ok_iff f).1 hok
 unfold Pl.fbits Pl.front
 have := Pl_arb_length f
 have hd : f.data.length = 8 := rfl
 cases hx : f.ext <;> cases hr : f.rtr <;> rw [hx] at this <;> simp [Pl.ofBits_length, Pl.byteBits_length, this, hd] <;> omega
set_option maxRecDepth 100000 in
theorem all_calls (f : Pl.Fr) (hw : f.wf) (hok : f.ok = true) (w : World) :
   Calls Tryz.prog 141 #[frv f] w fun e w' => ∃ A c q n, e = .returned (.tuple #[.slice A n c, .int .i64 0]) /\ n = (Pl.fall f).length /\ Ow Iv w' w.heap.size q A c (Pl.fall f) /\ Ch [] w w' := by
 have BC := Ad (bits_calls f hw hok)
 obtain ⟨l103, l19⟩ := fbits_length f hok
 have LV := Ad (fbits_lv f)
 have HA := Ad (show Pl.fall f = Pl.fbits f ++ Pl.ofBits (Pl.crc (Pl.fbits f) 0) 15 ++ List.replicate 10 1 from rfl)
 have SL := Ad (Pl.crc_lt (Pl.fbits f) 0 (by decide))
 generalize Pl.fbits f = lb at *
 obtain ⟨id, ext, rtr, len, d0, d1, d2, d3, d4, d5, d6, d7⟩ := f
 clear hw hok
 unfold frv at *
 simp only [] at BC ⊢
 go_enter Tryz.func141, Tryz.ntmps141
 go_wp2_with fail
 refine (BC.out _).mono ?_
 rintro e w1 ⟨A1, c1, q1, n1, rfl, hn1, hO1, hC1⟩
 have O1 := Ad hO1
 have N1 := Ad hn1.symm
 have C1 := Ad (((Ch.refl [] w).alloc _).then hC1)
 clear hn1 hO1 hC1
 go_wp2_with fail
 refine (csum_calls A1 c1 n1 lb N1.out _ (O1.out.ls LV.out)).mono ?_
 rintro e w2 ⟨rfl, hC2⟩
 have O2 := Ad (O1.out.on hC2)
 have C2 := Ad (C1.out.then hC2)
 clear hC2 O1
 have HS := Ad (show Pl.crc lb 0 = Pl.crc lb 0 from rfl)
 obtain ⟨s, hs⟩ : ∃ s, Pl.crc lb 0 = s := ⟨_, rfl⟩
 rw [hs] at HA SL ⊢
 clear HS
 go_wp2_with fail
 refine (cbits_calls s SL.out _).mono ?_
 rintro e w3 ⟨A3, c3, q3, rfl, hO3, hC3⟩
 have O23 := Ad (O2.out.on hC3)
 have O3 := Ad hO3
 have C3 := Ad (C2.out.then hC3)
 clear hO3 hC3 O2 C2 hs
 have X4 := Ad (show Ow Iv (w3.alloc (.cells #[.int .i64 1] 3)) w3.heap.size (some w3.heap.size) (some ⟨w3.heap.size, 0, none⟩) 1 [1] from Ow.lit Iv w3 [1] #[.int .i64 1] rfl (by decide))
 go_wp2_with fail
 refine (repeat_calls _ _ _ X4.out.rd).mono ?_
 rintro e w5 ⟨A5, c5, q5, rfl, hO5, hC5⟩
 have cc := ((Ch.refl [] w3).alloc (.cells #[.int .i64 1] 3)).then hC5
 have O25 := Ad (O23.out.on cc)
 have O35 := Ad (O3.out.on cc)
 have O5 := Ad hO5
 have C5 := Ad (C3.out.then cc)
 clear cc hO5 hC5 O23 O3 X4
 obtain ⟨w6, hw6⟩ : ∃ w6, w5.alloc (.cells #[.slice A1 n1 c1, .slice A3 15 c3, .slice A5 10 c5] 57) = w6 := ⟨_, rfl⟩
 have C6 : Ch [] w5 w6 := hw6 ▸ (Ch.refl _ _).alloc _
 have LX : Cs w6 w5.heap.size 57 [.slice A1 n1 c1, .slice A3 15 c3, .slice A5 10 c5] := hw6 ▸ Cs.new w5 _ 57
 have SL6 := Ad (show Sls Iv w6 (some ⟨w5.heap.size, 0, none⟩) [⟨A1, c1, lb⟩, ⟨A3, c3, Pl.ofBits s 15⟩, ⟨A5, c5, List.replicate 10 1⟩] from ⟨fun k x hx => by
   refine ⟨_, _, rfl, ?_⟩
   match k, hx with
   | 0, hx =>
     obtain rfl := Option.some.inj hx
     exact ⟨by have := LX.cell (j := 0) rfl; rwa [N1.out], (O25.out.on C6).rd⟩
   | 1, hx =>
     obtain rfl := Option.some.inj hx
     exact ⟨by have := LX.cell (j := 1) rfl; rwa [Pl.ofBits_length], (O35.out.on C6).rd⟩
   | 2, hx =>
     obtain rfl := Option.some.inj hx
     exact ⟨LX.cell (j := 2) rfl, (O5.out.on C6).rd⟩⟩)
 have CT := Ad (C5.out.then C6)
 have HW := Ad hw6
 have HC := Ad (show cat [⟨A1, c1, lb⟩, ⟨A3, c3, Pl.ofBits s 15⟩, ⟨A5, c5, List.replicate 10 1⟩] = lb ++ Pl.ofBits s 15 ++ List.replicate 10 1 by simp [cat])
 have CL := Ad (show (cat [⟨A1, c1, lb⟩, ⟨A3, c3, Pl.ofBits s 15⟩, ⟨A5, c5, List.replicate 10 1⟩]).length = n1 + 25 by rw [HC.out]; simp [Pl.ofBits_length, N1.out])
 have hb6 : (n1 + 25) * Iv.bytes <= 140737488355328 := by have := N1.out; simp [Iv]; omega
 clear hw6 C6 LX
 go_wp2_with fail
 rw [HW.out]
 refine (concat_int _ 3 3 _ rfl (by rw [CL.out]; omega) (by rw [CL.out]; exact hb6) (by decide) _ SL6.out).mono ?_
 rintro e w7 ⟨A7, c7, q7, n7, rfl, hn7, hO7, hC7⟩
 have O7 := Ad hO7
 have N7 := Ad hn7
 have C7 := Ad (CT.out.then hC7)
 clear hO7 hC7 hn7
 go_wp2_with fail
 go_ret2
 refine ⟨A7, c7, q7, n7, rfl, ?_, ?_, C7.out⟩
 · rw [HA.out, N7.out, HC.out]
 · rw [HA.out, <- HC.out]
   exact O7.out.less CT.out.size
theorem all_range_int : ∀ (xs ys : List Int), xs.length = ys.length -> ((List.range xs.length).all fun i => xs.getD i 0 == ys.getD i 0) = (xs == ys)
 | [], [], _ => rfl
 | x :: xs, y :: ys, h => by
   have ih := all_range_int xs ys (by simpa using h)
   rw [List.length_cons, List.range_succ_eq_map, List.all_cons, List.all_map]
   simp only [List.getD_cons_zero, Function.comp_def, List.getD_cons_succ, ih]
   simp [List.cons_beq_cons]
 | [], _ :: _, h => by simp at h
 | _ :: _, [], h => by simp at h
theorem run_equalIn_ints {P : Program} (w : World) (d : Nat) (t e : TypeId) (n : Nat) (k : IntKind) (ht : P.underlying t = some (.array n e)) (he : P.underlying e = some (.int k)) (hsz : ∀ w, (sizeOf e).run P w = .ok 1 w)
   (xs ys : List Int) (hx : xs.length = n) (hy : ys.length = n) :
   (Op.equalIn (d + 2) t (.agg (xs.map (Value.int k)).toArray) (.agg (ys.map (Value.int k)).toArray)).run P w = .ok (xs == ys) w := by
 rw [<- all_range_int xs ys (hx.trans hy.symm), hx, List.range_eq_range', Op.equalIn]
 simp only [Sem.run_bind, run_underlying ht, Result.andThen_ok, hsz, Std.Legacy.Range.forIn_eq_forIn_range', Std.Legacy.Range.size, Nat.sub_zero, Nat.add_sub_cancel, Nat.div_one]
 have hl : ∀ i ∈ List.range' 0 n 1, i < n := fun i hi => by simpa using (List.mem_range'_1.1 hi).2
 generalize List.range' 0 n 1 = l at hl ⊢
 induction l with
 | nil => simp
 | cons i l ih =>
   have hi : i < n := hl i (by simp)
   have px : (part e (xs.map (Value.int k)).toArray (i * 1)).run P w = .ok (.int k (xs.getD i 0)) w := by
     simp [part, isAgg, run_underlying he, List.getD, List.getElem?_eq_getElem (show i < xs.length by omega)]
   have py : (part e (ys.map (Value.int k)).toArray (i * 1)).run P w = .ok (.int k (ys.getD i 0)) w := by
     simp [part, isAgg, run_underlying he, List.getD, List.getElem?_eq_getElem (show i < ys.length by omega)]
   have pe : (Op.equalIn (d + 1) e (.int k (xs.getD i 0)) (.int k (ys.getD i 0))).run P w = .ok (xs.getD i 0 == ys.getD i 0) w := by
     rw [run_equalIn_int w d e k k _ _ he]
   simp only [List.forIn_cons, Sem.run_bind, px, py, pe, Result.andThen_ok, List.all_cons]
   cases hb : (xs.getD i 0 == ys.getD i 0)
   · simp
   · simp only [Bool.not_true, Bool.false_eq_true, if_false, Sem.run_pure, Result.andThen_ok, Bool.true_and]
     exact ih fun j hj => hl j (by simp [hj])
theorem eqf_cons {P : Program} {d : Nat} {xs ys : Array Value} {f : Field} {fs : List Field} {a b : Value} {r s : Bool} {w : World} (hn : (f.name == "_") = false) (ha : (part f.type xs f.offset).run P w = .ok a w) (hb : (part f.type ys f.offset).run P w = .ok b w) (he : (Op.equalIn d f.type a b).run P w = .ok r w) (hr : (Op.eqFields d xs ys fs).run P w = .ok s w) : (Op.eqFields d xs ys (f :: fs)).run P w = .ok (r && s) w := by
 have hn' : f.name ≠ "_" := by simpa using hn
 rw [Op.eqFields]
 simp only [if_pos hn', Sem.run_bind, ha, hb, he, Result.andThen_ok]
 cases r
 · simp
 · simpa using hr
theorem eqf_nil {P : Program} {d : Nat} {xs ys : Array Value} {w : World} : (Op.eqFields d xs ys []).run P w = .ok true w := by simp [Op.eqFields]
def fl49 : List Field := [{ name := "ID", type := 3, offset := 0, embedded := false, tag := "", pkgPath := "", byteOffset := 0 }, { name := "Ext", type := 4, offset := 1, embedded := false, tag := "", pkgPath := "", byteOffset := 8 }, { name := "Rtr", type := 4, offset := 2, embedded := false, tag := "", pkgPath := "", byteOffset := 9 }, { name := "Len", type := 3, offset := 3, embedded := false, tag := "", pkgPath := "", byteOffset := 16 }, { name := "Data", type := 47, offset := 4, embedded := false, tag := "", pkgPath := "", byteOffset := 24 }]
theorem fields49 : (Tryz.prog.fieldsOf 49).toList = fl49 := by
 unfold Program.fieldsOf
 rw [Tryz.underlying49]
 rfl
theorem underlying49' : Tryz.prog.underlying 49 = some (.struct (Tryz.prog.fieldsOf 49)) := by
 unfold Program.fieldsOf
 rw [Tryz.underlying49]
theorem held49 : Tryz.prog.stoodInHeld 49 = false := by kernel_rfl
theorem run_size {P : Program} {t : TypeId} {n : Nat} (h : (P.info? t).map (·.size) = some n) (w : World) : (sizeOf t).run P w = .ok n w := by
 cases hi : P.info? t with
 | none => simp [hi] at h
 | some i =>
   simp [hi] at h
   subst h
   simp [sizeOf, typeInfo, hi, run_program]
theorem run_part_agg {P : Program} {t : TypeId} {xs : Array Value} {o n : Nat} (h : (P.info? t).map (·.size) = some n) {d : TypeDesc} (hu : P.underlying t = some d) (ha : (match d with | .struct _ | .array _ _ => true | _ => false) = true) (w : World) : (part t xs o).run P w = .ok (.agg (xs.extract o (o + n))) w := by
 cases d <;> simp at ha <;> simp [part, isAgg, run_underlying hu, run_size h]
set_option maxRecDepth 4000 in
theorem eq_frame (w : World) (f g : Pl.Fr) : (binOp .eql 49 (.agg (frc f).toArray) (.agg (frc g).toArray)).run Tryz.prog w = .ok (.bool (decide (f = g))) w := by
 have E : (Op.equalIn 10000 49 (.agg (frc f).toArray) (.agg (frc g).toArray)).run Tryz.prog w = .ok (f.id == g.id && (f.ext == g.ext && (f.rtr == g.rtr && (f.len == g.len && (([f.d0, f.d1, f.d2, f.d3, f.d4, f.d5, f.d6, f.d7] == [g.d0, g.d1, g.d2, g.d3, g.d4, g.d5, g.d6, g.d7]) && true))))) w := by
   rw [run_equalIn_struct w 9999 49 _ _ underlying49' held49, fields49]
   unfold fl49
   refine eqf_cons (by rfl) (a := .int .i64 f.id) (b := .int .i64 g.id) (by simp [part, isAgg, run_underlying Tryz.underlying3, frc]) (by simp [part, isAgg, run_underlying Tryz.underlying3, frc]) (by rw [run_equalIn_int w 9998 _ _ _ _ _ Tryz.underlying3]) ?_
   refine eqf_cons (by rfl) (a := .bool f.ext) (b := .bool g.ext) (by simp [part, isAgg, run_underlying Tryz.underlying4, frc]) (by simp [part, isAgg, run_underlying Tryz.underlying4, frc]) (by rw [run_equalIn_bool' w 9998 _ _ _ Tryz.underlying4]) ?_
   refine eqf_cons (by rfl) (a := .bool f.rtr) (b := .bool g.rtr) (by simp [part, isAgg, run_underlying Tryz.underlying4, frc]) (by simp [part, isAgg, run_underlying Tryz.underlying4, frc]) (by rw [run_equalIn_bool' w 9998 _ _ _ Tryz.underlying4]) ?_
   refine eqf_cons (by rfl) (a := .int .i64 f.len) (b := .int .i64 g.len) (by simp [part, isAgg, run_underlying Tryz.underlying3, frc]) (by simp [part, isAgg, run_underlying Tryz.underlying3, frc]) (by rw [run_equalIn_int w 9998 _ _ _ _ _ Tryz.underlying3]) ?_
   refine eqf_cons (by rfl) (a := .agg (([f.d0, f.d1, f.d2, f.d3, f.d4, f.d5, f.d6, f.d7].map (Value.int .u8)).toArray)) (b := .agg (([g.d0, g.d1, g.d2, g.d3, g.d4, g.d5, g.d6, g.d7].map (Value.int .u8)).toArray)) ?_ ?_ (run_equalIn_ints w 9997 47 5 8 .u8 Tryz.underlying47 Tryz.underlying5 (run_size size5) _ _ rfl rfl) eqf_nil
   · exact run_part_agg size47 Tryz.underlying47 rfl w
   · exact run_part_agg size47 Tryz.underlying47 rfl w
 rw [run_eql_struct, E]
 simp only [Result.andThen_ok]
 have D : (f.id == g.id && (f.ext == g.ext && (f.rtr == g.rtr && (f.len == g.len && (([f.d0, f.d1, f.d2, f.d3, f.d4, f.d5, f.d6, f.d7] == [g.d0, g.d1, g.d2, g.d3, g.d4, g.d5, g.d6, g.d7]) && true))))) = decide (f = g) := by
   clear E
   cases f; cases g
   rw [Bool.eq_iff_iff]
   simp [and_assoc]
 rw [D]
def Oks (l : List Pl.Fr) : Prop := ∀ f ∈ l, f.wf /\ f.ok = true
theorem Rd.range {α : Type} {E : El α} {w : World} {A : Option Addr} {c : Nat} {l : List α} (h : Rd E w A c l) {k : Nat} {x : α} (hk : l[k]? = some x) : ∃ g o, A = some ⟨g, o, none⟩ /\ w.rangeAt g (o + k * E.sz) (E.enc x) := by
 obtain ⟨g, o, e, hc⟩ := h.cells hk
 exact ⟨g, o, e, fun j v hv => hc j v hv⟩
theorem ahead_calls' (f g : Pl.Fr) (hf : f.wf) (hg : g.wf) (hf' : f.ok = true) (hg' : g.ok = true) (gf : Nat) (w : World) (hb : Cs w gf 49 (frc f)) :
   Calls Tryz.prog 117 #[frv g, .pointer (some ⟨gf, 0, none⟩)] w fun e w' => e = .returned (.bool (Pl.less f g)) /\ Ch [] w w' := by
 have LC := Ad (less_calls f g hf hg hf' hg')
 have HB := Ad (hb.on ((Ch.refl [] w).alloc (.cells (frc g).toArray 49)))
 clear hb hf hg hf' hg'
 generalize Pl.less f g = b at *
 obtain ⟨id, ext, rtr, len, d0, d1, d2, d3, d4, d5, d6, d7⟩ := g
 unfold frv at *
 simp only [] at LC ⊢
 go_enter Tryz.func117, Tryz.ntmps117
 go_wp2_with (refine wpList_load_Cs rfl 49 (.tmp 1) rfl 0 (frc f) (by rfl) HB.out (fun j v hv => by rwa [Nat.zero_add]) Tryz.underlying49 rfl size49 ?_)
 refine (LC.out _).mono ?_
 rintro e w' ⟨rfl, hC⟩
 have C := Ad (((Ch.refl [] w).alloc _).then hC)
 clear hC
 go_wp2_with fail
 go_ret
 exact ⟨rfl, C.out⟩
theorem indexF_calls (f : Pl.Fr) (hf : f.wf) (hf' : f.ok = true) (gf : Nat) (A : Option Addr) (c n : Nat) (l : List Pl.Fr) (hn : l.length = n) (hl : Oks l) (w : World) (h : Rd Fv w A c l) (hb : Cs w gf 49 (frc f)) :
   Calls Tryz.prog 119 #[.slice A n c, .func (.func 117) #[] #[.pointer (some ⟨gf, 0, none⟩)]] w fun e w' => e = .returned (.int .i64 (Pl.idx (Pl.less f) l 0)) /\ Ch [] w w' := by
 have hlen := h.len63 hn
 subst hn
 have H := Ad h
 have HB := Ad hb
 clear h hb
 go_enter Tryz.func119, Tryz.ntmps119
 go_wp2_with fail
 go_loopw [8] (fun v wr => ∃ k : Nat, k <= l.length /\ v = .int .i64 k /\ Aside0 (Pl.idx (Pl.less f) l 0 = Pl.idx (Pl.less f) (l.drop k) k) /\ Aside0 (Ch [] w wr)) (fun v _ => l.length - (intOf v).toNat)
 case atStart => exact ⟨0, by omega, rfl, ⟨rfl⟩, ⟨Ch.refl _ _⟩⟩
 case round =>
   obtain ⟨k, hk, rfl, HI, HC⟩ := hrel
   by_cases hlt : k < l.length
   · obtain ⟨x, hx⟩ : ∃ x, l[k]? = some x := ⟨_, List.getElem?_eq_getElem hlt⟩
     have hxo := hl x (List.mem_of_getElem? hx)
     obtain ⟨g, o, rfl, hr⟩ := (H.out.on HC.out).range hx
     have R := Ad hr
     have AC := Ad (ahead_calls' f x hf hxo.1 hf' hxo.2 gf wr (HB.out.on HC.out))
     have HD := Ad (show l.drop k = x :: l.drop (k + 1) by rw [List.drop_eq_getElem_cons hlt]; congr 1; exact (List.getElem?_eq_some_iff.1 hx).2)
     clear hr hx hxo
     go_wp2_with (refine wpList_load_mid rfl 49 (.tmp 14) rfl g (o + k * 12) (by rfl) (frc x) _ R.out Tryz.underlying49 rfl size49 ?_)
     cases hp : Pl.less f x
     · rw [hp] at AC
       refine AC.out.mono ?_
       rintro e w2 ⟨rfl, hC2⟩
       have C2 := Ad (HC.out.then hC2)
       have HI2 := Ad (show Pl.idx (Pl.less f) l 0 = Pl.idx (Pl.less f) (l.drop (k + 1)) (k + 1) by rw [HI.out, HD.out, Pl.idx, hp]; rfl)
       clear hC2
       go_wp2_with fail
       go_roundw
       case rel => exact ⟨k + 1, by omega, by go_num, HI2, C2⟩
       case measure => simp [intOf]; omega
     · rw [hp] at AC
       refine AC.out.mono ?_
       rintro e w2 ⟨rfl, hC2⟩
       have C2 := Ad (HC.out.then hC2)
       have HI2 := Ad (show Pl.idx (Pl.less f) l 0 = (k : Int) by rw [HI.out, HD.out, Pl.idx, hp]; rfl)
       clear hC2
       go_wp2_with fail
       go_ret
       exact ⟨by rw [HI2.out]; rfl, C2.out⟩
   · have HI2 := Ad (show Pl.idx (Pl.less f) l 0 = -1 by rw [HI.out, List.drop_eq_nil_of_le (by omega)]; rfl)
     go_wp2_with fail
     go_ret
     exact ⟨by rw [HI2.out]; rfl, HC.out⟩
theorem cells12 {W : World} {g o : Nat} {f : Pl.Fr} (h : ∀ j v, (frc f)[j]? = some v -> W.cell? ⟨g, o + j, none⟩ = some v) :
   W.cell? ⟨g, o, none⟩ = some (.int .i64 f.id) /\ W.cell? ⟨g, o + 1, none⟩ = some (.bool f.ext) /\ W.cell? ⟨g, o + 2, none⟩ = some (.bool f.rtr) /\ W.cell? ⟨g, o + 3, none⟩ = some (.int .i64 f.len) /\ W.cell? ⟨g, o + 4, none⟩ = some (.int .u8 f.d0) /\ W.cell? ⟨g, o + 5, none⟩ = some (.int .u8 f.d1) /\ W.cell? ⟨g, o + 6, none⟩ = some (.int .u8 f.d2) /\ W.cell? ⟨g, o + 7, none⟩ = some (.int .u8 f.d3) /\ W.cell? ⟨g, o + 8, none⟩ = some (.int .u8 f.d4) /\ W.cell? ⟨g, o + 9, none⟩ = some (.int .u8 f.d5) /\ W.cell? ⟨g, o + 10, none⟩ = some (.int .u8 f.d6) /\ W.cell? ⟨g, o + 11, none⟩ = some (.int .u8 f.d7) :=
 ⟨h 0 _ rfl, h 1 _ rfl, h 2 _ rfl, h 3 _ rfl, h 4 _ rfl, h 5 _ rfl, h 6 _ rfl, h 7 _ rfl, h 8 _ rfl, h 9 _ rfl, h 10 _ rfl, h 11 _ rfl⟩
theorem index_frame (f : Pl.Fr) (A : Option Addr) (c n : Nat) (l : List Pl.Fr) (hn : l.length = n) (w : World) (h : Rd Fv w A c l) :
   Calls Tryz.prog 176 #[.slice A n c, frv f] w fun e w' => e = .returned (.int .i64 (Pl.idx (fun x => decide (f = x)) l 0)) /\ Ch [] w w' := by
 have hlen := h.len63 hn
 subst hn
 have H := Ad h
 clear h
 have HF := Ad (Cs.new w (frc f) 49)
 unfold frv
 go_enter Tryz.func176, Tryz.ntmps176
 go_wp2_with fail
 go_loopw [8] (fun v wr => ∃ k : Nat, k <= l.length /\ v = .int .i64 k /\ Aside0 (Pl.idx (fun x => decide (f = x)) l 0 = Pl.idx (fun x => decide (f = x)) (l.drop k) k) /\ Aside0 (Cs wr w.heap.size 49 (frc f)) /\ Aside0 (Ch [] w wr)) (fun v _ => l.length - (intOf v).toNat)
 case atStart => exact ⟨0, by omega, rfl, ⟨rfl⟩, HF, ⟨(Ch.refl _ _).alloc _⟩⟩
 case round =>
   obtain ⟨k, hk, rfl, HI, HF, HC⟩ := hrel
   by_cases hlt : k < l.length
   · obtain ⟨x, hx⟩ : ∃ x, l[k]? = some x := ⟨_, List.getElem?_eq_getElem hlt⟩
     obtain ⟨g, o, rfl, hr⟩ := (H.out.on HC.out).range hx
     have R := Ad hr
     have HD := Ad (show l.drop k = x :: l.drop (k + 1) by rw [List.drop_eq_getElem_cons hlt]; congr 1; exact (List.getElem?_eq_some_iff.1 hx).2)
     have k0 : (0 : Int) <= (k : Int) := by omega
     have k1 : (k : Int) < (l.length : Int) := by omega
     obtain ⟨p0, p1, p2, p3, p4, p5, p6, p7, p8, p9, p10, p11⟩ := cells12 (o := o + k * 12) (f := x) hr
     obtain ⟨q0, q1, q2, q3, q4, q5, q6, q7, q8, q9, q10, q11⟩ := cells12 (o := 0) (f := f) (fun j v hv => by rw [Nat.zero_add]; exact HF.out.cell hv)
     have E3 := fun w => eq_frame w f x
     generalize hd : decide (f = x) = d at E3
     have HP := Ad hd
     simp only [frc] at E3
     clear hr hx hd
     go_wp2_with fail
     go_quiet (fail)
     clear p0 p1 p2 p3 p4 p5 p6 p7 p8 p9 p10 p11 q0 q1 q2 q3 q4 q5 q6 q7 q8 q9 q10 q11 E3
     cases d
     · have HI2 := Ad (show Pl.idx (fun x => decide (f = x)) l 0 = Pl.idx (fun x => decide (f = x)) (l.drop (k + 1)) (k + 1) by rw [HI.out, HD.out, Pl.idx, HP.out]; rfl)
       go_wp2_with fail
       go_roundw
       case rel => exact ⟨k + 1, by omega, by go_num, HI2, ⟨by simpa [Cs] using HF.out⟩, ⟨HC.out.drewN _⟩⟩
       case measure => simp [intOf]; omega
     · have HI2 := Ad (show Pl.idx (fun x => decide (f = x)) l 0 = (k : Int) by rw [HI.out, HD.out, Pl.idx, HP.out]; rfl)
       go_wp2_with fail
       go_ret
       exact ⟨by rw [HI2.out]; rfl, HC.out.drewN _⟩
   · have HI2 := Ad (show Pl.idx (fun x => decide (f = x)) l 0 = -1 by rw [HI.out, List.drop_eq_nil_of_le (by omega)]; rfl)
     go_wp2_with fail
     go_ret
     exact ⟨by rw [HI2.out]; rfl, HC.out⟩
section
section
variable {α : Type} {E : El α}
theorem Ow.cs {w : World} {b g c : Nat} {A : Option Addr} {l : List α} (h : Ow E w b (some g) A c l) : ∃ cur, Cs w g E.t cur /\ A = some ⟨g, 0, none⟩ /\ b <= g /\ l.length <= c /\ c * E.sz <= cur.length /\ c <= maxLen /\ cur.take (l.length * E.sz) = E.flat l := by
 rcases h.lies with ⟨_, _, _, h⟩ | ⟨g', cur, e, rfl, h1, h2, h3, h4, h5, h6⟩
 · cases h
 · cases e
   exact ⟨cur.toList, by simpa [Cs] using h2, rfl, h1, h3, by simpa using h4, h5, h6⟩
theorem Ow.of {w : World} {b g c : Nat} {cur : List Value} {l : List α} (h : Cs w g E.t cur) (hb : b <= g) (h1 : l.length <= c) (h2 : c * E.sz <= cur.length) (h3 : c <= maxLen) (h4 : cur.take (l.length * E.sz) = E.flat l) : Ow E w b (some g) (some ⟨g, 0, none⟩) c l :=
 ⟨.inr ⟨g, cur.toArray, rfl, rfl, hb, h, h1, by simpa using h2, h3, by simpa using h4⟩⟩
end
theorem run_append_zeros_gen {α : Type} {E : El α} {W : World} {A : Option Addr} {c : Nat} {l : List α} (h : Rd E W A c l) (k : Nat) (h0 : 0 < k) (hg : c < l.length + k) (hl : (l.length + k) * E.bytes <= 140737488355328) (ty : TypeId) :
   ∃ c' zs W', (Builtin.append_ #[E.s, 3] ty #[.slice A l.length c, .int .i64 k]).run Tryz.prog W = .ok (.slice (some ⟨W.heap.size, 0, none⟩) (l.length + k) c') W' /\ l.length + k <= c' /\ c' <= maxLen /\ Cs W' W.heap.size E.t (E.flat l ++ zs) /\ zs.length = (c' - l.length) * E.sz /\ Ch [] W W' := by
 obtain ⟨i0, hi, hzz⟩ := Option.map_eq_some_iff.1 E.info
 simp only [Prod.mk.injEq] at hzz
 obtain ⟨hz0, hz1, hz2⟩ := hzz
 have hbig : l.length + k <= 140737488355328 := Nat.le_trans (Nat.le_mul_of_pos_right _ E.by0) hl
 have hlm : l.length + k <= maxLen := by unfold maxLen; omega
 have hold : (Builtin.firstCells i0.size l.length (.slice A l.length c)).run Tryz.prog W.drew = .ok (E.flat l).toArray W.drew := by
   rcases Nat.eq_zero_or_pos l.length with h0 | h0
   · obtain rfl : l = [] := List.eq_nil_of_length_eq_zero h0
     cases A <;> simp [Builtin.firstCells, loadCells, loadCellsFrom, El.flat]
   · obtain ⟨gx, ox, rfl, _⟩ := h.at_ h0
     exact run_firstCells_some (P := Tryz.prog) W.drew i0.size l.length _ _ _ (E.flat l) (by rw [El.flat_length, hz1]) (h.drew.flat rfl)
 have hk := Nat.mul_le_mul_right E.bytes (show k <= l.length + k by omega)
 have hr := Lib.run_append_grow_zeros (P := Tryz.prog) W E.s 3 ty E.t i0 E.zero .i64 .i64 E.und Tryz.underlying3 hi hz0 A l.length c (E.flat l) hold k h0 (by rw [hz1]; exact E.sz0) hg (by omega) (by rw [hz2]; omega) (growslice_fits (by omega) (by rw [hz2]; omega))
 have hge := grownCap_ge W (l.length + k) c E.t
 have hcm : grownCap W (l.length + k) c E.t <= maxLen := grownCap_le_maxLen W (l.length + k) c E.t hlm
 refine ⟨_, (Builtin.zeroCells E.zero.cells k ++ Builtin.zeroCells E.zero.cells (grownCap W (l.length + k) c E.t - (l.length + k))).toList, _, hr, hge, hcm, ?_, ?_, (Ch.refl _ _).drew.alloc _⟩
 · have := heap_alloc_new W.drew (.cells ((E.flat l).toArray ++ Builtin.zeroCells E.zero.cells k ++ Builtin.zeroCells E.zero.cells (grownCap W (l.length + k) c E.t - (l.length + k))) E.t)
   refine this.trans (congrArg (fun x => some (Obj.cells x E.t (0, 0))) ?_)
   rw [<- Array.toList_inj]
   simp only [Array.toList_append, List.append_assoc, Array.toList_appendList, List.toList_toArray]
 · rw [Array.length_toList, Array.size_append, size_zeroCells, size_zeroCells, E.hz, <- Nat.add_mul]
   refine congrArg (fun x => x * E.sz) ?_
   clear hbig hl hlm hcm hk
   omega
theorem wpList_append_zeros {α : Type} {E : El α} {W : World} {A : Option Addr} {c : Nat} {l : List α} {ops : Array Oper} {rest : List Oper} {o : Oper} {a : Act} {Q : Exit -> Act -> World -> Prop} {n : Nat} (hgd : o.guard = none) (s x : Operand) (t : TypeId) (ht : E.s = t)
   (ho : o.op = .call { callee := .builtin .append, args := #[s, x], argTypes := #[t, 3] }) (k : Nat) (hs : a.eval s = .slice A n c) (hx : a.eval x = .int .i64 k) (hn : l.length = n)
   (h : Rd E W A c l) (h0 : 0 < k) (hg : c < n + k) (hl : (n + k) * E.bytes <= 140737488355328)
   (hK : ∀ c' zs W', n + k <= c' -> c' <= maxLen -> Cs W' W.heap.size E.t (E.flat l ++ zs) -> zs.length = (c' - n) * E.sz -> Ch [] W W' -> wpList Tryz.prog ops Q rest (a.put o.dst (.slice (some ⟨W.heap.size, 0, none⟩) (n + k) c')) W') :
   wpList Tryz.prog ops Q (o :: rest) a W := by
 subst hn ht
 obtain ⟨c', zs, W', hr, h1, h2, h3, h4, h5⟩ := run_append_zeros_gen h k h0 hg hl o.type
 refine wpList_plain hgd fun K hK' => ?_
 unfold Oper.wp execOp
 simp only [ho, resolve, invoke, builtin, Sem.run_bind, Sem.run_pure, Result.andThen_ok, List.map_toArray, List.map_cons, List.map_nil, hs, hx, hr]
 exact hK' _ _ (hK c' zs W' h1 h2 h3 h4 h5)
end
theorem frame_drop (g o c a m : Nat) (x : Int) (hx : x = a) (h2 : a <= m) (h3 : a < c) (W : World) : (Instr.slice 60 (.slice (some ⟨g, o, none⟩) m c) (some (.int .i64 x)) none none).run Tryz.prog W = .ok (.slice (some ⟨g, o + a * 12, none⟩) (m - a) (c - a)) W := by
 subst hx
 obtain ⟨i0, hi, hzz⟩ := Option.map_eq_some_iff.1 Fv.info
 simp only [Prod.mk.injEq] at hzz
 have hz : i0.size = 12 := hzz.2.1
 have hel : Tryz.prog.elem 60 = 49 := by simp [Program.elem, Tryz.underlying60]
 have hu : Tryz.prog.underlying 60 = some (.slice (Tryz.prog.elem 60)) := by rw [hel]; exact Tryz.underlying60
 rw [run_slice_l W 60 _ m c hu .i64 (a : Int) (by omega) (by omega), hel]
 have hi' : Tryz.prog.info? 49 = some i0 := hi
 simp [sizeOf, typeInfo, hi', hz, sliced, Result.andThen, show ¬ c = a by omega, Addr.add]
theorem frame_take (A : Option Addr) (c b m : Nat) (x : Int) (hx : x = b) (h2 : b <= c) (W : World) : (Instr.slice 60 (.slice A m c) none (some (.int .i64 x)) none).run Tryz.prog W = .ok (.slice A b c) W := by
 subst hx
 obtain ⟨i0, hi, hzz⟩ := Option.map_eq_some_iff.1 Fv.info
 simp only [Prod.mk.injEq] at hzz
 have hel : Tryz.prog.elem 60 = 49 := by simp [Program.elem, Tryz.underlying60]
 have hu : Tryz.prog.underlying 60 = some (.slice (Tryz.prog.elem 60)) := by rw [hel]; exact Tryz.underlying60
 have hi' : Tryz.prog.info? 49 = some i0 := hi
 have h0 : ∀ a : Addr, a.add 0 = a := fun a => by unfold Addr.add; simp
 rw [run_slice_h W 60 A m c hu .i64 (b : Int) (by omega) (by omega), hel]
 rcases A with _ | A <;> simp [sizeOf, typeInfo, hi', sliced, Result.andThen, h0]
theorem frame_drop_any (A : Option Addr) (c a m : Nat) (x : Int) (hx : x = a) (h2 : a <= m) (h3 : m <= c) : ∃ A2, ∀ W : World, (Instr.slice 60 (.slice A m c) (some (.int .i64 x)) none none).run Tryz.prog W = .ok (.slice A2 (m - a) (c - a)) W := by
 subst hx
 obtain ⟨A2, h, _⟩ := cut_drop Fv 60 rfl A c a m h2 h3
 exact ⟨A2, h⟩
theorem insert_end (f : Pl.Fr) (vb : Nat) (A : Option Addr) (b c n : Nat) (q : Option Nat) (l : List Pl.Fr) (hn : l.length = n) (hn1 : n <= 100) (w : World) (h : Ow Fv w b q A c l) (hbase : b <= w.heap.size) (hv : Rd Fv w (some ⟨vb, 0, none⟩) 1 [f]) :
   Calls Tryz.prog 120 #[.slice A n c, .int .i64 n, .slice (some ⟨vb, 0, none⟩) 1 1] w fun e w' => ∃ A' c' q', e = .returned (.slice A' (n + 1) c') /\ Ow Fv w' b q' A' c' (l ++ [f]) /\ Ch q.toList w w' /\ (q' = q ∨ q' = some w.heap.size) := by
 have hc := h.cap
 obtain ⟨A2, e1⟩ := frame_drop_any A c n n n rfl (by omega) (by omega)
 have H := Ad h
 have V := Ad hv
 have HN := Ad hn
 have HB := Ad hbase
 clear h hv hn hbase
 go_enter Tryz.func120, Tryz.ntmps120
 go_wp2_with (at_builtin; refine wpList_append_Ow rfl (.tmp 23) (.tmp 24) 60 (by rfl) (by rfl) (some ⟨vb, 0, none⟩) 1 1 [f] (by rfl) (by rfl) HN.out H.out V.out rfl (by show (n + 1) * 32 <= _; omega) HB.out ?_)
 intro A' c' q' W' hO hC hq
 have O := Ad hO
 have C := Ad hC
 have HQ := Ad hq
 clear hO hC hq
 go_wp2_with fail
 go_ret
 exact ⟨A', c', q', rfl, O.out, C.out, HQ.out⟩
theorem splice {P X Y news : List Value} {off : Nat} (hoff : off = P.length) (hX : X.length = news.length) : (P ++ (X ++ Y)).take off ++ news ++ (P ++ (X ++ Y)).drop (off + news.length) = P ++ (news ++ Y) := by
 subst hoff
 rw [List.take_left, <- hX, <- List.drop_drop, List.drop_left, List.drop_left, List.append_assoc]
theorem Rd.drop_at {w : World} {g o c : Nat} {l : List Pl.Fr} (h : Rd Fv w (some ⟨g, o, none⟩) c l) (n : Nat) (hn : n < l.length) : ∀ j v, (Fv.flat (l.drop n))[j]? = some v -> w.cell? ((⟨g, o + n * 12, none⟩ : Addr).add j) = some v := by
 have h2 := h.drop n (by omega)
 rw [if_neg (by have := h.cap; omega)] at h2
 exact h2.flat (by simp only [Option.map_some, Addr.add_mid]; rfl)
theorem flat_one (f : Pl.Fr) : Fv.flat [f] = frc f := by simp [El.flat]; rfl
set_option maxRecDepth 100000 in
theorem insert_grow (f : Pl.Fr) (vb : Nat) (g b c n i : Nat) (l : List Pl.Fr) (hn : l.length = n) (hn1 : n <= 100) (hi : i < n) (hroom : c < n + 1) (w : World) (h : Ow Fv w b (some g) (some ⟨g, 0, none⟩) c l) (hbase : b <= w.heap.size) (hv : Cs w vb 49 (frc f)) :
   Calls Tryz.prog 120 #[.slice (some ⟨g, 0, none⟩) n c, .int .i64 i, .slice (some ⟨vb, 0, none⟩) 1 1] w fun e w' => ∃ A' c' q', e = .returned (.slice A' (n + 1) c') /\ Ow Fv w' b q' A' c' (l.take i ++ [f] ++ l.drop i) /\ Ch (some g).toList w w' /\ (q' = some g ∨ q' = some w.heap.size) := by
 have hc := h.cap
 rw [hn] at hc
 obtain ⟨k, hk, hik⟩ : ∃ k : Nat, (n : Int) + 1 - (i : Int) = (k : Int) /\ i + k = n + 1 := ⟨n + 1 - i, by omega, by omega⟩
 have e1 := frame_drop g 0 c i n i rfl (by omega) (by omega)
 have e2 := frame_take (some ⟨g, 0, none⟩) c i n i rfl (by omega)
 have HT := Ad (h.rd.take i)
 have HS := Ad (h.rd.drop_at i (by omega))
 have HN := Ad hn
 have HL := Ad (show (l.take i).length = i by simp; omega)
 have HD := Ad (show (l.drop i).length = n - i by simp; omega)
 have HB := Ad hbase
 have HK := Ad hk
 have HIK := Ad hik
 have k0 : 0 < k := by omega
 have k1 : c < i + k := by omega
 have k2 : (i + k) * 32 <= 140737488355328 := by omega
 have K0 := Ad k0
 have K1 := Ad k1
 have K2 := Ad k2
 clear hk hik k0 k1 k2
 have V := Ad hv
 have hgw := hv.lt
 clear h hn hbase hv
 obtain ⟨i3, hi3, hz3⟩ := Option.map_eq_some_iff.1 size49
 have HI := Ad hi3
 have HZ := Ad hz3
 clear hi3 hz3
 go_enter Tryz.func120, Tryz.ntmps120
 go_wp2_with (at_builtin; refine wpList_append_zeros rfl (.tmp 34) (.tmp 39) 60 (by rfl) (by rfl) k (by rfl) (by show Value.int .i64 ((n : Int) + 1 - (i : Int)) = _; rw [HK.out]) HL.out HT.out K0.out K1.out K2.out ?_)
 rw [HIK.out]
 intro c' zs W' h1 h2 h3 h4 h5
 have e3 := frame_drop w.heap.size 0 c' i (n + 1) i rfl (by omega) (by omega)
 have e4 := frame_drop w.heap.size 0 c' (i + 1) (n + 1) (i + 1) (by omega) (by omega) (by omega)
 have hzl : zs.length = (c' - i) * 12 := h4
 obtain ⟨X, Y, Z, hz, hX, hY⟩ : ∃ X Y Z, zs = X ++ (Y ++ Z) /\ X.length = 12 /\ Y.length = (n - i) * 12 := ⟨zs.take 12, (zs.drop 12).take ((n - i) * 12), (zs.drop 12).drop ((n - i) * 12), by rw [List.take_append_drop, List.take_append_drop], by simp; omega, by simp; omega⟩
 have D := Ad (show Cs W' w.heap.size 49 (Fv.flat (l.take i) ++ (X ++ (Y ++ Z))) from hz ▸ h3)
 have HX := Ad hX
 have HY := Ad hY
 have HZZ := Ad (show Z.length + (n - i) * 12 + 12 = (c' - i) * 12 by rw [<- hzl, hz]; simp; omega)
 have C := Ad h5
 have HC := Ad h2
 clear h2
 have HP := Ad (show (Fv.flat (l.take i)).length = i * 12 by rw [El.flat_length, HL.out]; rfl)
 clear h3 h4 h5 hz hzl hX hY
 go_wp2_with (refine wpList_copy_gen rfl (.tmp 43) (.tmp 44) 60 60 (by rfl) 49 i3 Tryz.underlying60 HI.out w.heap.size (i * 12) (n + 1 - i) (c' - i) ⟨vb, 0, none⟩ 1 1 _ 49 (by rfl) (by rfl) D.out (frc f) 1 (.int .i64 1) rfl (Nat.min_eq_left (by omega)) (by rw [HZ.out]; rfl) (fun j v hv => by rw [Addr.add_mid, Nat.zero_add]; exact (V.out.on C.out).cell hv) (by rw [List.length_append, List.length_append, HP.out, HX.out]; exact Nat.add_le_add_left (Nat.le_add_right _ _) _) (frc_one f) ?_; intro w1 hd1 hh1)
 have D1 := Ad (show Cs w1 w.heap.size 49 (Fv.flat (l.take i) ++ (frc f ++ (Y ++ Z))) by rw [<- splice (X := X) (off := i * 12) HP.out.symm (by rw [HX.out]; rfl)]; exact hd1)
 have C1 := Ad (C.out.trans hh1 (by simp))
 clear hd1 hh1 D
 go_wp2_with fail
 have wi1 : IntKind.i64.wrap ((i : Int) + 1) = (i : Int) + 1 := by rw [IntKind.wrap_i64]; omega
 have ti1 : ((i : Int) + 1).toNat = i + 1 := by omega
 have bi1 : (0 : Int) <= (i : Int) + 1 := by omega
 have bi2 : (i : Int) + 1 <= (n : Int) + 1 := by omega
 have bi3 : ¬ c' = i + 1 := by omega
 have bi4 : ¬ c = i := by omega
 have bi5 : (i : Int) <= n := by omega
 go_still_tail 8, (by kernel_rfl)
 clear wi1 ti1 bi1 bi2 bi3 bi4 bi5
 change wpList _ _ _ _ _ w1.drew
 have PX := Ad (show (Fv.flat (l.take i) ++ frc f).length = (i + 1) * 12 by rw [List.length_append, HP.out]; show _ + 12 = _; omega)
 have HDL := Ad (show (Fv.flat (l.drop i)).length = (n - i) * 12 by rw [El.flat_length, HD.out]; rfl)
 have D2 := Ad (show Cs w1.drew w.heap.size 49 ((Fv.flat (l.take i) ++ frc f) ++ (Y ++ Z)) by rw [List.append_assoc]; exact D1.out.on (Ch.refl _ _).drew)
 have S2 := Ad (show ∀ j v, (Fv.flat (l.drop i))[j]? = some v -> w1.drew.cell? ((⟨g, i * 12, none⟩ : Addr).add j) = some v from fun j v hv => C1.out.drew.cell (by have := HS.out j v hv; rwa [Nat.zero_add] at this) (by simp))
 have mn1 : Nat.min (n - i) (n - i) = n - i := Nat.min_self _
 have M1 := Ad mn1
 clear mn1
 refine wpList_copy_gen rfl (.tmp 50) (.tmp 53) 60 60 (by rfl) 49 i3 Tryz.underlying60 HI.out w.heap.size ((i + 1) * 12) (n - i) (c' - (i + 1)) ⟨g, i * 12, none⟩ (n - i) (c - i) _ 49 (by rfl) (by rfl) D2.out (Fv.flat (l.drop i)) (n - i) (.int .i64 ((n - i : Nat) : Int)) rfl M1.out (by rw [HZ.out]; exact HDL.out) S2.out (by have p1 := PX.out; have p2 := HDL.out; have p3 := HY.out; simp only [List.length_append] at *; omega) (Fv.flat_one _) ?_
 intro w2 hd2 hh2
 have D3 := Ad (show Cs w2 w.heap.size 49 (Fv.flat (l.take i) ++ frc f ++ (Fv.flat (l.drop i) ++ Z)) by rw [<- splice (X := Y) (off := (i + 1) * 12) PX.out.symm (by rw [HY.out, HDL.out])]; exact hd2)
 have C2 := Ad (C1.out.drew.trans hh2 (by simp))
 clear hd2 hh2 D2 D1 S2
 go_wp2_with fail
 go_ret
 have hfl : (Fv.flat (l.take i ++ [f] ++ l.drop i)) = Fv.flat (l.take i) ++ frc f ++ Fv.flat (l.drop i) := by rw [El.flat_app, El.flat_app, flat_one]
 have hll : (l.take i ++ [f] ++ l.drop i).length = n + 1 := by rw [List.length_append, List.length_append, HL.out, HD.out]; simp; omega
 have hZ := HZZ.out
 refine ⟨_, _, some w.heap.size, rfl, Ow.of D3.out HB.out (by rw [hll]; exact h1) ?_ HC.out ?_, C2.out.any, .inr rfl⟩
 · have p1 := PX.out
   have p2 := HDL.out
   simp only [List.length_append] at *
   show c' * 12 <= _
   omega
 · rw [hfl, hll, <- List.append_assoc]
   have : (n + 1) * Fv.sz = (Fv.flat (l.take i) ++ frc f ++ Fv.flat (l.drop i)).length := by rw [List.length_append, PX.out, HDL.out]; show (n + 1) * 12 = _; omega
   rw [this, List.take_left]
theorem overlaps_no {w : World} {g vb : Nat} {cur : List Value} {f : Pl.Fr} (hg : Cs w g 49 cur) (h0 : 0 < cur.length) (hv : Cs w vb 49 (frc f)) (hne : vb ≠ g) (o lb cb : Nat) :
   (callFunc 138 #[.slice (some ⟨vb, 0, none⟩) 1 1, .slice (some ⟨g, o, none⟩) lb cb]).run Tryz.prog w = .ok (.value (.bool false)) w := by
 rw [run_callFunc_extern Tryz.func138 (by kernel_rfl) (by kernel_rfl) (by kernel_rfl) (e := Extern.SlicesOverlaps.overlaps #[60, 60] #[4]) (by kernel_rfl),
   Lib.run_overlaps_apart w 60 4 49 Tryz.underlying60 12 (run_size size49) ⟨vb, 0, none⟩ ⟨g, o, none⟩ 1 1 lb cb hne 49 49 12 cur.length
     (by unfold World.shape?; rw [show w.heap[vb]? = _ from hv]; simp [frc]) (by unfold World.shape?; rw [show w.heap[g]? = _ from hg]; simp) (by omega) (hv.free _) (hv.free _)]
 rfl
set_option maxRecDepth 100000 in
theorem insert_room (f : Pl.Fr) (vb : Nat) (g b c n i : Nat) (l : List Pl.Fr) (hn : l.length = n) (hn1 : n <= 100) (hi : i < n) (hroom : n + 1 <= c) (w : World) (h : Ow Fv w b (some g) (some ⟨g, 0, none⟩) c l) (hv : Cs w vb 49 (frc f)) (hne : vb ≠ g) :
   Calls Tryz.prog 120 #[.slice (some ⟨g, 0, none⟩) n c, .int .i64 i, .slice (some ⟨vb, 0, none⟩) 1 1] w fun e w' => ∃ A' c' q', e = .returned (.slice A' (n + 1) c') /\ Ow Fv w' b q' A' c' (l.take i ++ [f] ++ l.drop i) /\ Ch (some g).toList w w' /\ (q' = some g ∨ q' = some w.heap.size) := by
 obtain ⟨cur, hcur, _, hbg, _, hcl, hcm, hct⟩ := h.cs
 rw [hn] at hct
 have hcl' : c * 12 <= cur.length := hcl
 have hct' : cur.take (n * 12) = Fv.flat l := hct
 obtain ⟨X, Y, Z, hz, hX, hY, hZ⟩ : ∃ X Y Z, cur = Fv.flat (l.take i) ++ (X ++ (Y ++ Z)) /\ X.length = 12 /\ Y.length = (n - i) * 12 /\ Z.length + (n + 1) * 12 = cur.length := by
   refine ⟨(cur.drop (i * 12)).take 12, ((cur.drop (i * 12)).drop 12).take ((n - i) * 12), ((cur.drop (i * 12)).drop 12).drop ((n - i) * 12), ?_, by simp; omega, by simp; omega, by simp; omega⟩
   rw [List.take_append_drop, List.take_append_drop]
   have : Fv.flat (l.take i) = cur.take (i * 12) := by
     rw [<- El.flat_take, <- hct', List.take_take]
     congr 1
     show min (i * 12) (n * 12) = _
     omega
   rw [this, List.take_append_drop]
 have e1 := frame_drop g 0 c i n i rfl (by omega) (by omega)
 have e2 := frame_take (some ⟨g, 0, none⟩) c (n + 1) n (n + 1) (by omega) (by omega)
 have e3 := frame_drop g 0 c (i + 1) (n + 1) (i + 1) (by omega) (by omega) (by omega)
 have e4 := frame_drop g 0 c i (n + 1) i (by omega) (by omega) (by omega)
 have HS := Ad (h.rd.drop_at i (by omega))
 have OV := Ad (fun o lb cb => overlaps_no (w := w) hcur (by omega) hv hne o lb cb)
 have HN := Ad hn
 have HL := Ad (show (l.take i).length = i by simp; omega)
 have HD := Ad (show (l.drop i).length = n - i by simp; omega)
 have V := Ad hv
 have HP := Ad (show (Fv.flat (l.take i)).length = i * 12 by rw [El.flat_length]; show _ * 12 = _; simp; omega)
 have HBG := Ad hbg
 have HCM := Ad hcm
 have HCL := Ad (Nat.le_trans hcl' (Nat.le_of_eq (congrArg List.length hz)))
 have D := Ad (show Cs w g 49 (Fv.flat (l.take i) ++ (X ++ (Y ++ Z))) from hz ▸ hcur)
 have HX := Ad hX
 have HY := Ad hY
 have HZ := Ad (hZ.trans (by rw [hz]))
 have hgw := hv.lt
 have hgg := h.cs.choose_spec.1.lt
 have HNE := Ad hne
 clear h hn hv hne hcur hbg hcl hcm hct hct' hcl' hz hX hY hZ cur
 obtain ⟨i3, hi3, hz3⟩ := Option.map_eq_some_iff.1 size49
 have HI := Ad hi3
 have HZ3 := Ad hz3
 clear hi3 hz3
 go_enter Tryz.func120, Tryz.ntmps120
 have ov := OV.out
 go_wp2_with fail
 have wi1 : IntKind.i64.wrap ((i : Int) + 1) = (i : Int) + 1 := by rw [IntKind.wrap_i64]; omega
 have ti1 : ((i : Int) + 1).toNat = i + 1 := by omega
 have bi1 : (0 : Int) <= (i : Int) + 1 := by omega
 have bi2 : (i : Int) + 1 <= (n : Int) + 1 := by omega
 have bi3 : ¬ c = i + 1 := by omega
 have bi4 : ¬ c = i := by omega
 have bi5 : (i : Int) <= (n : Int) + 1 := by omega
 go_still_tail 8, (by kernel_rfl)
 clear wi1 ti1 bi1 bi2 bi3 bi4 bi5
 change wpList _ _ _ _ _ w.drew
 have PX := Ad (show (Fv.flat (l.take i) ++ X).length = (i + 1) * 12 by rw [List.length_append, HP.out, HX.out]; omega)
 have HDL := Ad (show (Fv.flat (l.drop i)).length = (n - i) * 12 by rw [El.flat_length, HD.out]; rfl)
 have D2 := Ad (show Cs w.drew g 49 ((Fv.flat (l.take i) ++ X) ++ (Y ++ Z)) by rw [List.append_assoc]; exact D.out.on (Ch.refl _ _).drew)
 have S2 := Ad (show ∀ j v, (Fv.flat (l.drop i))[j]? = some v -> w.drew.cell? ((⟨g, i * 12, none⟩ : Addr).add j) = some v from fun j v hv => by have := HS.out j v hv; rwa [Nat.zero_add] at this)
 have M1 := Ad (show Nat.min (n + 1 - i) (n - i) = n - i from Nat.min_eq_right (by omega))
 refine wpList_copy_gen rfl (.tmp 73) (.tmp 76) 60 60 (by rfl) 49 i3 Tryz.underlying60 HI.out g ((i + 1) * 12) (n - i) (c - (i + 1)) ⟨g, i * 12, none⟩ (n + 1 - i) (c - i) _ 49 (by rfl) (by rfl) D2.out (Fv.flat (l.drop i)) (n - i) (.int .i64 ((n - i : Nat) : Int)) rfl M1.out (by rw [HZ3.out]; exact HDL.out) S2.out (by have p1 := PX.out; have p2 := HDL.out; have p3 := HY.out; simp only [List.length_append] at *; omega) (Fv.flat_one _) ?_
 intro w2 hd2 hh2
 have D3 := Ad (show Cs w2 g 49 (Fv.flat (l.take i) ++ (X ++ (Fv.flat (l.drop i) ++ Z))) by rw [<- List.append_assoc, <- splice (X := Y) (off := (i + 1) * 12) PX.out.symm (by rw [HY.out, HDL.out])]; exact hd2)
 have C2 := Ad ((Ch.refl [g] w).drew.then hh2)
 clear hd2 hh2 D2 D S2
 have V2 := Ad (V.out.keep C2.out (by simpa using HNE.out))
 have FIT := Ad (show i * 12 + (frc f).length <= (Fv.flat (l.take i) ++ (X ++ (Fv.flat (l.drop i) ++ Z))).length by rw [List.length_append, List.length_append, HP.out, HX.out]; exact Nat.add_le_add_left (Nat.le_add_right _ _) _)
 have M2 := Ad (show Nat.min 1 (n + 1 - i) = 1 from Nat.min_eq_left (by omega))
 go_wp2_with (refine wpList_copy_gen rfl (.tmp 80) (.tmp 81) 60 60 (by rfl) 49 i3 Tryz.underlying60 HI.out g (i * 12) (n + 1 - i) (c - i) ⟨vb, 0, none⟩ 1 1 _ 49 (by rfl) (by rfl) D3.out (frc f) 1 (.int .i64 1) rfl M2.out (by rw [HZ3.out]; rfl) (fun j v hv => by rw [Addr.add_mid, Nat.zero_add]; exact V2.out.cell hv) FIT.out (frc_one f) ?_; intro w3 hd3 hh3)
 have D4 := Ad (show Cs w3 g 49 (Fv.flat (l.take i) ++ (frc f ++ (Fv.flat (l.drop i) ++ Z))) by rw [<- splice (X := X) (off := i * 12) HP.out.symm (by rw [HX.out]; rfl)]; exact hd3)
 have C3 := Ad (C2.out.then hh3)
 clear hd3 hh3
 go_wp2_with fail
 go_ret
 have hfl : (Fv.flat (l.take i ++ [f] ++ l.drop i)) = Fv.flat (l.take i) ++ frc f ++ Fv.flat (l.drop i) := by rw [El.flat_app, El.flat_app, flat_one]
 have hll : (l.take i ++ [f] ++ l.drop i).length = n + 1 := by rw [List.length_append, List.length_append, HL.out, HD.out]; simp; omega
 have hf12 : (frc f).length = 12 := rfl
 have p1 := HP.out
 have p2 := HDL.out
 have p3 := HX.out
 have p4 := HY.out
 refine ⟨_, _, some g, rfl, Ow.of D4.out HBG.out (by rw [hll]; exact hroom) ?_ HCM.out ?_, C3.out, .inl rfl⟩
 · have h1 := HCL.out
   simp only [List.length_append] at h1 ⊢
   show c * 12 <= _
   omega
 · rw [hfl, hll, <- List.append_assoc, <- List.append_assoc]
   have : (n + 1) * Fv.sz = (Fv.flat (l.take i) ++ frc f ++ Fv.flat (l.drop i)).length := by simp only [List.length_append]; show (n + 1) * 12 = _; omega
   rw [this, List.take_left]
theorem insert_calls (f : Pl.Fr) (vb : Nat) (A : Option Addr) (b c n i : Nat) (q : Option Nat) (l : List Pl.Fr) (hn : l.length = n) (hn1 : n <= 100) (hi : i <= n) (w : World) (h : Ow Fv w b q A c l) (hbase : b <= w.heap.size) (hv : Cs w vb 49 (frc f)) (hne : ∀ k, q = some k -> vb ≠ k) :
   Calls Tryz.prog 120 #[.slice A n c, .int .i64 i, .slice (some ⟨vb, 0, none⟩) 1 1] w fun e w' => ∃ A' c' q', e = .returned (.slice A' (n + 1) c') /\ Ow Fv w' b q' A' c' (l.take i ++ [f] ++ l.drop i) /\ Ch q.toList w w' /\ (q' = q ∨ q' = some w.heap.size) := by
 have hcap := h.cap
 by_cases hin : i = n
 · subst hin
   have hv2 : Rd Fv w (some ⟨vb, 0, none⟩) 1 [f] := ⟨Nat.le_refl _, (by decide : 1 <= maxLen), fun _ => ⟨vb, 0, rfl, fun k x hx j v hj => by
     have hk := (List.getElem?_eq_some_iff.1 hx).1
     simp at hk
     subst hk
     simp at hx
     subst hx
     have := hv.cell (j := j) (v := v) hj
     simpa using this⟩⟩
   refine (insert_end f vb A b c i q l hn hn1 w h hbase hv2).mono ?_
   rintro e w' ⟨A', c', q', h1, h2, h3⟩
   refine ⟨A', c', q', h1, ?_, h3⟩
   rw [<- hn, List.take_length, List.drop_length, List.append_nil]
   exact h2
 · rcases h.addr with ⟨_, _, _, rfl⟩ | ⟨g, rfl, rfl⟩
   · simp at hn; omega
   · by_cases hroom : c < n + 1
     · exact insert_grow f vb g b c n i l hn hn1 (by omega) hroom w h hbase hv
     · exact insert_room f vb g b c n i l hn hn1 (by omega) (by omega) w h hv (hne g rfl)
section
section
variable {α : Type} {E : El α} {W : World} {b : Nat} {q : Option Nat} {A : Option Addr} {c : Nat} {l : List α}
theorem run_append_room_Ow (h : Ow E W b q A c l) {X : Option Addr} {cx k : Nat} {ys : List α} (hY : Rd E W X cx ys) (hk : ys.length = k) (hroom : l.length + k <= c) (ty : TypeId) :
   ∃ W', (Builtin.append_ #[E.s, E.s] ty #[.slice A l.length c, .slice X k cx]).run Tryz.prog W = .ok (.slice A (l.length + k) c) W' /\ Ow E W' b q A c (l ++ ys) /\ Ch q.toList W W' := by
 subst hk
 obtain ⟨i0, hi, hzz⟩ := Option.map_eq_some_iff.1 E.info
 simp only [Prod.mk.injEq] at hzz
 obtain ⟨hz0, hz1, hz2⟩ := hzz
 have ht := E.und
 rcases Nat.eq_zero_or_pos ys.length with h0 | h0
 · obtain rfl : ys = [] := List.eq_nil_of_length_eq_zero h0
   refine ⟨W, ?_, by simpa using h, Ch.refl _ W⟩
   have hf : (Builtin.firstCells i0.size 0 (.slice X 0 cx)).run Tryz.prog W = .ok #[] W := by
     cases X <;> simp [Builtin.firstCells, loadCells, loadCellsFrom]
   rcases h.lies with ⟨rfl, rfl, rfl, _⟩ | ⟨g, cur, _, rfl, _, hg, h1, h2, h3, h4⟩
   · simp [Builtin.append_, run_underlying ht, sizeOf, typeInfo, hi, Builtin.lenOf, hf]
   · simp [Builtin.append_, run_underlying ht, sizeOf, typeInfo, hi, Builtin.lenOf, hf, h1, storeCells]
 · obtain ⟨gx, ox, rfl, _⟩ := hY.at_ h0
   have hcells := hY.flat rfl
   have hone := E.flat_one ys
   rcases h.lies with ⟨rfl, rfl, rfl, rfl⟩ | ⟨g, cur, rfl, rfl, hbg, hg, h1, h2, h3, h4⟩
   · simp at hroom; rw [hroom] at h0; simp at h0
   · have hfit : l.length * i0.size + (E.flat ys).length <= cur.size := by
       rw [El.flat_length, hz1, <- Nat.add_mul]
       exact Nat.le_trans (Nat.mul_le_mul_right _ hroom) h2
     have hr := run_append_room (P := Tryz.prog) W E.s ty E.t i0 ht hi g l.length c cur hg ⟨gx, ox, none⟩ ys.length cx (E.flat ys) (by rw [hz1, El.flat_length]) hcells hone hroom hfit
     refine ⟨_, hr, ⟨.inr ⟨g, _, rfl, rfl, hbg, setRow_heap W g cur _ E.t _ hg, by rw [List.length_append]; exact hroom, ?_, h3, ?_⟩⟩, ⟨rfl, rfl, rfl, by simp, fun k _ hk => setRow_other W g k _ (fun e => hk (by simp [e]))⟩⟩
     · simp only [List.size_toArray, List.length_append, List.length_take, List.length_drop, Array.length_toList, hz1]
       rw [hz1] at hfit
       omega
     · rw [hz1, h4, <- El.flat_app, <- El.flat_length]
       exact List.take_left
theorem wpList_append_room_Ow {ops : Array Oper} {rest : List Oper} {o : Oper} {a : Act} {Q : Exit -> Act -> World -> Prop} {n : Nat} (hgd : o.guard = none) (s x : Operand) (t : TypeId) (ht : E.s = t)
   (ho : o.op = .call { callee := .builtin .append, args := #[s, x], argTypes := #[t, t] }) (X : Option Addr) (k cx : Nat) (ys : List α) (hs : a.eval s = .slice A n c) (hx : a.eval x = .slice X k cx) (hn : l.length = n)
   (h : Ow E W b q A c l) (hY : Rd E W X cx ys) (hk : ys.length = k) (hroom : n + k <= c)
   (hK : ∀ W', Ow E W' b q A c (l ++ ys) -> Ch q.toList W W' -> wpList Tryz.prog ops Q rest (a.put o.dst (.slice A (n + k) c)) W') :
   wpList Tryz.prog ops Q (o :: rest) a W := by
 subst hn ht
 obtain ⟨W', hr, h1, h2⟩ := run_append_room_Ow h (cx := cx) hY hk hroom o.type
 refine wpList_plain hgd fun K hK' => ?_
 unfold Oper.wp execOp
 simp only [ho, resolve, invoke, builtin, Sem.run_bind, Sem.run_pure, Result.andThen_ok, List.map_toArray, List.map_cons, List.map_nil, hs, hx, hr]
 exact hK' _ _ (hK W' h1 h2)
end
theorem clear_frame {W : World} {b g c : Nat} {l : List Pl.Fr} (h : Ow Fv W b (some g) (some ⟨g, 0, none⟩) c l) (hl : l.length + 1 <= c) (x : Nat) :
   ∃ W2, (∀ ty, (Builtin.clear_ #[60] ty #[.slice (some ⟨g, l.length * 12, none⟩) 1 x]).run Tryz.prog W = .ok (.tuple #[]) W2) /\ Ow Fv W2 b (some g) (some ⟨g, 0, none⟩) c l /\ Ch [g] W W2 := by
 obtain ⟨cur, hcur, _, hbg, hlc, hcl, hcm, hct⟩ := h.cs
 have hcl' : c * 12 <= cur.length := hcl
 have hct' : cur.take (l.length * 12) = Fv.flat l := hct
 obtain ⟨i0, hi, hzz⟩ := Option.map_eq_some_iff.1 Fv.info
 simp only [Prod.mk.injEq] at hzz
 have hi' : Tryz.prog.info? 49 = some i0 := hi
 have hz : i0.zero = some Fv.zero := hzz.1
 have hs := run_storeCells_at (P := Tryz.prog) g (l.length * 12) 49 zf 0 cur.toArray W hcur (by simp [zf]; omega) (by simp [zf, Value.oneCell'])
 have hzc : (Builtin.zeroCells Fv.zero.cells 1).toList = zf := by simp [Builtin.zeroCells, Value.cells, Fv, zf]; rfl
 simp only [Nat.add_zero] at hs
 refine ⟨W.setRow g (cur.take (l.length * 12) ++ zf ++ cur.drop (l.length * 12 + zf.length)).toArray, fun ty => ?_, ?_, ⟨rfl, rfl, rfl, by simp, fun k _ hk => setRow_other W g k _ (fun e => hk (by simp [e]))⟩⟩
 · simp [Builtin.clear_, run_underlying Tryz.underlying60, zeroValue, typeInfo, hi', hz, hzc, hs, Result.andThen]
 · have hR : Cs (W.setRow g (cur.take (l.length * 12) ++ zf ++ cur.drop (l.length * 12 + zf.length)).toArray) g 49 (cur.take (l.length * 12) ++ zf ++ cur.drop (l.length * 12 + zf.length)) := setRow_heap W g _ _ 49 _ hcur
   refine Ow.of hR hbg hlc ?_ hcm ?_
   · simp [zf]; show c * 12 <= _; omega
   · show List.take (l.length * 12) _ = _
     rw [<- hct', List.append_assoc, List.take_left' (by simp; omega)]
theorem frame_mid (g o c a b m : Nat) (x y : Int) (hx : x = a) (hy : y = b) (h1 : a <= b) (h2 : b <= c) (h3 : a < c) (W : World) : (Instr.slice 60 (.slice (some ⟨g, o, none⟩) m c) (some (.int .i64 x)) (some (.int .i64 y)) none).run Tryz.prog W = .ok (.slice (some ⟨g, o + a * 12, none⟩) (b - a) (c - a)) W := by
 subst hx hy
 obtain ⟨i0, hi, hzz⟩ := Option.map_eq_some_iff.1 Fv.info
 simp only [Prod.mk.injEq] at hzz
 have hz : i0.size = 12 := hzz.2.1
 have hel : Tryz.prog.elem 60 = 49 := by simp [Program.elem, Tryz.underlying60]
 have hu : Tryz.prog.underlying 60 = some (.slice (Tryz.prog.elem 60)) := by rw [hel]; exact Tryz.underlying60
 rw [run_slice_lh W 60 _ m c hu .i64 .i64 (a : Int) (b : Int) (by omega) (by omega) (by omega), hel]
 have hi' : Tryz.prog.info? 49 = some i0 := hi
 simp [sizeOf, typeInfo, hi', hz, sliced, Result.andThen, show ¬ c = a by omega, Addr.add]
set_option maxRecDepth 100000 in
theorem delete_calls (A : Option Addr) (b c n i : Nat) (q : Option Nat) (l : List Pl.Fr) (hn : l.length = n) (hn1 : n <= 100) (hi : i < n) (w : World) (h : Ow Fv w b q A c l) :
   Calls Tryz.prog 177 #[.slice A n c, .int .i64 i, .int .i64 ((i : Int) + 1)] w fun e w' => ∃ c', e = .returned (.slice A (n - 1 : Nat) c') /\ Ow Fv w' b q A c' (l.take i ++ l.drop (i + 1)) /\ Ch q.toList w w' := by
 have hc := h.cap
 rw [hn] at hc
 rcases h.addr with ⟨_, _, _, rfl⟩ | ⟨g, rfl, rfl⟩
 · simp at hn; omega
 · obtain ⟨D2, d1, d2, _⟩ := cut_drop Fv 60 rfl (some ⟨g, 0, none⟩) c (i + 1) n (by omega) hc
   have e2 := frame_take (some ⟨g, 0, none⟩) c i n i rfl (by omega)
   have T := Ad (h.take i)
   have Rr := Ad ((d2 w l hn h.rd).on (Ch.refl _ w).drew)
   have e3 : ∀ W : World, (Instr.slice 60 (.slice (some ⟨g, 0, none⟩) n c) (some (.int .i64 ((i : Int) + 1))) none none).run Tryz.prog W = .ok (.slice D2 (n - (i + 1)) (c - (i + 1))) W := fun W => by
     have := d1 W
     rwa [show (((i + 1 : Nat) : Int)) = (i : Int) + 1 by omega] at this
   have e4 := frame_mid g 0 c (n - 1) n (n - 1) ((n - 1 : Nat) : Int) n rfl rfl (by omega) hc (by omega)
   rw [show n - (n - 1) = 1 by omega] at e4
   have HN := Ad hn
   have HL := Ad (show (l.take i).length = i by simp; omega)
   have HD := Ad (show (l.drop (i + 1)).length = n - (i + 1) by simp; omega)
   have HM := Ad (show i + (n - (i + 1)) = n - 1 by omega)
   have HRm := Ad (show i + (n - (i + 1)) <= c by omega)
   have ne1 : ((i : Int) == (i : Int) + 1) = false := by simp; omega
   clear h hn d1 d2
   go_enter Tryz.func177, Tryz.ntmps177
   go_wp2_with fail
   have wi1 : IntKind.i64.wrap ((i : Int) + 1) = (i : Int) + 1 := by rw [IntKind.wrap_i64]; omega
   have bi1 : (i : Int) <= (c : Int) := by omega
   have bi2 : (i : Int) + 1 <= (n : Int) := by omega
   have bi3 : (0 : Int) <= (i : Int) + 1 := by omega
   go_still_tail 6, (by kernel_rfl)
   change wpList _ _ _ _ _ w.drew
   refine wpList_append_room_Ow rfl (.tmp 22) (.tmp 25) 60 (by rfl) (by rfl) D2 (n - (i + 1)) (c - (i + 1)) (l.drop (i + 1)) (by rfl) (by rfl) HL.out (T.out.on (Ch.refl _ w).drew) Rr.out HD.out HRm.out ?_
   rw [HM.out]
   intro w1 hO hC
   have hll : (l.take i ++ l.drop (i + 1)).length = n - 1 := by rw [List.length_append, HL.out, HD.out]; omega
   obtain ⟨w2, hcl, hO2, hC2⟩ := clear_frame hO (by rw [hll]; omega) (c - (n - 1))
   rw [hll] at hcl
   have O2 := Ad hO2
   have C2 := Ad (((Ch.refl [g] w).drew.then (by simpa using hC)).then hC2)
   clear hO hC hO2 hC2 hll T Rr
   go_wp2_with (simp only [hcl])
   go_ret
   exact ⟨c, rfl, O2.out, C2.out⟩
end
end Go.Proofs.YtjoehjclaonneaaGreat
