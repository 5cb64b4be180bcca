/- A part of the proof of TopReplay (no condition of its own). -/
import Derived.StillTailTactics
import Derived.Deep.MidRow
import Derived.Lib.AppendZeros
import Derived.Test.YtjoehjclaonneaaGreatMB
import Derived.Test.YtjoehjclaonneaaGreatMA
namespace Go.Proofs.YtjoehjclaonneaaGreat
open Go.RowKit Go.Proofs.YtjoehjclaonneaaGreatW.PrintWords
set_option maxHeartbeats 8000000
set_option linter.unusedVariables false
set_option linter.unusedSimpArgs false
section
theorem size3 : (Tryz.prog.info? 3).map (·.size) = some 1 := by kernel_rfl
theorem size5 : (Tryz.prog.info? 5).map (·.size) = some 1 := by kernel_rfl
theorem size39 : (Tryz.prog.info? 39).map (·.size) = some 1 := by kernel_rfl
theorem size42 : (Tryz.prog.info? 42).map (·.size) = some 1 := by kernel_rfl
theorem size47 : (Tryz.prog.info? 47).map (·.size) = some 8 := by kernel_rfl
theorem size49 : (Tryz.prog.info? 49).map (·.size) = some 12 := by kernel_rfl
theorem size51 : (Tryz.prog.info? 51).map (·.size) = some 15 := by kernel_rfl
theorem size55 : (Tryz.prog.info? 55).map (·.size) = some 15 := by kernel_rfl
theorem size64 : (Tryz.prog.info? 64).map (·.size) = some 1 := by kernel_rfl
theorem size85 : (Tryz.prog.info? 85).map (·.size) = some 2 := by kernel_rfl
theorem size87 : (Tryz.prog.info? 87).map (·.size) = some 2 := by kernel_rfl
theorem size93 : (Tryz.prog.info? 93).map (·.size) = some 3 := by kernel_rfl
theorem size153 : (Tryz.prog.info? 153).map (·.size) = some 1 := by kernel_rfl
theorem size117 : (Tryz.prog.info? 117).map (·.size) = some 16 := by kernel_rfl
theorem size94 : (Tryz.prog.info? 94).map (·.size) = some 1 := by kernel_rfl
def Cs (W : World) (g : Nat) (t : TypeId) (cs : List Value) : Prop := W.heap[g]? = some (.cells cs.toArray t (0, 0))
section
variable {W W' : World} {g : Nat} {t : TypeId} {cs : List Value}
theorem Cs.keep (h : Cs W g t cs) {F : List Nat} (hc : Ch F W W') (hF : g ∉ F) : Cs W' g t cs := hc.blk h hF
theorem Cs.on (h : Cs W g t cs) (hc : Ch [] W W') : Cs W' g t cs := h.keep hc (by simp)
theorem Cs.cell (h : Cs W g t cs) {j : Nat} {v : Value} (hv : cs[j]? = some v) : W.cell? ⟨g, j, none⟩ = some v := by
 rw [blk_cell h, List.getElem?_toArray, hv]
theorem Cs.free (h : Cs W g t cs) (j : Nat) : W.frozen? ⟨g, j, none⟩ = false := blk_frozen h j
theorem Cs.set (h : Cs W g t cs) (j : Nat) (v : Value) : Cs (W.setCell ⟨g, j, none⟩ v) g t (cs.set j v) := by
 have := blk_set h j v
 rw [List.setIfInBounds_toArray] at this
 exact this
theorem Cs.lt (h : Cs W g t cs) : g < W.heap.size := blk_lt h
theorem Cs.far (h : Cs W g t cs) {p : Addr} (hp : g ≠ p.block) (u : Value) : Cs (W.setCell p u) g t cs := blk_far h hp u
theorem Cs.new (W : World) (cs : List Value) (t : TypeId) : Cs (W.alloc (.cells cs.toArray t)) W.heap.size t cs := heap_alloc_new W _
theorem Cs.ne {g' : Nat} {t' : TypeId} {cs' : List Value} (h : Cs W g t cs) (h' : Cs W g' t' cs') (ht : t ≠ t') : g ≠ g' := blk_ne h h' ht
theorem Cs.range (h : Cs W g t cs) (o : Nat) (part : List Value) (hp : ∀ j v, part[j]? = some v -> cs[o + j]? = some v) : W.rangeAt g o part := fun j v hv => h.cell (hp j v hv)
theorem Cs.loadAt (h : Cs W g t cs) (ty : TypeId) (o : Nat) (part : List Value) {d : TypeDesc} (hp : ∀ j v, part[j]? = some v -> cs[o + j]? = some v) (hu : Tryz.prog.underlying ty = some d) (hd : d.isRow = true) (hi : (Tryz.prog.info? ty).map (·.size) = some part.length) :
   (Instr.loadAt ty (.pointer (some ⟨g, o, none⟩))).run Tryz.prog W = .ok (.agg part.toArray) W := run_loadAt_mid W g o ty part d (h.range o part hp) hu hd hi
theorem Cs.load (h : Cs W g t cs) (ty : TypeId) {d : TypeDesc} (hu : Tryz.prog.underlying ty = some d) (hd : d.isRow = true) (hi : (Tryz.prog.info? ty).map (·.size) = some cs.length) :
   (Instr.loadAt ty (.pointer (some ⟨g, 0, none⟩))).run Tryz.prog W = .ok (.agg cs.toArray) W := h.loadAt ty 0 cs (fun j v hv => by rwa [Nat.zero_add]) hu hd hi
theorem setCells_cs (part : List Value) : ∀ {W : World} {cs : List Value} (_ : Cs W g t cs) (o : Nat), o + part.length <= cs.length -> Cs (W.setCells g o part) g t (cs.take o ++ part ++ cs.drop (o + part.length)) /\ Ch [g] W (W.setCells g o part) := by
 induction part with
 | nil =>
   intro W cs h o ho
   refine ⟨?_, Ch.refl _ _⟩
   simpa [World.setCells] using h
 | cons v r ih =>
   intro W cs h o ho
   rw [List.length_cons] at ho
   obtain ⟨h1, h2⟩ := ih (h.set o v) (o + 1) (by rw [List.length_set]; omega)
   refine ⟨?_, ((Ch.refl _ _).set _ _ (.inl (by simp))).then h2⟩
   have e : (cs.set o v).take (o + 1) ++ r ++ (cs.set o v).drop (o + 1 + r.length) = cs.take o ++ (v :: r) ++ cs.drop (o + (v :: r).length) := by
     rw [List.drop_set_of_lt (by omega), List.take_set, List.take_succ_eq_append_getElem (by omega), List.set_append_right _ _ (by simp; omega)]
     simp only [List.length_take, Nat.min_eq_left (show o <= cs.length by omega), Nat.sub_self, List.set_cons_zero, List.append_assoc, List.cons_append, List.nil_append, List.length_cons]
     rw [show o + (r.length + 1) = o + 1 + r.length by omega]
   rw [e] at h1
   exact h1
theorem Cs.there (h : Cs W g t cs) (o n : Nat) (hn : o + n <= cs.length) : W.there g o n := fun j hj => by
 obtain ⟨v, hv⟩ : ∃ v, cs[o + j]? = some v := ⟨_, List.getElem?_eq_getElem (by omega)⟩
 exact ⟨by rw [h.cell hv]; rfl, h.free _⟩
theorem Cs.storeAt (h : Cs W g t cs) (ty : TypeId) (o : Nat) (part : List Value) (ho : o + part.length <= cs.length) (hi : (Tryz.prog.info? ty).map (·.size) = some part.length) (h1 : ∀ v ∈ part, v.oneCell' = true) :
   ∃ W2, (Instr.storeAt ty (.pointer (some ⟨g, o, none⟩)) (.agg part.toArray)).run Tryz.prog W = .ok () W2 /\ Cs W2 g t (cs.take o ++ part ++ cs.drop (o + part.length)) /\ Ch [g] W W2 := by
 obtain ⟨h2, h3⟩ := setCells_cs part h o ho
 refine ⟨_, ?_, h2, h3⟩
 have := run_storeAt_mid (P := Tryz.prog) W g o ty part.toArray (by simpa using h.there o part.length ho) (by simpa using hi) (all_oneCell_toArray h1)
 simpa using this
theorem Cs.store (h : Cs W g t cs) (ty : TypeId) (part : List Value) (ho : part.length = cs.length) (hi : (Tryz.prog.info? ty).map (·.size) = some part.length) (h1 : ∀ v ∈ part, v.oneCell' = true) :
   ∃ W2, (Instr.storeAt ty (.pointer (some ⟨g, 0, none⟩)) (.agg part.toArray)).run Tryz.prog W = .ok () W2 /\ Cs W2 g t part /\ Ch [g] W W2 := by
 obtain ⟨W2, h2, h3, h4⟩ := h.storeAt ty 0 part (by omega) hi h1
 refine ⟨W2, h2, ?_, h4⟩
 rwa [List.take_zero, List.nil_append, List.drop_of_length_le (by omega), List.append_nil] at h3
theorem wpList_store_Cs {ops : Array Oper} {rest : List Oper} {op : Oper} {a : Act} {Q : Exit -> Act -> World -> Prop} (hgd : op.guard = none) (ty : TypeId) (x y : Operand) (ho : op.op = .store ty x y) (o : Nat) (part : List Value)
   (hx : a.eval x = .pointer (some ⟨g, o, none⟩)) (hy : a.eval y = .agg part.toArray) (h : Cs W g t cs) (hl : o + part.length <= cs.length) (hi : (Tryz.prog.info? ty).map (·.size) = some part.length) (h1 : ∀ v ∈ part, v.oneCell' = true)
   (hK : ∀ W2, Cs W2 g t (cs.take o ++ part ++ cs.drop (o + part.length)) -> Ch [g] W W2 -> wpList Tryz.prog ops Q rest (a.put op.dst undef) W2) : wpList Tryz.prog ops Q (op :: rest) a W := by
 obtain ⟨h2, h3⟩ := setCells_cs part h o hl
 exact wpList_store_mid hgd ty x y ho g o part.toArray hx hy (by simpa using h.there o part.length hl) (by simpa using hi) (all_oneCell_toArray h1) (hK _ h2 h3)
theorem wpList_store_all {ops : Array Oper} {rest : List Oper} {op : Oper} {a : Act} {Q : Exit -> Act -> World -> Prop} (hgd : op.guard = none) (ty : TypeId) (x y : Operand) (ho : op.op = .store ty x y) (part : List Value)
   (hx : a.eval x = .pointer (some ⟨g, 0, none⟩)) (hy : a.eval y = .agg part.toArray) (h : Cs W g t cs) (hl : part.length = cs.length) (hi : (Tryz.prog.info? ty).map (·.size) = some part.length) (h1 : ∀ v ∈ part, v.oneCell' = true)
   (hK : ∀ W2, Cs W2 g t part -> Ch [g] W W2 -> wpList Tryz.prog ops Q rest (a.put op.dst undef) W2) : wpList Tryz.prog ops Q (op :: rest) a W := by
 refine wpList_store_Cs hgd ty x y ho 0 part hx hy h (by omega) hi h1 fun W2 h2 h3 => hK W2 ?_ h3
 rwa [List.take_zero, List.nil_append, List.drop_of_length_le (by omega), List.append_nil] at h2
theorem run_store_one (W : World) (g o : Nat) (ty : TypeId) (v : Value) (hi : (Tryz.prog.info? ty).map (·.size) = some 1) (h1 : v.oneCell' = true) (hc : (W.cell? ⟨g, o, none⟩).isSome = true) (hf : W.frozen? ⟨g, o, none⟩ = false) :
   (Instr.storeAt ty (.pointer (some ⟨g, o, none⟩)) v).run Tryz.prog W = .ok () (W.setCell ⟨g, o, none⟩ v) := by
 have hv : v.cells = #[v] := by cases v <;> first | rfl | (simp [Value.oneCell'] at h1)
 have := run_storeCells_cells (P := Tryz.prog) g o [v] 0 W (fun j hj => by simp at hj; subst hj; simpa using hc) (fun j hj => by simp at hj; subst hj; simpa using hf) (fun u hu => by simp at hu; subst hu; exact h1)
 cases hq : Tryz.prog.info? ty with
 | none => simp [hq] at hi
 | some i =>
   have hs : i.size = 1 := by simpa [hq] using hi
   simp only [Nat.add_zero] at this
   simp only [Instr.storeAt, Instr.sureAddr, Sem.run_bind, Sem.run_pure, Result.andThen_ok]
   simp [storeVar, sizeOf, typeInfo, hq, hv, hs, this, World.setCells]
theorem wpList_set_Cs {ops : Array Oper} {rest : List Oper} {op : Oper} {a : Act} {Q : Exit -> Act -> World -> Prop} (hgd : op.guard = none) (ty : TypeId) (x y : Operand) (ho : op.op = .store ty x y) (o : Nat) (v : Value)
   (hx : a.eval x = .pointer (some ⟨g, o, none⟩)) (hy : a.eval y = v) (hi : (Tryz.prog.info? ty).map (·.size) = some 1) (h1 : v.oneCell' = true) (h : Cs W g t cs) (hl : o < cs.length)
   (hK : ∀ W2, W2 = W.setCell ⟨g, o, none⟩ v -> Cs W2 g t (cs.set o v) -> Ch [g] W W2 -> wpList Tryz.prog ops Q rest (a.put op.dst undef) W2) : wpList Tryz.prog ops Q (op :: rest) a W := by
 refine wpList_plain hgd fun K hK' => ?_
 have hK2 := hK' _ _ (hK _ rfl (h.set o v) ((Ch.refl _ _).set _ _ (.inl (by simp))))
 have hr := run_store_one W g o ty v hi h1 (by rw [h.cell (List.getElem?_eq_getElem hl)]; rfl) (h.free o)
 unfold Oper.wp execOp
 simp only [ho, hx, hy, Sem.run_bind, Sem.run_pure, Result.andThen_ok, hr]
 exact hK2
theorem wpList_load_Cs {ops : Array Oper} {rest : List Oper} {op : Oper} {a : Act} {Q : Exit -> Act -> World -> Prop} (hgd : op.guard = none) (ty : TypeId) (x : Operand) (ho : op.op = .load ty x) (o : Nat) (part : List Value) {d : TypeDesc}
   (hx : a.eval x = .pointer (some ⟨g, o, none⟩)) (h : Cs W g t cs) (hp : ∀ j v, part[j]? = some v -> cs[o + j]? = some v) (hu : Tryz.prog.underlying ty = some d) (hd : d.isRow = true) (hi : (Tryz.prog.info? ty).map (·.size) = some part.length)
   (hK : wpList Tryz.prog ops Q rest (a.put op.dst (.agg part.toArray)) W) : wpList Tryz.prog ops Q (op :: rest) a W :=
 wpList_load_mid hgd ty x ho g o hx part d (h.range o part hp) hu hd hi hK
end
end
theorem zf_one : ∀ v ∈ zf, v.oneCell' = true := frc_one Pl.Fr.zero
set_option maxRecDepth 100000 in
theorem frame_bad (A : Option Addr) (c n s : Nat) (l : List Int) (hn : l.length = n) (hw : (Pl.read l).2 = true) (hs : (Pl.read l).1.sum = s) (hsn : s <= n) (h0 : Pl.gi l 0 = 1) (w : World) (h : Ls w A c l) :
   Calls Tryz.prog 82 #[.slice A n c] w fun e w' => (∃ z : Int, e = .returned (.tuple #[frv (Pl.frameOf l), .int .i64 z])) /\ Ch [] w w' := by
 have hlen := h.rds.len63 hn
 have hcap := h.rds.cap
 have hn14 : 13 < n := by have := (Pl.read_data l hw).1; have := (Pl.read_data l hw).2.2.2.1; omega
 have H := Ad h
 have HN := Ad hn
 have HF := Ad (show Pl.frameOf l = Pl.Fr.zero by unfold Pl.frameOf; rw [h0]; rfl)
 have H0 := Ad h0
 have AC := Ad (ahead_yes A c n s l hn hw hs)
 have i1 : (0 : Int) < n := by omega
 have i2 : ¬ (n : Int) < s := by omega
 clear h hn hw hs hsn h0
 go_enter Tryz.func82, Tryz.ntmps82
 go_wp2_with fail
 refine (AC.out _ (H.out.on ((Ch.refl _ _).alloc _))).mono ?_
 rintro e w' ⟨rfl, hc1⟩
 have hb := Cs.on (Cs.new w zf 49) hc1
 have C1 := Ad (((Ch.refl [] _).alloc _).then hc1)
 obtain ⟨g, o, rfl, hc, -⟩ := (H.out.on C1.out).at_ 0 (by rw [HN.out]; omega)
 rw [gi_rd, H0.out, Nat.add_zero] at hc
 have HB := Ad hb
 clear hb hc1
 go_wp2_with (refine wpList_store_all rfl 49 (.tmp 2) (.tmp 31) rfl zf (by rfl) (by rfl) HB.out rfl size49 zf_one ?_; intro W2 hb2 hc2)
 have HB2 := Ad hb2
 have C2 := Ad (C1.out.trans hc2 (by simp))
 clear hb2 hc2
 go_wp2_with fail
 refine bodyPost_ret (v := .tuple #[frv Pl.Fr.zero, .int .i64 11]) ?_ rfl ⟨⟨11, by rw [HF.out]⟩, C2.out⟩
 exact results_list (rs := [.cell 2 49, .tmp 3]) rfl (by simp) (.cell w.heap.size 49 _ (0, 0) _ rfl HB2.out Tryz.underlying49 rfl size49 (.tmp .nil))
theorem read_bytes (l : List Int) (hw : (Pl.read l).2 = true) : (Pl.read l).1.sum = (Pl.read l).1.data + 8 * (Pl.read l).1.bytes /\ (Pl.read l).1.bytes <= 8 := by
 obtain ⟨d1, d2, d3, d4, d5, d6⟩ := Pl.read_data l hw
 unfold Pl.Hd.bytes
 unfold Pl.Hd.sum at *
 split
 · simp
 · constructor
   · omega
   · omega
theorem read_data39 (l : List Int) (hw : (Pl.read l).2 = true) (hx : (Pl.read l).1.ext = true) : (Pl.read l).1.data = 39 := by
 unfold Pl.read at *
 by_cases h1 : l.length <= 13
 · rw [if_pos h1] at hw; simp at hw
 · rw [if_neg h1] at hw hx ⊢
   by_cases h2 : Pl.gi l 13 = 1
   · rw [if_pos h2] at hw hx ⊢
     split <;> rfl
   · rw [if_neg h2] at hx
     split at hx <;> simp at hx
theorem or18 (a b : Nat) (ha : a < 2048) (hb : b < 262144) : bits BinOp.or IntKind.i64 (IntKind.i64.wrap ((a : Int) * 262144)) (b : Int) = ((a * 262144 + b : Nat) : Int) := by
 have hk : ∀ n : Int, 0 <= n -> n < 2 ^ 40 -> IntKind.i64.wrap n = n := fun n h0 h1 => IntWalk.i64_in _ (by omega)
 have := bits_join .i64 40 (by decide) hk 18 ((a : Int) * 262144) (b : Int) (by omega) (by omega) (by omega) (by omega) (by omega) (by omega)
 rw [IntWalk.i64_in _ (by omega), this]
 omega
theorem u8_wrap {n : Nat} (h : n < 256) : IntKind.u8.wrap (n : Int) = n := by
 rw [IntKind.wrap_u8]; omega
theorem val8 (l : List Int) (hl : Lvs l) (k : Nat) (hk : l.length = k) (b : Nat) (hb : 2 ^ k = b) : Pl.val l 0 < b := by
 have := Pl.val_lt l 0 0 hl (by decide)
 rw [hk, Nat.zero_add, hb] at this
 exact this
def fcs (id : Int) (x r : Bool) (z : Int) (D : List Int) : List Value := [.int .i64 id, .bool x, .bool r, .int .i64 z] ++ D.map (Value.int .u8)
theorem fcs_set (id : Int) (x r : Bool) (z : Int) (D : List Int) (k : Nat) (v : Int) : (fcs id x r z D).set (4 + k) (.int .u8 v) = fcs id x r z (D.set k v) := by
 unfold fcs
 rw [List.set_append_right _ _ (by simp), List.map_set]
 simp
theorem byte_set (l : List Int) (d k : Nat) (hk : k < 8) : (Pl.bytesAt l d k ++ List.replicate (8 - k) 0).set k ((Pl.val ((l.take (d + 8 * (k + 1))).drop (d + 8 * k)) 0 : Nat) : Int) = Pl.bytesAt l d (k + 1) ++ List.replicate (8 - (k + 1)) 0 := by
 rw [List.set_append_right _ _ (by rw [Pl.bytesAt_length]; exact Nat.le_refl _), Pl.bytesAt_length, Nat.sub_self, show 8 - k = (8 - (k + 1)) + 1 by omega, List.replicate_succ]
 simp [Pl.bytesAt]
theorem fcs_eq (id : Int) (x r : Bool) (z : Int) (D : List Int) (h : D.length = 8) : fcs id x r z D = frc (Pl.Fr.of id x r z D) := by
 match D, h with
 | [a, b, c, d, e, f, g, h], _ => rfl
set_option maxRecDepth 100000 in
theorem frame_std (A : Option Addr) (c n s : Nat) (l : List Int) (hn : l.length = n) (hw : (Pl.read l).2 = true) (hx : (Pl.read l).1.ext = false) (hs : (Pl.read l).1.sum = s) (hsn : s <= n) (h0 : Pl.gi l 0 = 0) (w : World) (h : Ls w A c l) :
   Calls Tryz.prog 82 #[.slice A n c] w fun e w' => (∃ z : Int, e = .returned (.tuple #[frv (Pl.frameOf l), .int .i64 z])) /\ Ch [] w w' := by
 have hlen := h.rds.len63 hn
 have hcap := h.rds.cap
 obtain ⟨d1, d2, d3, d4, d5, d6⟩ := Pl.read_data l hw
 obtain ⟨b1, b2⟩ := read_bytes l hw
 have HF := Ad (show Pl.frameOf l = Pl.Fr.of (Pl.ident l false : Nat) false (Pl.read l).1.rtr (Pl.read l).1.size (Pl.bytesAt l (Pl.read l).1.data (Pl.read l).1.bytes ++ List.replicate (8 - (Pl.read l).1.bytes) 0) by unfold Pl.frameOf; rw [if_pos h0, hx])
 have AC := Ad (ahead_yes A c n s l hn hw hs)
 have RC := Ad (read_calls A c n l hn)
 rw [hs] at d5 d6 b1
 have H0 := Ad h0
 generalize Pl.read l = rr at *
 obtain ⟨⟨x, r, ctrl, data, size⟩, wh⟩ := rr
 simp only [] at hw hx hs d1 d2 d3 d4 d5 d6 b1 b2 HF
 generalize Pl.Hd.bytes ⟨x, r, ctrl, data, size⟩ = m at *
 subst hw hx
 unfold hv at RC
 have H := Ad h
 have HN := Ad hn
 have i1 : (0 : Int) < n := by omega
 have i2 : ¬ (n : Int) < s := by omega
 have i3 : (12 : Int) <= n := by omega
 have hq : ((s : Int) - data) / 8 = m := by omega
 have hq0 : (0 : Int) <= (s : Int) - data := by omega
 obtain ⟨A2, cut1, rd2, _⟩ := cut_mid Iv 57 rfl A c 1 12 n (by omega) (by omega) (by omega)
 have cut2 : ∀ W : World, (Instr.slice 57 (.slice A n c) (some (.int .i64 1)) (some (.int .i64 12)) none).run Tryz.prog W = .ok (.slice A2 11 (c - 1)) W := cut1
 have R2 := Ad rd2
 have V2 := Ad (show ((l.take 12).drop 1).length = 11 by simp; omega)
 have B1 := Ad (And.intro hsn b1)
 have VV2 := val8 ((l.take 12).drop 1) ((h.lv.take 12).drop 1) 11 V2.out 2048 (by decide)
 have ID := Ad (show Pl.ident l false = Pl.val ((l.take 12).drop 1) 0 from rfl)
 have FV2 := Ad (fvalue_calls A2 (c - 1) 11 _ V2.out (by decide))
 generalize Pl.val ((l.take 12).drop 1) 0 = v2 at *
 clear cut1 rd2 h hn hs hsn h0 b1
 go_enter Tryz.func82, Tryz.ntmps82
 go_wp2_with fail
 refine (AC.out _ (H.out.on ((Ch.refl _ _).alloc _))).mono ?_
 rintro e w' ⟨rfl, hc1⟩
 have hb := Cs.on (Cs.new w zf 49) hc1
 have C1 := Ad (((Ch.refl [] _).alloc _).then hc1)
 have HB := Ad hb
 obtain ⟨g, o, rfl, hc, -⟩ := (H.out.on C1.out).at_ 0 (by rw [HN.out]; omega)
 rw [gi_rd, H0.out, Nat.add_zero] at hc
 clear hb hc1
 go_wp2_with fail
 refine (RC.out _ (H.out.on C1.out)).mono ?_
 rintro e w2 ⟨rfl, hc2⟩
 have HB2 := Ad (HB.out.on hc2)
 have C2 := Ad (C1.out.then hc2)
 clear hc hc2 HB C1 RC AC
 go_wp2_with fail
 obtain ⟨w3, hw3⟩ : ∃ w3, w2.alloc (.cells #[.bool false, .bool r, .int .i64 ctrl, .int .i64 data, .int .i64 size] 212) = w3 := ⟨_, rfl⟩
 have HH3 := (show Cs w3 w2.heap.size 212 [.bool false, .bool r, .int .i64 ctrl, .int .i64 data, .int .i64 size] from hw3 ▸ Cs.new w2 _ 212)
 have C3 := Ad (show Ch [] w w3 from hw3 ▸ C2.out.alloc _)
 have HB3 := Ad (show Cs w3 w.heap.size 49 zf from hw3 ▸ HB2.out.on ((Ch.refl [] _).alloc _))
 have c0 := HH3.cell (j := 0) rfl
 have c1 := HH3.cell (j := 1) rfl
 have c4 := HH3.cell (j := 4) rfl
 have n0 := World.new_ne _ _ c0
 have hlt := HH3.lt
 have LS := Ad (show ∀ W, Ch [] w3 W -> Ls W A2 (c - 1) ((l.take 12).drop 1) from fun W hW => (H.out.on (C3.out.then hW)).mid (R2.out _ l HN.out (H.out.on (C3.out.then hW)).rds))
 have H3 := Ad HH3
 rw [hw3]
 clear hw3 C2 HB2 HH3
 go_region_held3 (fun W => W.cell? ⟨w2.heap.size, 0, none⟩ = some (.bool false) /\ W.cell? ⟨w2.heap.size, 1, none⟩ = some (.bool r) /\ W.cell? ⟨w2.heap.size, 4, none⟩ = some (.int .i64 size) /\ Aside0 (Ch [] w3 W))
   (first | exact ⟨c0, c1, c4, ⟨(Ch.refl _ _).drew⟩⟩ | (rename _ /\ _ => hk; obtain ⟨k0, k1, k2, kc⟩ := hk; refine ⟨?_, ?_, ?_, ?_⟩ <;> first | exact ⟨((Ch.refl _ _).alloc _).drew⟩ | exact ⟨kc.out.drew⟩ | exact ⟨kc.out.alloc _⟩ | exact kc | go_keep))
   ((go_at_call 114; refine (FV2.out _ ?_).mono ?_; (rename _ /\ _ => hk; exact LS.out _ hk.2.2.2.out); rintro e w' ⟨rfl, rfl⟩))
 all_goals rename _ /\ _ => hk
 all_goals
   clear hk
   obtain ⟨w4, hw4⟩ : ∃ w4, (w3.alloc (.cells #[.int .i64 v2, .bool false, .bool r, .int .i64 size, .int .u8 0, .int .u8 0, .int .u8 0, .int .u8 0, .int .u8 0, .int .u8 0, .int .u8 0, .int .u8 0] 49)).drew = w4 := ⟨_, rfl⟩
   have hwl := HB3.out.lt
   have CC : Ch [] w3 w4 := hw4 ▸ ((Ch.refl _ _).alloc _).drew
   have F4 := Ad (show Cs w4 w3.heap.size 49 (fcs v2 false r size (Pl.bytesAt l data 0 ++ List.replicate (8 - 0) 0)) from hw4 ▸ Cs.new w3 _ 49)
   have H4 := Ad (H3.out.on CC)
   have Z4 := Ad (HB3.out.on CC)
   have C4 := Ad (C3.out.then CC)
   rw [hw4]
   have e0 := H4.out.cell (j := 0) rfl
   have e3 := H4.out.cell (j := 3) rfl
   clear hw4 CC c0 c1 c4 H3 HB3 C3
   go_wp2_with fail
   rw [hq]
   go_loopw [62] (fun v wr => ∃ k : Nat, k <= m /\ v = .int .i64 k /\ Aside0 (Cs wr w3.heap.size 49 (fcs (v2) false r size (Pl.bytesAt l data k ++ List.replicate (8 - k) 0))) /\ Aside0 (Cs wr w2.heap.size 212 [.bool false, .bool r, .int .i64 ctrl, .int .i64 data, .int .i64 size]) /\ Aside0 (Cs wr w.heap.size 49 zf) /\ Aside0 (Ch [] w wr)) (fun v _ => m - (intOf v).toNat)
   case atStart => exact ⟨0, by omega, rfl, ⟨F4.out⟩, ⟨H4.out⟩, ⟨Z4.out⟩, ⟨C4.out⟩⟩
   case round =>
     clear F4 H4 Z4 C4 e0 e3
     obtain ⟨k, hk, rfl, F5, H5, Z5, C5⟩ := hrel
     have e0 := H5.out.cell (j := 0) rfl
     have e3 := H5.out.cell (j := 3) rfl
     by_cases hlt : k < m
     · have hl1 : (l.take (data + 8 * (k + 1))).length = data + 8 * (k + 1) := by have := B1.out; have := HN.out; simp; omega
       obtain ⟨A5, cut5, rd5, _⟩ := cut_mid Iv 57 rfl (some ⟨g, o, none⟩) c (data + 8 * k) (data + 8 * (k + 1)) n (by omega) (by have := B1.out; have := HN.out; omega) (by have := HN.out; omega)
       have q1 : ((data + 8 * k : Nat) : Int) = (data : Int) + 8 * k := by omega
       have q2 : ((data + 8 * (k + 1) : Nat) : Int) = (data : Int) + 8 * ((k : Int) + 1) := by omega
       have q3 : data + 8 * (k + 1) - (data + 8 * k) = 8 := by omega
       rw [q1, q2, q3] at cut5
       have V5 := Ad (show ((l.take (data + 8 * (k + 1))).drop (data + 8 * k)).length = 8 by rw [List.length_drop, hl1]; omega)
       have L5 := Ad ((H.out.on C5.out).mid (rd5 _ l HN.out (H.out.on C5.out).rds))
       have W5 := val8 _ L5.out.lv 8 V5.out 256 (by decide)
       have FV5 := Ad (fvalue_calls A5 (c - (data + 8 * k)) 8 _ V5.out (by decide))
       have BS := Ad (byte_set l data k (by omega))
       have DL := Ad (show (Pl.bytesAt l data k ++ List.replicate (8 - k) (0 : Int)).length = 8 by rw [List.length_append, Pl.bytesAt_length, List.length_replicate]; omega)
       generalize Pl.val ((l.take (data + 8 * (k + 1))).drop (data + 8 * k)) 0 = v5 at *
       have G5 : (fcs (v2) false r size (Pl.bytesAt l data k ++ List.replicate (8 - k) 0))[4 + k]? = some (.int .u8 0) := by
         unfold fcs
         rw [List.getElem?_append_right (by simp), List.getElem?_map, List.getElem?_append_right (by rw [Pl.bytesAt_length]; simp)]
         rw [Pl.bytesAt_length]
         simp only [List.length_cons, List.length_nil, List.getElem?_replicate]
         rw [if_pos (by omega)]
         rfl
       have f5 := F5.out.cell G5
       have g5 := F5.out.free (4 + k)
       have S5 := Ad (F5.out.set (4 + k) (.int .u8 v5))
       have k8 : (k : Int) < 8 := by omega
       have k0 : (0 : Int) <= (k : Int) := by omega
       have w8 := u8_wrap W5
       clear q1 q2 q3 rd5 hl1 G5
       go_wp2_with fail
       refine (FV5.out _ L5.out).mono ?_
       rintro e w' ⟨rfl, rfl⟩
       go_wp2_with fail
       go_roundw
       case rel =>
         refine ⟨k + 1, by omega, by go_num, ⟨?_⟩, ⟨H5.out.far (by simp; omega) _⟩, ⟨Z5.out.far (by simp; omega) _⟩, ⟨C5.out.set _ _ (.inr (by simp; omega))⟩⟩
         have := S5.out
         rw [fcs_set, BS.out] at this
         exact this
       case measure => simp [intOf]; omega
     · obtain rfl : k = m := by omega
       have DL : (Pl.bytesAt l data k ++ List.replicate (8 - k) (0 : Int)).length = 8 := by rw [List.length_append, Pl.bytesAt_length, List.length_replicate]; omega
       have F6 := Ad (F5.out)
       rw [fcs_eq _ _ _ _ _ DL] at F6
       obtain ⟨f, hf⟩ : ∃ f, Pl.Fr.of (v2) false r size (Pl.bytesAt l data k ++ List.replicate (8 - k) 0) = f := ⟨_, rfl⟩
       rw [hf] at F6
       have HFF := Ad (show Pl.frameOf l = f by rw [HF.out, <- hf, ID.out])
       clear hf DL F5 HF
       go_wp2_with (first
         | (refine wpList_load_Cs rfl 49 (.tmp 8) rfl 0 (frc f) (by rfl) F6.out (fun j v hv => by rwa [Nat.zero_add]) Tryz.underlying49 rfl size49 ?_)
         | (refine wpList_store_all rfl 49 (.tmp 2) (.tmp 84) rfl (frc f) (by rfl) (by rfl) Z5.out rfl size49 (frc_one f) ?_; intro W2 hb2 hc2))
       have HB2 := Ad hb2
       have C6 := Ad (C5.out.trans hc2 (by simp))
       clear hb2 hc2
       go_wp2_with fail
       refine bodyPost_ret (v := .tuple #[frv f, .int .i64 0]) ?_ rfl ⟨⟨0, by rw [HFF.out]⟩, C6.out⟩
       exact results_list (rs := [.cell 2 49, .tmp 3]) rfl (by simp) (.cell w.heap.size 49 _ (0, 0) _ rfl HB2.out Tryz.underlying49 rfl size49 (.tmp .nil))
set_option maxRecDepth 100000 in
theorem frame_ext (A : Option Addr) (c n s : Nat) (l : List Int) (hn : l.length = n) (hw : (Pl.read l).2 = true) (hx : (Pl.read l).1.ext = true) (hs : (Pl.read l).1.sum = s) (hsn : s <= n) (h0 : Pl.gi l 0 = 0) (w : World) (h : Ls w A c l) :
   Calls Tryz.prog 82 #[.slice A n c] w fun e w' => (∃ z : Int, e = .returned (.tuple #[frv (Pl.frameOf l), .int .i64 z])) /\ Ch [] w w' := by
 have hlen := h.rds.len63 hn
 have hcap := h.rds.cap
 obtain ⟨d1, d2, d3, d4, d5, d6⟩ := Pl.read_data l hw
 obtain ⟨b1, b2⟩ := read_bytes l hw
 have HF := Ad (show Pl.frameOf l = Pl.Fr.of (Pl.ident l true : Nat) true (Pl.read l).1.rtr (Pl.read l).1.size (Pl.bytesAt l (Pl.read l).1.data (Pl.read l).1.bytes ++ List.replicate (8 - (Pl.read l).1.bytes) 0) by unfold Pl.frameOf; rw [if_pos h0, hx])
 have AC := Ad (ahead_yes A c n s l hn hw hs)
 have RC := Ad (read_calls A c n l hn)
 rw [hs] at d5 d6 b1
 have H0 := Ad h0
 have d39 := read_data39 l hw hx
 generalize Pl.read l = rr at *
 obtain ⟨⟨x, r, ctrl, data, size⟩, wh⟩ := rr
 simp only [] at hw hx hs d1 d2 d3 d4 d5 d6 b1 b2 HF d39
 generalize Pl.Hd.bytes ⟨x, r, ctrl, data, size⟩ = m at *
 subst hw hx
 unfold hv at RC
 have H := Ad h
 have HN := Ad hn
 have i1 : (0 : Int) < n := by omega
 have i2 : ¬ (n : Int) < s := by omega
 have i3 : (12 : Int) <= n := by omega
 have hq : ((s : Int) - data) / 8 = m := by omega
 have hq0 : (0 : Int) <= (s : Int) - data := by omega
 obtain ⟨A2, cut1, rd2, _⟩ := cut_mid Iv 57 rfl A c 1 12 n (by omega) (by omega) (by omega)
 have cut2 : ∀ W : World, (Instr.slice 57 (.slice A n c) (some (.int .i64 1)) (some (.int .i64 12)) none).run Tryz.prog W = .ok (.slice A2 11 (c - 1)) W := cut1
 have R2 := Ad rd2
 have V2 := Ad (show ((l.take 12).drop 1).length = 11 by simp; omega)
 obtain ⟨A3, cut3, rd3, _⟩ := cut_mid Iv 57 rfl A c 14 32 n (by omega) (by omega) (by omega)
 have cut4 : ∀ W : World, (Instr.slice 57 (.slice A n c) (some (.int .i64 14)) (some (.int .i64 32)) none).run Tryz.prog W = .ok (.slice A3 18 (c - 14)) W := cut3
 have R3 := Ad rd3
 have V3 := Ad (show ((l.take 32).drop 14).length = 18 by simp; omega)
 have VV3 := val8 ((l.take 32).drop 14) ((h.lv.take 32).drop 14) 18 V3.out 262144 (by decide)
 clear cut3 rd3
 have B1 := Ad (And.intro hsn b1)
 have VV2 := val8 ((l.take 12).drop 1) ((h.lv.take 12).drop 1) 11 V2.out 2048 (by decide)
 have ID := Ad (show Pl.ident l true = Pl.val ((l.take 12).drop 1) 0 * 262144 + Pl.val ((l.take 32).drop 14) 0 from rfl)
 have FV2 := Ad (fvalue_calls A2 (c - 1) 11 _ V2.out (by decide))
 generalize Pl.val ((l.take 12).drop 1) 0 = v2 at *
 have FV3 := Ad (fvalue_calls A3 (c - 14) 18 _ V3.out (by decide))
 generalize Pl.val ((l.take 32).drop 14) 0 = v3 at *
 clear cut1 rd2 h hn hs hsn h0 b1 d39
 go_enter Tryz.func82, Tryz.ntmps82
 go_wp2_with fail
 refine (AC.out _ (H.out.on ((Ch.refl _ _).alloc _))).mono ?_
 rintro e w' ⟨rfl, hc1⟩
 have hb := Cs.on (Cs.new w zf 49) hc1
 have C1 := Ad (((Ch.refl [] _).alloc _).then hc1)
 have HB := Ad hb
 obtain ⟨g, o, rfl, hc, -⟩ := (H.out.on C1.out).at_ 0 (by rw [HN.out]; omega)
 rw [gi_rd, H0.out, Nat.add_zero] at hc
 clear hb hc1
 go_wp2_with fail
 refine (RC.out _ (H.out.on C1.out)).mono ?_
 rintro e w2 ⟨rfl, hc2⟩
 have HB2 := Ad (HB.out.on hc2)
 have C2 := Ad (C1.out.then hc2)
 clear hc hc2 HB C1 RC AC
 go_wp2_with fail
 obtain ⟨w3, hw3⟩ : ∃ w3, w2.alloc (.cells #[.bool true, .bool r, .int .i64 ctrl, .int .i64 data, .int .i64 size] 212) = w3 := ⟨_, rfl⟩
 have HH3 := (show Cs w3 w2.heap.size 212 [.bool true, .bool r, .int .i64 ctrl, .int .i64 data, .int .i64 size] from hw3 ▸ Cs.new w2 _ 212)
 have C3 := Ad (show Ch [] w w3 from hw3 ▸ C2.out.alloc _)
 have HB3 := Ad (show Cs w3 w.heap.size 49 zf from hw3 ▸ HB2.out.on ((Ch.refl [] _).alloc _))
 have c0 := HH3.cell (j := 0) rfl
 have c1 := HH3.cell (j := 1) rfl
 have c4 := HH3.cell (j := 4) rfl
 have n0 := World.new_ne _ _ c0
 have hlt := HH3.lt
 have LS := Ad (show ∀ W, Ch [] w3 W -> Ls W A2 (c - 1) ((l.take 12).drop 1) from fun W hW => (H.out.on (C3.out.then hW)).mid (R2.out _ l HN.out (H.out.on (C3.out.then hW)).rds))
 have H3 := Ad HH3
 rw [hw3]
 clear hw3 C2 HB2 HH3
 go_region_held3 (fun W => W.cell? ⟨w2.heap.size, 0, none⟩ = some (.bool true) /\ W.cell? ⟨w2.heap.size, 1, none⟩ = some (.bool r) /\ W.cell? ⟨w2.heap.size, 4, none⟩ = some (.int .i64 size) /\ Aside0 (Ch [] w3 W))
   (first | exact ⟨c0, c1, c4, ⟨(Ch.refl _ _).drew⟩⟩ | (rename _ /\ _ => hk; obtain ⟨k0, k1, k2, kc⟩ := hk; refine ⟨?_, ?_, ?_, ?_⟩ <;> first | exact ⟨((Ch.refl _ _).alloc _).drew⟩ | exact ⟨kc.out.drew⟩ | exact ⟨kc.out.alloc _⟩ | exact kc | go_keep))
   ((go_at_call 114; refine (FV2.out _ ?_).mono ?_; (rename _ /\ _ => hk; exact LS.out _ hk.2.2.2.out); rintro e w' ⟨rfl, rfl⟩))
 all_goals rename _ /\ _ => hk
 all_goals
   clear hk
   obtain ⟨w4, hw4⟩ : ∃ w4, (w3.alloc (.cells #[.int .i64 v2, .bool true, .bool r, .int .i64 size, .int .u8 0, .int .u8 0, .int .u8 0, .int .u8 0, .int .u8 0, .int .u8 0, .int .u8 0, .int .u8 0] 49)).drew = w4 := ⟨_, rfl⟩
   have hwl := HB3.out.lt
   have CC : Ch [] w3 w4 := hw4 ▸ ((Ch.refl _ _).alloc _).drew
   have F4 := Ad (show Cs w4 w3.heap.size 49 (fcs v2 true r size (Pl.bytesAt l data 0 ++ List.replicate (8 - 0) 0)) from hw4 ▸ Cs.new w3 _ 49)
   have H4 := Ad (H3.out.on CC)
   have Z4 := Ad (HB3.out.on CC)
   have C4 := Ad (C3.out.then CC)
   rw [hw4]
   have e0 := H4.out.cell (j := 0) rfl
   have e3 := H4.out.cell (j := 3) rfl
   clear hw4 CC c0 c1 c4 H3 HB3 C3
   have e00 := F4.out.cell (j := 0) rfl
   have g00 := F4.out.free 0
   have LS4 := Ad (show ∀ W, Ch [] w W -> Ls W A3 (c - 14) ((l.take 32).drop 14) from fun W hW => (H.out.on hW).mid (R3.out _ l HN.out (H.out.on hW).rds))
   have OR := Ad (or18 v2 v3 VV2 VV3)
   have hv3 : (v3 : Int) < 262144 := by omega
   go_wp2_with fail
   refine wp_region_still_tail 8 (by kernel_rfl) (by kernel_rfl) ?_
   simp only [List.take_succ_cons, List.take_zero, List.drop_succ_cons, List.drop_zero]
   change wpStill _ _ (World.drew _) _ _ _
   obtain ⟨w5, hw5⟩ : ∃ w5, w4.drew = w5 := ⟨_, rfl⟩
   rw [hw5]
   have CC : Ch [] w4 w5 := hw5 ▸ (Ch.refl _ _).drew
   have F5 := Ad (F4.out.on CC)
   have H5 := Ad (H4.out.on CC)
   have Z5 := Ad (Z4.out.on CC)
   have C5 := Ad (C4.out.then CC)
   have HW5 := Ad hw5
   clear F4 H4 Z4 C4 CC hw5 e0 e3 e00 g00
   have e00 := F5.out.cell (j := 0) rfl
   have g00 := F5.out.free 0
   have e0 := H5.out.cell (j := 0) rfl
   have e3 := H5.out.cell (j := 3) rfl
   repeat still_step
   still_call ((FV3.out _ (LS4.out _ C5.out)).mono (fun e w' h => ⟨h.1, h.2.symm⟩))
   repeat still_step
   try refine wpStill_nil ?_
   change wpList _ _ _ _ _ w4.drew
   rw [HW5.out]
   obtain ⟨v6, hv6⟩ : ∃ v6 : Nat, v2 * 262144 + v3 = v6 := ⟨_, rfl⟩
   rw [hv6] at ID OR
   clear hv6 LS4 e0 e3 e00 g00
   refine wpList_set_Cs (cs := fcs v2 true r size (Pl.bytesAt l data 0 ++ List.replicate (8 - 0) 0)) rfl 3 _ _ rfl 0 (.int .i64 v6) (by rfl) (by rw [<- OR.out]; rfl) size3 rfl F5.out (by simp [fcs]) ?_
   intro w6 hw6 f6 c6
   have F4 := Ad (show Cs w6 w3.heap.size 49 (fcs v6 true r size (Pl.bytesAt l data 0 ++ List.replicate (8 - 0) 0)) from f6)
   have H4 := Ad (H5.out.keep c6 (by simp; omega))
   have Z4 := Ad (Z5.out.keep c6 (by simp; omega))
   have C4 := Ad (C5.out.trans c6 (by simp; omega))
   clear F5 H5 Z5 C5 hw6 f6 c6
   have e0 := H4.out.cell (j := 0) rfl
   have e3 := H4.out.cell (j := 3) rfl
   go_wp2_with fail
   rw [hq]
   go_loopw [62] (fun v wr => ∃ k : Nat, k <= m /\ v = .int .i64 k /\ Aside0 (Cs wr w3.heap.size 49 (fcs (v6) true r size (Pl.bytesAt l data k ++ List.replicate (8 - k) 0))) /\ Aside0 (Cs wr w2.heap.size 212 [.bool true, .bool r, .int .i64 ctrl, .int .i64 data, .int .i64 size]) /\ Aside0 (Cs wr w.heap.size 49 zf) /\ Aside0 (Ch [] w wr)) (fun v _ => m - (intOf v).toNat)
   case atStart => exact ⟨0, by omega, rfl, ⟨F4.out⟩, ⟨H4.out⟩, ⟨Z4.out⟩, ⟨C4.out⟩⟩
   case round =>
     clear F4 H4 Z4 C4 e0 e3
     obtain ⟨k, hk, rfl, F5, H5, Z5, C5⟩ := hrel
     have e0 := H5.out.cell (j := 0) rfl
     have e3 := H5.out.cell (j := 3) rfl
     by_cases hlt : k < m
     · have hl1 : (l.take (data + 8 * (k + 1))).length = data + 8 * (k + 1) := by have := B1.out; have := HN.out; simp; omega
       obtain ⟨A5, cut5, rd5, _⟩ := cut_mid Iv 57 rfl (some ⟨g, o, none⟩) c (data + 8 * k) (data + 8 * (k + 1)) n (by omega) (by have := B1.out; have := HN.out; omega) (by have := HN.out; omega)
       have q1 : ((data + 8 * k : Nat) : Int) = (data : Int) + 8 * k := by omega
       have q2 : ((data + 8 * (k + 1) : Nat) : Int) = (data : Int) + 8 * ((k : Int) + 1) := by omega
       have q3 : data + 8 * (k + 1) - (data + 8 * k) = 8 := by omega
       rw [q1, q2, q3] at cut5
       have V5 := Ad (show ((l.take (data + 8 * (k + 1))).drop (data + 8 * k)).length = 8 by rw [List.length_drop, hl1]; omega)
       have L5 := Ad ((H.out.on C5.out).mid (rd5 _ l HN.out (H.out.on C5.out).rds))
       have W5 := val8 _ L5.out.lv 8 V5.out 256 (by decide)
       have FV5 := Ad (fvalue_calls A5 (c - (data + 8 * k)) 8 _ V5.out (by decide))
       have BS := Ad (byte_set l data k (by omega))
       have DL := Ad (show (Pl.bytesAt l data k ++ List.replicate (8 - k) (0 : Int)).length = 8 by rw [List.length_append, Pl.bytesAt_length, List.length_replicate]; omega)
       generalize Pl.val ((l.take (data + 8 * (k + 1))).drop (data + 8 * k)) 0 = v5 at *
       have G5 : (fcs (v6) true r size (Pl.bytesAt l data k ++ List.replicate (8 - k) 0))[4 + k]? = some (.int .u8 0) := by
         unfold fcs
         rw [List.getElem?_append_right (by simp), List.getElem?_map, List.getElem?_append_right (by rw [Pl.bytesAt_length]; simp)]
         rw [Pl.bytesAt_length]
         simp only [List.length_cons, List.length_nil, List.getElem?_replicate]
         rw [if_pos (by omega)]
         rfl
       have f5 := F5.out.cell G5
       have g5 := F5.out.free (4 + k)
       have S5 := Ad (F5.out.set (4 + k) (.int .u8 v5))
       have k8 : (k : Int) < 8 := by omega
       have k0 : (0 : Int) <= (k : Int) := by omega
       have w8 := u8_wrap W5
       clear q1 q2 q3 rd5 hl1 G5
       go_wp2_with fail
       refine (FV5.out _ L5.out).mono ?_
       rintro e w' ⟨rfl, rfl⟩
       go_wp2_with fail
       go_roundw
       case rel =>
         refine ⟨k + 1, by omega, by go_num, ⟨?_⟩, ⟨H5.out.far (by simp; omega) _⟩, ⟨Z5.out.far (by simp; omega) _⟩, ⟨C5.out.set _ _ (.inr (by simp; omega))⟩⟩
         have := S5.out
         rw [fcs_set, BS.out] at this
         exact this
       case measure => simp [intOf]; omega
     · obtain rfl : k = m := by omega
       have DL : (Pl.bytesAt l data k ++ List.replicate (8 - k) (0 : Int)).length = 8 := by rw [List.length_append, Pl.bytesAt_length, List.length_replicate]; omega
       have F6 := Ad (F5.out)
       rw [fcs_eq _ _ _ _ _ DL] at F6
       obtain ⟨f, hf⟩ : ∃ f, Pl.Fr.of (v6) true r size (Pl.bytesAt l data k ++ List.replicate (8 - k) 0) = f := ⟨_, rfl⟩
       rw [hf] at F6
       have HFF := Ad (show Pl.frameOf l = f by rw [HF.out, <- hf, ID.out])
       clear hf DL F5 HF
       go_wp2_with (first
         | (refine wpList_load_Cs rfl 49 (.tmp 8) rfl 0 (frc f) (by rfl) F6.out (fun j v hv => by rwa [Nat.zero_add]) Tryz.underlying49 rfl size49 ?_)
         | (refine wpList_store_all rfl 49 (.tmp 2) (.tmp 84) rfl (frc f) (by rfl) (by rfl) Z5.out rfl size49 (frc_one f) ?_; intro W2 hb2 hc2))
       have HB2 := Ad hb2
       have C6 := Ad (C5.out.trans hc2 (by simp))
       clear hb2 hc2
       go_wp2_with fail
       refine bodyPost_ret (v := .tuple #[frv f, .int .i64 0]) ?_ rfl ⟨⟨0, by rw [HFF.out]⟩, C6.out⟩
       exact results_list (rs := [.cell 2 49, .tmp 3]) rfl (by simp) (.cell w.heap.size 49 _ (0, 0) _ rfl HB2.out Tryz.underlying49 rfl size49 (.tmp .nil))
theorem frame_calls (A : Option Addr) (c n s : Nat) (l : List Int) (hn : l.length = n) (hw : (Pl.read l).2 = true) (hs : (Pl.read l).1.sum = s) (hsn : s <= n) (w : World) (h : Ls w A c l) :
   Calls Tryz.prog 82 #[.slice A n c] w fun e w' => (∃ z : Int, e = .returned (.tuple #[frv (Pl.frameOf l), .int .i64 z])) /\ Ch [] w w' := by
 have h0 : Pl.gi l 0 = 0 ∨ Pl.gi l 0 = 1 := h.lv _ (rd_mem (by have := (Pl.read_data l hw).1; have := (Pl.read_data l hw).2.2.2.1; omega))
 rcases h0 with h0 | h0
 · cases hx : (Pl.read l).1.ext
   · exact frame_std A c n s l hn hw hx hs hsn h0 w h
   · exact frame_ext A c n s l hn hw hx hs hsn h0 w h
 · exact frame_bad A c n s l hn hw hs hsn h0 w h
structure Sl (α : Type) where
 A : Option Addr
 c : Nat
 l : List α
def cat {α : Type} (L : List (Sl α)) : List α := L.flatMap (·.l)
theorem cat_snoc {α : Type} (L : List (Sl α)) (k : Nat) (x : Sl α) (h : L[k]? = some x) : cat (L.take (k + 1)) = cat (L.take k) ++ x.l := by
 unfold cat
 rw [List.take_add_one, h]
 simp
theorem cat_le {α : Type} (L : List (Sl α)) (k : Nat) : (cat (L.take k)).length <= (cat L).length := by
 unfold cat
 have := List.take_append_drop k L
 conv => rhs; rw [<- this]
 rw [List.flatMap_append, List.length_append]
 omega
structure Sls {α : Type} (E : El α) (w : World) (X : Option Addr) (L : List (Sl α)) : Prop where
 at_ : ∀ i x, L[i]? = some x -> ∃ g o, X = some ⟨g, o, none⟩ /\ w.cell? ⟨g, o + i, none⟩ = some (.slice x.A x.l.length x.c) /\ Rd E w x.A x.c x.l
theorem Sls.on {α : Type} {E : El α} {w w' : World} {X : Option Addr} {L : List (Sl α)} (h : Sls E w X L) (hc : Ch [] w w') : Sls E w' X L :=
 ⟨fun i x hx => by obtain ⟨g, o, e, h1, h2⟩ := h.at_ i x hx; exact ⟨g, o, e, hc.cell h1 (by simp), h2.on hc⟩⟩
theorem grow_int (n : Nat) (h0 : 0 < n) (hn : n * Iv.bytes <= 140737488355328) (w : World) :
   Calls Tryz.prog 173 #[.slice none 0 0, .int .i64 n] w fun e w' => ∃ A c q, e = .returned (.slice A 0 c) /\ Ow Iv w' w.heap.size q A c [] /\ n <= c /\ Ch [] w w' := by
 obtain ⟨i0, hi, hzz⟩ := Option.map_eq_some_iff.1 Iv.info
 simp only [Prod.mk.injEq] at hzz
 obtain ⟨hz0, hz1, hz2⟩ := hzz
 have hnb : n <= 140737488355328 := Nat.le_trans (Nat.le_mul_of_pos_right _ Iv.by0) hn
 have hlm : n <= maxLen := by unfold maxLen; omega
 have hge := grownCap_ge w n 0 Iv.t
 have hcm := grownCap_le_maxLen w n 0 Iv.t hlm
 have hrun := Ad (Lib.run_append_nil_zeros (P := Tryz.prog) w 57 3 57 Iv.t i0 Iv.zero .i64 .i64 Iv.und Tryz.underlying3 hi hz0 n h0 (by rw [hz1]; exact Iv.sz0) (by omega) (by rw [hz2]; omega))
 have hO : Ow Iv (w.drew.alloc (.cells (Builtin.zeroCells Iv.zero.cells n ++ Builtin.zeroCells Iv.zero.cells (grownCap w n 0 Iv.t - n)) Iv.t)) w.heap.size (some w.heap.size) (some ⟨w.heap.size, 0, none⟩) (grownCap w n 0 Iv.t) [] := by
   refine ⟨.inr ⟨_, _, rfl, rfl, Nat.le_refl _, heap_alloc_new w.drew _, by simp, ?_, hcm, by simp [El.flat]⟩⟩
   simp only [Array.size_append, size_zeroCells, Iv.hz]
   rw [<- Nat.add_mul]
   exact Nat.mul_le_mul_right _ (by omega)
 have HO := Ad hO
 have hc0 : Ch [] w (w.drew.alloc (.cells (Builtin.zeroCells Iv.zero.cells n ++ Builtin.zeroCells Iv.zero.cells (grownCap w n 0 Iv.t - n)) Iv.t)) := (Ch.refl _ _).drew.alloc _
 have cut := cut_take Iv 57 rfl (some ⟨w.heap.size, 0, none⟩) (grownCap w n 0 Iv.t) 0 n (by omega) hge
 rw [show ((0 : Nat) : Int) = 0 from rfl] at cut
 generalize hG : grownCap w n 0 Iv.t = C at *
 generalize (w.drew.alloc _) = W2 at *
 have H0 := Ad hc0
 have HG := Ad hge
 have i0 : (0 : Int) < n := by omega
 have ib : (n : Int) <= 140737488355328 := by omega
 clear hO hc0 hi hz0 hz1 hz2 hn hnb hlm hcm hG hge
 go_enter Tryz.func173, Tryz.ntmps173
 go_wp2_with (at_builtin; refine Lib.wpList_append_run w rfl (.tmp 20) (.tmp 21) 57 3 rfl (.slice none 0 0) (.int .i64 n) (by rfl) (by rfl) _ _ hrun.out ?_)
 go_ret
 exact ⟨_, C, _, rfl, HO.out, HG.out, H0.out⟩
theorem concat_int (X : Option Addr) (cx m : Nat) (L : List (Sl Int)) (hm : L.length = m) (hpos : 0 < (cat L).length) (hb : (cat L).length * Iv.bytes <= 140737488355328) (hm2 : m <= 100) (w : World) (h : Sls Iv w X L) :
   Calls Tryz.prog 157 #[.slice X m cx] w fun e w' => ∃ A c q n, e = .returned (.slice A n c) /\ n = (cat L).length /\ Ow Iv w' w.heap.size q A c (cat L) /\ Ch [] w w' := by
 have H := Ad h
 have HM := Ad hm
 have HB := Ad hb
 have hbig : (cat L).length <= 140737488355328 := Nat.le_trans (Nat.le_mul_of_pos_right _ Iv.by0) hb
 clear h hm hb
 go_enter Tryz.func157, Tryz.ntmps157
 go_wp2_with fail
 go_loop [3, 11] (fun s i => ∃ k : Nat, k <= m /\ i = .int .i64 k /\ s = .int .i64 (cat (L.take k)).length) (fun _ i => m - (intOf i).toNat)
 case atStart => exact ⟨0, by omega, rfl, rfl⟩
 case round =>
   obtain ⟨k, hk, rfl, rfl⟩ := hrel
   by_cases hlt : k < m
   · obtain ⟨x, hx⟩ : ∃ x, L[k]? = some x := ⟨_, List.getElem?_eq_getElem (by rw [HM.out]; exact hlt)⟩
     obtain ⟨g, o, rfl, hc, -⟩ := H.out.at_ k x hx
     have hs := cat_snoc L k x hx
     have hl1 : (cat (L.take (k + 1))).length = (cat (L.take k)).length + x.l.length := by rw [hs, List.length_append]
     have hl2 := cat_le L (k + 1)
     generalize (cat (L.take k)).length = a at *
     generalize x.l.length = b at *
     have HL := Ad hl1
     have hab : (a : Int) + b <= 140737488355328 := by omega
     clear hs hl1 hl2 hx
     go_wp2_with fail
     go_round
     case rel => exact ⟨k + 1, by omega, by go_num, by rw [HL.out]; go_num⟩
     case measure => simp [intOf]; omega
   · obtain rfl : k = m := by omega
     rw [show L.take k = L from List.take_of_length_le (by rw [HM.out]; exact Nat.le_refl _)]
     obtain ⟨N, hN⟩ : ∃ N, (cat L).length = N := ⟨_, rfl⟩
     rw [hN] at hpos hbig HB ⊢
     have HN := Ad hN
     clear hN
     go_wp2_with fail
     refine (grow_int N hpos HB.out _).mono ?_
     rintro e w1 ⟨A1, c1, q1, rfl, hO1, -, hC1⟩
     have O1 := Ad hO1
     have C1 := Ad hC1
     clear hO1 hC1
     go_wp2_with fail
     go_loopw [6, 27] (fun v i wr => ∃ j : Nat, j <= k /\ i = .int .i64 j /\ (∃ A c q n, v = .slice A n c /\ Aside0 (n = (cat (L.take j)).length) /\ Aside0 (Ow Iv wr w.heap.size q A c (cat (L.take j)))) /\ Aside0 (Ch [] w wr)) (fun _ i _ => k - (intOf i).toNat)
     case atStart => exact ⟨0, by omega, rfl, ⟨A1, c1, q1, 0, rfl, ⟨rfl⟩, O1⟩, C1⟩
     case round =>
       clear O1 C1
       obtain ⟨j, hj, rfl, ⟨A, c, q, n, rfl, NL, O⟩, C⟩ := hrel
       by_cases hlt : j < k
       · obtain ⟨x, hx⟩ : ∃ x, L[j]? = some x := ⟨_, List.getElem?_eq_getElem (by rw [HM.out]; exact hlt)⟩
         obtain ⟨g, o, rfl, hc, hr⟩ := (H.out.on C.out).at_ j x hx
         have HS := Ad (cat_snoc L j x hx)
         have hl1 : (cat (L.take (j + 1))).length = n + x.l.length := by rw [HS.out, List.length_append, NL.out]
         have hl2 := cat_le L (j + 1)
         rw [HN.out] at hl2
         obtain ⟨b, hb⟩ : ∃ b, x.l.length = b := ⟨_, rfl⟩
         rw [hb] at hc hl1
         have HL := Ad hl1
         have R := Ad hr
         have XB := Ad hb
         have hnb : (n + b) * Iv.bytes <= 140737488355328 := Nat.le_trans (Nat.mul_le_mul_right _ (by omega)) HB.out
         have NB := Ad hnb
         clear hl1 hl2 hx hr hb hnb
         go_wp2_with (at_builtin; refine wpList_append_Ow (E := Iv) rfl (.tmp 31) (.tmp 32) 57 rfl rfl x.A b x.c x.l (by rfl) (by rfl) NL.out.symm O.out R.out XB.out NB.out C.out.size ?_; intro A' c' q' W' hO' hC' _)
         have O2 := Ad hO'
         have C2 := Ad (C.out.trans hC' (by
           intro y hy
           simp at hy
           exact .inr (O.out.size y hy).1))
         clear hO' hC'
         go_wp2_with fail
         go_roundw
         case rel => exact ⟨j + 1, by omega, by go_num, ⟨A', c', q', _, rfl, ⟨HL.out.symm⟩, ⟨by rw [HS.out]; exact O2.out⟩⟩, C2⟩
         case measure => simp [intOf]; omega
       · obtain rfl : j = k := by omega
         have HT : L.take j = L := List.take_of_length_le (by rw [HM.out]; exact Nat.le_refl _)
         rw [HT] at NL O
         clear HT
         go_wp2_with fail
         go_ret
         exact ⟨A, c, q, n, rfl, NL.out, O.out, C.out⟩
theorem grow_run (n : Nat) (h0 : 0 < n) (hn : n * Rv.bytes <= 140737488355328) (w : World) :
   Calls Tryz.prog 84 #[.slice none 0 0, .int .i64 n] w fun e w' => ∃ A c q, e = .returned (.slice A 0 c) /\ Ow Rv w' w.heap.size q A c [] /\ n <= c /\ Ch [] w w' := by
 obtain ⟨i0, hi, hzz⟩ := Option.map_eq_some_iff.1 Rv.info
 simp only [Prod.mk.injEq] at hzz
 obtain ⟨hz0, hz1, hz2⟩ := hzz
 have hnb : n <= 140737488355328 := Nat.le_trans (Nat.le_mul_of_pos_right _ Rv.by0) hn
 have hlm : n <= maxLen := by unfold maxLen; omega
 have hge := grownCap_ge w n 0 Rv.t
 have hcm := grownCap_le_maxLen w n 0 Rv.t hlm
 have hrun := Ad (Lib.run_append_nil_zeros (P := Tryz.prog) w 39 3 39 Rv.t i0 Rv.zero .i64 .i64 Rv.und Tryz.underlying3 hi hz0 n h0 (by rw [hz1]; exact Rv.sz0) (by omega) (by rw [hz2]; omega))
 have hO : Ow Rv (w.drew.alloc (.cells (Builtin.zeroCells Rv.zero.cells n ++ Builtin.zeroCells Rv.zero.cells (grownCap w n 0 Rv.t - n)) Rv.t)) w.heap.size (some w.heap.size) (some ⟨w.heap.size, 0, none⟩) (grownCap w n 0 Rv.t) [] := by
   refine ⟨.inr ⟨_, _, rfl, rfl, Nat.le_refl _, heap_alloc_new w.drew _, by simp, ?_, hcm, by simp [El.flat]⟩⟩
   simp only [Array.size_append, size_zeroCells, Rv.hz]
   rw [<- Nat.add_mul]
   exact Nat.mul_le_mul_right _ (by omega)
 have HO := Ad hO
 have hc0 : Ch [] w (w.drew.alloc (.cells (Builtin.zeroCells Rv.zero.cells n ++ Builtin.zeroCells Rv.zero.cells (grownCap w n 0 Rv.t - n)) Rv.t)) := (Ch.refl _ _).drew.alloc _
 have cut := cut_take Rv 39 rfl (some ⟨w.heap.size, 0, none⟩) (grownCap w n 0 Rv.t) 0 n (by omega) hge
 rw [show ((0 : Nat) : Int) = 0 from rfl] at cut
 generalize hG : grownCap w n 0 Rv.t = C at *
 generalize (w.drew.alloc _) = W2 at *
 have H0 := Ad hc0
 have HG := Ad hge
 have i0 : (0 : Int) < n := by omega
 have ib : (n : Int) <= 140737488355328 := by omega
 clear hO hc0 hi hz0 hz1 hz2 hn hnb hlm hcm hG hge
 go_enter Tryz.func84, Tryz.ntmps84
 go_wp2_with (at_builtin; refine Lib.wpList_append_run w rfl (.tmp 20) (.tmp 21) 39 3 rfl (.slice none 0 0) (.int .i64 n) (by rfl) (by rfl) _ _ hrun.out ?_)
 go_ret
 exact ⟨_, C, _, rfl, HO.out, HG.out, H0.out⟩
theorem concat_run (X : Option Addr) (cx m : Nat) (L : List (Sl Run)) (hm : L.length = m) (hpos : 0 < (cat L).length) (hb : (cat L).length * Rv.bytes <= 140737488355328) (hm2 : m <= 100) (w : World) (h : Sls Rv w X L) :
   Calls Tryz.prog 67 #[.slice X m cx] w fun e w' => ∃ A c q n, e = .returned (.slice A n c) /\ n = (cat L).length /\ Ow Rv w' w.heap.size q A c (cat L) /\ Ch [] w w' := by
 have H := Ad h
 have HM := Ad hm
 have HB := Ad hb
 have hbig : (cat L).length <= 140737488355328 := Nat.le_trans (Nat.le_mul_of_pos_right _ Rv.by0) hb
 clear h hm hb
 go_enter Tryz.func67, Tryz.ntmps67
 go_wp2_with fail
 go_loop [3, 11] (fun s i => ∃ k : Nat, k <= m /\ i = .int .i64 k /\ s = .int .i64 (cat (L.take k)).length) (fun _ i => m - (intOf i).toNat)
 case atStart => exact ⟨0, by omega, rfl, rfl⟩
 case round =>
   obtain ⟨k, hk, rfl, rfl⟩ := hrel
   by_cases hlt : k < m
   · obtain ⟨x, hx⟩ : ∃ x, L[k]? = some x := ⟨_, List.getElem?_eq_getElem (by rw [HM.out]; exact hlt)⟩
     obtain ⟨g, o, rfl, hc, -⟩ := H.out.at_ k x hx
     have hs := cat_snoc L k x hx
     have hl1 : (cat (L.take (k + 1))).length = (cat (L.take k)).length + x.l.length := by rw [hs, List.length_append]
     have hl2 := cat_le L (k + 1)
     generalize (cat (L.take k)).length = a at *
     generalize x.l.length = b at *
     have HL := Ad hl1
     have hab : (a : Int) + b <= 140737488355328 := by omega
     clear hs hl1 hl2 hx
     go_wp2_with fail
     go_round
     case rel => exact ⟨k + 1, by omega, by go_num, by rw [HL.out]; go_num⟩
     case measure => simp [intOf]; omega
   · obtain rfl : k = m := by omega
     rw [show L.take k = L from List.take_of_length_le (by rw [HM.out]; exact Nat.le_refl _)]
     obtain ⟨N, hN⟩ : ∃ N, (cat L).length = N := ⟨_, rfl⟩
     rw [hN] at hpos hbig HB ⊢
     have HN := Ad hN
     clear hN
     go_wp2_with fail
     refine (grow_run N hpos HB.out _).mono ?_
     rintro e w1 ⟨A1, c1, q1, rfl, hO1, -, hC1⟩
     have O1 := Ad hO1
     have C1 := Ad hC1
     clear hO1 hC1
     go_wp2_with fail
     go_loopw [6, 27] (fun v i wr => ∃ j : Nat, j <= k /\ i = .int .i64 j /\ (∃ A c q n, v = .slice A n c /\ Aside0 (n = (cat (L.take j)).length) /\ Aside0 (Ow Rv wr w.heap.size q A c (cat (L.take j)))) /\ Aside0 (Ch [] w wr)) (fun _ i _ => k - (intOf i).toNat)
     case atStart => exact ⟨0, by omega, rfl, ⟨A1, c1, q1, 0, rfl, ⟨rfl⟩, O1⟩, C1⟩
     case round =>
       clear O1 C1
       obtain ⟨j, hj, rfl, ⟨A, c, q, n, rfl, NL, O⟩, C⟩ := hrel
       by_cases hlt : j < k
       · obtain ⟨x, hx⟩ : ∃ x, L[j]? = some x := ⟨_, List.getElem?_eq_getElem (by rw [HM.out]; exact hlt)⟩
         obtain ⟨g, o, rfl, hc, hr⟩ := (H.out.on C.out).at_ j x hx
         have HS := Ad (cat_snoc L j x hx)
         have hl1 : (cat (L.take (j + 1))).length = n + x.l.length := by rw [HS.out, List.length_append, NL.out]
         have hl2 := cat_le L (j + 1)
         rw [HN.out] at hl2
         obtain ⟨b, hb⟩ : ∃ b, x.l.length = b := ⟨_, rfl⟩
         rw [hb] at hc hl1
         have HL := Ad hl1
         have R := Ad hr
         have XB := Ad hb
         have hnb : (n + b) * Rv.bytes <= 140737488355328 := Nat.le_trans (Nat.mul_le_mul_right _ (by omega)) HB.out
         have NB := Ad hnb
         clear hl1 hl2 hx hr hb hnb
         go_wp2_with (at_builtin; refine wpList_append_Ow (E := Rv) rfl (.tmp 31) (.tmp 32) 39 rfl rfl x.A b x.c x.l (by rfl) (by rfl) NL.out.symm O.out R.out XB.out NB.out C.out.size ?_; intro A' c' q' W' hO' hC' _)
         have O2 := Ad hO'
         have C2 := Ad (C.out.trans hC' (by
           intro y hy
           simp at hy
           exact .inr (O.out.size y hy).1))
         clear hO' hC'
         go_wp2_with fail
         go_roundw
         case rel => exact ⟨j + 1, by omega, by go_num, ⟨A', c', q', _, rfl, ⟨HL.out.symm⟩, ⟨by rw [HS.out]; exact O2.out⟩⟩, C2⟩
         case measure => simp [intOf]; omega
       · obtain rfl : j = k := by omega
         have HT : L.take j = L := List.take_of_length_le (by rw [HM.out]; exact Nat.le_refl _)
         rw [HT] at NL O
         clear HT
         go_wp2_with fail
         go_ret
         exact ⟨A, c, q, n, rfl, NL.out, O.out, C.out⟩
theorem Rd.u8 {w : World} {A : Option Addr} {c : Nat} {l : List Int} (h : Rd By w A c l) (k : Nat) (hk : k < l.length) : ∃ g o, A = some ⟨g, o, none⟩ /\ w.cell? ⟨g, o + k, none⟩ = some (.int .u8 (Go.Proofs.YtjoehjclaonneaaGreatW.PrintWords.rd l k)) := by
 obtain ⟨g, o, e, hc⟩ := h.cells (rd_get hk)
 exact ⟨g, o, e, by have := hc 0 _ rfl; rwa [show o + k * By.sz + 0 = o + k from by simp [By]] at this⟩
theorem max_calls (A : Option Addr) (c n : Nat) (l : List Int) (hn : l.length + 1 = n) (hb : ∀ x ∈ l, 0 <= x /\ x < 256) (w : World) (h : Rd By w A c (0 :: l)) :
   Calls Tryz.prog 41 #[.slice A n c] w fun e w' => e = .returned (.int .u8 (Pl.mxb l 0)) /\ w = w' := by
 have hlen := h.len63 (n := n) (by simpa using hn)
 have H := Ad h
 have HN := Ad hn
 obtain ⟨g, o, rfl, hc⟩ := h.u8 0 (by simp)
 have h0 : (1 : Int) <= n := by omega
 have e0 : rd (0 :: l) ((0 : Nat) : Int) = 0 := rfl
 rw [e0, Nat.add_zero] at hc
 clear h hn e0
 go_enter Tryz.func41, Tryz.ntmps41
 go_wp2_with fail
 clear hc
 go_loop [3, 4] (fun m i => ∃ k : Nat, k <= l.length /\ i = .int .i64 (k + 1 : Nat) /\ m = .int .u8 (Pl.mxb (l.take k) 0)) (fun _ i => n - (intOf i).toNat)
 case atStart => exact ⟨0, by omega, rfl, rfl⟩
 case round =>
   obtain ⟨k, hk, rfl, rfl⟩ := hrel
   by_cases hlt : k < l.length
   · obtain ⟨g', o', e', hc⟩ := H.out.u8 (k + 1) (by simp; omega)
     obtain ⟨rfl, rfl⟩ : g' = g /\ o' = o := by simp at e'; exact ⟨e'.1.symm, e'.2.symm⟩
     have er : rd (0 :: l) ((k + 1 : Nat) : Int) = rd l k := by unfold rd; simp
     rw [er] at hc
     have hx := hb _ (rd_mem hlt)
     have HS := Ad (show Pl.mxb (l.take (k + 1)) 0 = if Pl.mxb (l.take k) 0 < rd l k then rd l k else Pl.mxb (l.take k) 0 by rw [take_rd l k hlt, Pl.mxb_snoc])
     have hi : ((k + 1 : Nat) : Int) < n := by have := HN.out; omega
     have hi0 : (0 : Int) <= ((k + 1 : Nat) : Int) := by omega
     clear e' er
     generalize Pl.mxb (l.take k) 0 = m at *
     generalize rd l k = x at *
     by_cases hmx : m < x
     · rw [if_pos hmx] at HS
       go_wp2_with fail
       go_round
       case rel => exact ⟨k + 1, by omega, by go_num, by rw [HS.out]⟩
       case measure => simp [intOf]; omega
     · rw [if_neg hmx] at HS
       go_wp2_with fail
       go_round
       case rel => exact ⟨k + 1, by omega, by go_num, by rw [HS.out]⟩
       case measure => simp [intOf]; omega
   · obtain rfl : k = l.length := by omega
     have hi : ((l.length + 1 : Nat) : Int) = n := by have := HN.out; omega
     rw [List.take_length]
     go_wp2_with fail
     go_ret
     exact ⟨rfl, rfl⟩
theorem arr47 : Tryz.prog.underlying 47 = some (.array (Tryz.prog.arrayLen 47) (Tryz.prog.elem 47)) := by kernel_rfl
theorem len47 : Tryz.prog.arrayLen 47 = 8 := by kernel_rfl
theorem elem47 : Tryz.prog.elem 47 = 5 := by kernel_rfl
theorem cut_data (W : World) (b u : Nat) (hu : u <= 8) :
   (Instr.sliceAt 47 (.pointer (some ⟨b, 4, none⟩)) (some (.int .i64 (u : Int))) none none).run Tryz.prog W = .ok (.slice (some (if 8 = u then ⟨b, 4, none⟩ else ⟨b, 4 + u, none⟩)) (8 - u) (8 - u)) W := by
 obtain ⟨i, hi, hs⟩ := Option.map_eq_some_iff.1 size5
 rw [run_sliceAt_array_l W 47 ⟨b, 4, none⟩ arr47 .i64 (u : Int) (by omega) (by rw [len47]; omega), len47, elem47]
 simp [sizeOf, typeInfo, hi, hs, slicedAt, Result.andThen, Addr.add_mid]
theorem data_rd {W : World} {b u : Nat} {f : Pl.Fr} (h : Cs W b 49 (frc f)) (hu : u <= 8) : Rd By W (some (if 8 = u then ⟨b, 4, none⟩ else ⟨b, 4 + u, none⟩)) (8 - u) (f.data.drop u) := by
 have hd : f.data.length = 8 := rfl
 refine ⟨by simp [hd], by simp [hd, maxLen]; omega, fun hl => ?_⟩
 rw [List.length_drop, hd] at hl
 rw [if_neg (by omega)]
 refine ⟨b, 4 + u, rfl, fun k x hx j v hv => ?_⟩
 rw [List.getElem?_drop] at hx
 have hk : u + k < 8 := by have := (List.getElem?_eq_some_iff.1 hx).1; rwa [hd] at this
 have hj : j = 0 /\ v = .int .u8 x := by
   match j, hv with
   | 0, hv => simp [By] at hv; exact ⟨rfl, hv.symm⟩
   | j + 1, hv => simp [By] at hv
 obtain ⟨rfl, rfl⟩ := hj
 rw [show 4 + u + k * By.sz + 0 = 4 + (u + k) by simp [By]; omega]
 refine h.cell ?_
 generalize u + k = m at *
 match m, hk with
 | 0, _ => simp [Pl.Fr.data] at hx; subst hx; rfl
 | 1, _ => simp [Pl.Fr.data] at hx; subst hx; rfl
 | 2, _ => simp [Pl.Fr.data] at hx; subst hx; rfl
 | 3, _ => simp [Pl.Fr.data] at hx; subst hx; rfl
 | 4, _ => simp [Pl.Fr.data] at hx; subst hx; rfl
 | 5, _ => simp [Pl.Fr.data] at hx; subst hx; rfl
 | 6, _ => simp [Pl.Fr.data] at hx; subst hx; rfl
 | 7, _ => simp [Pl.Fr.data] at hx; subst hx; rfl
theorem fcheck_early (f : Pl.Fr) (h : ¬ (0 <= f.id /\ f.id <= (if f.ext then 536870911 else 2047) /\ 0 <= f.len /\ f.len <= 8)) (w : World) :
   Calls Tryz.prog 15 #[frv f] w fun e w' => e = .returned (.int .i64 14) /\ Ch [] w w' := by
 obtain ⟨id, ext, rtr, len, d0, d1, d2, d3, d4, d5, d6, d7⟩ := f
 simp only [] at h
 unfold frv
 simp only []
 by_cases h1 : id < 0
 · go_enter Tryz.func15, Tryz.ntmps15
   go_wp2_with fail
   all_goals
     go_ret
     exact ⟨rfl, (Ch.refl _ _).alloc _⟩
 · cases ext
   · by_cases h2 : id <= 2047
     · by_cases h3 : len < 0
       · clear h
         go_enter Tryz.func15, Tryz.ntmps15
         go_wp2_with fail
         all_goals
           go_ret
           exact ⟨rfl, (Ch.refl _ _).alloc _⟩
       · have h4 : 8 < len := by
           rcases Int.lt_or_le 8 len with h5 | h5
           · exact h5
           · exact absurd ⟨by omega, by simpa using h2, by omega, h5⟩ h
         clear h
         go_enter Tryz.func15, Tryz.ntmps15
         go_wp2_with fail
         all_goals
           go_ret
           exact ⟨rfl, (Ch.refl _ _).alloc _⟩
     · clear h
       go_enter Tryz.func15, Tryz.ntmps15
       go_wp2_with fail
       all_goals
         go_ret
         exact ⟨rfl, (Ch.refl _ _).alloc _⟩
   · by_cases h2 : id <= 536870911
     · by_cases h3 : len < 0
       · clear h
         go_enter Tryz.func15, Tryz.ntmps15
         go_wp2_with fail
         all_goals
           go_ret
           exact ⟨rfl, (Ch.refl _ _).alloc _⟩
       · have h4 : 8 < len := by
           rcases Int.lt_or_le 8 len with h5 | h5
           · exact h5
           · exact absurd ⟨by omega, by simpa using h2, by omega, h5⟩ h
         clear h
         go_enter Tryz.func15, Tryz.ntmps15
         go_wp2_with fail
         all_goals
           go_ret
           exact ⟨rfl, (Ch.refl _ _).alloc _⟩
     · clear h
       go_enter Tryz.func15, Tryz.ntmps15
       go_wp2_with fail
       all_goals
         go_ret
         exact ⟨rfl, (Ch.refl _ _).alloc _⟩
theorem lit1 (w : World) (o : Obj) : Ow By ((w.alloc o).alloc (.cells #[.int .u8 0] 5)) (w.heap.size + 1) (some (w.heap.size + 1)) (some ⟨w.heap.size + 1, 0, none⟩) 1 [0] := by
 have := Ow.lit By (w.alloc o) [0] #[.int .u8 0] rfl (by decide)
 rw [World.size_alloc] at this
 exact this
theorem fcheck_late (f : Pl.Fr) (hw : f.wf) (h1 : 0 <= f.id) (h2 : f.id <= (if f.ext then 536870911 else 2047)) (h3 : 0 <= f.len) (h4 : f.len <= 8) (w : World) :
   Calls Tryz.prog 15 #[frv f] w fun e w' => e = .returned (.int .i64 (if Pl.mxb (f.data.drop f.used) 0 = 0 then 0 else 14)) /\ Ch [] w w' := by
 obtain ⟨u, hu⟩ : ∃ u, f.used = u := ⟨_, rfl⟩
 rw [hu]
 have hu8 : u <= 8 := by rw [<- hu]; unfold Pl.Fr.used; split <;> omega
 have hd : f.data.length = 8 := rfl
 have hB : ∀ x ∈ f.data.drop u, 0 <= x /\ x < 256 := fun x hx => hw x (List.mem_of_mem_drop hx)
 obtain ⟨A2, hA2⟩ : ∃ A2 : Option Addr, A2 = some (if 8 = u then ⟨w.heap.size, 4, none⟩ else ⟨w.heap.size, 4 + u, none⟩) := ⟨_, rfl⟩
 have HU := Ad (show (if f.rtr then (0 : Int) else f.len) = (u : Int) by rw [<- hu]; unfold Pl.Fr.used; split <;> omega)
 have cut := fun W => cut_data W w.heap.size u hu8
 rw [<- hA2, <- HU.out] at cut
 obtain ⟨N, hN⟩ : ∃ N, 8 - u = N := ⟨_, rfl⟩
 rw [hN] at cut
 have DR := Ad (show ∀ W, Cs W w.heap.size 49 (frc f) -> Rd By W A2 N (f.data.drop u) from fun W h => by rw [hA2, <- hN]; exact data_rd h hu8)
 have DL := Ad (show (f.data.drop u).length = N by rw [List.length_drop, hd, hN])
 obtain ⟨m, hm⟩ : ∃ m, Pl.mxb (f.data.drop u) 0 = m := ⟨_, rfl⟩
 have hm0 := (Pl.mxb_rng (f.data.drop u) 0 hB ⟨by decide, by decide⟩).1
 rw [hm] at hm0 ⊢
 have hN8 : N <= 8 := by omega
 have MC := Ad (fun A c W (h : Rd By W A c (0 :: f.data.drop u)) => max_calls A c (1 + N) (f.data.drop u) (by rw [DL.out]; omega) hB W h)
 rw [hm] at MC
 have LT := Ad (lit1 w (.cells (frc f).toArray 49))
 have FC := Ad (Cs.on (Cs.new w (frc f) 49) ((Ch.refl _ _).alloc (.cells #[.int .u8 0] 5)))
 clear hw hu hB hm hA2 hN
 generalize hD : f.data.drop u = D at *
 obtain ⟨id, ext, rtr, len, d0, d1, d2, d3, d4, d5, d6, d7⟩ := f
 simp only [frc] at h1 h2 h3 h4 HU cut LT FC DR hd
 unfold frv
 simp only []
 have i1 : ¬ id < 0 := by omega
 have i2 : ¬ len < 0 := by omega
 have i3 : ¬ 8 < len := by omega
 have HD := Ad hD
 have hn : ((1 : Nat) + N) * By.bytes <= 140737488355328 := by simp [By]; omega
 clear hD hd
 cases ext
 all_goals
   simp only [Bool.false_eq_true, if_false, if_true] at h2
   cases rtr
   all_goals
     simp only [Bool.false_eq_true, if_false, if_true] at cut
     by_cases h0 : m = 0
     · subst h0
       rw [if_pos rfl]
       go_enter Tryz.func15, Tryz.ntmps15
       go_wp2_with (at_builtin; refine wpList_append_Ow (E := By) (l := [0]) rfl (.tmp 30) (.tmp 33) 64 rfl rfl A2 N N D (by rfl) (by rfl) rfl LT.out (DR.out _ FC.out) DL.out hn (by simp) ?_; intro A' c' q' W' hO' hC' _)
       have O2 := Ad hO'
       have C2 := Ad ((((Ch.refl [] w).alloc _).alloc _).trans hC' (by simp))
       clear hO' hC'
       go_wp2_with fail
       refine (MC.out _ _ _ O2.out.rd).mono ?_
       rintro e w2 ⟨rfl, rfl⟩
       go_wp2_with fail
       go_ret
       exact ⟨rfl, C2.out⟩
     · have h9 : 0 < m := by omega
       rw [if_neg h0]
       clear h0
       go_enter Tryz.func15, Tryz.ntmps15
       go_wp2_with (at_builtin; refine wpList_append_Ow (E := By) (l := [0]) rfl (.tmp 30) (.tmp 33) 64 rfl rfl A2 N N D (by rfl) (by rfl) rfl LT.out (DR.out _ FC.out) DL.out hn (by simp) ?_; intro A' c' q' W' hO' hC' _)
       have O2 := Ad hO'
       have C2 := Ad ((((Ch.refl [] w).alloc _).alloc _).trans hC' (by simp))
       clear hO' hC'
       go_wp2_with fail
       refine (MC.out _ _ _ O2.out.rd).mono ?_
       rintro e w2 ⟨rfl, rfl⟩
       go_wp2_with fail
       go_ret
       exact ⟨rfl, C2.out⟩
theorem fcheck_calls (f : Pl.Fr) (hw : f.wf) (w : World) :
   Calls Tryz.prog 15 #[frv f] w fun e w' => e = .returned (.int .i64 (if f.ok then 0 else 14)) /\ Ch [] w w' := by
 by_cases h : 0 <= f.id /\ f.id <= (if f.ext then 536870911 else 2047) /\ 0 <= f.len /\ f.len <= 8
 · obtain ⟨h1, h2, h3, h4⟩ := h
   have := fcheck_late f hw h1 h2 h3 h4 w
   by_cases h0 : Pl.mxb (f.data.drop f.used) 0 = 0
   · rw [if_pos h0] at this
     rw [if_pos ((Pl.Fr.ok_iff f).2 ⟨h1, h2, h3, h4, h0⟩)]
     exact this
   · rw [if_neg h0] at this
     rw [if_neg (fun k => h0 ((Pl.Fr.ok_iff f).1 k).2.2.2.2)]
     exact this
 · rw [if_neg (fun k => h ⟨((Pl.Fr.ok_iff f).1 k).1, ((Pl.Fr.ok_iff f).1 k).2.1, ((Pl.Fr.ok_iff f).1 k).2.2.1, ((Pl.Fr.ok_iff f).1 k).2.2.2.1⟩)]
   exact fcheck_early f h w
theorem flevel_calls (b : Bool) (w : World) : Calls Tryz.prog 169 #[.bool b] w fun e w' => e = .returned (.int .i64 (Pl.lev b)) /\ w = w' := by
 cases b
 · go_enter Tryz.func169, Tryz.ntmps169
   go_wp2
   go_ret
   exact ⟨rfl, rfl⟩
 · go_enter Tryz.func169, Tryz.ntmps169
   go_wp2
   go_ret
   exact ⟨rfl, rfl⟩
theorem lev_lv (b : Bool) : Pl.lev b = 0 ∨ Pl.lev b = 1 := by cases b <;> simp [Pl.lev]
theorem Pl_arb_length (f : Pl.Fr) : (Pl.arb f).length = if f.ext then 32 else 13 := by
 unfold Pl.arb
 split <;> simp [Pl.ofBits_length]
theorem arb_lv (f : Pl.Fr) : Lvs (Pl.arb f) := by
 unfold Pl.arb
 intro x hx
 split at hx
 · simp only [List.mem_append, List.mem_cons, List.not_mem_nil, or_false] at hx
   rcases hx with ((h | (rfl | rfl)) | h) | rfl
   · exact Pl.ofBits_lv _ _ x h
   · exact .inr rfl
   · exact .inr rfl
   · exact Pl.ofBits_lv _ _ x h
   · exact lev_lv _
 · simp only [List.mem_append, List.mem_cons, List.not_mem_nil, or_false] at hx
   rcases hx with h | (rfl | rfl)
   · exact Pl.ofBits_lv _ _ x h
   · exact lev_lv _
   · exact .inl rfl
theorem of_11 (n : Nat) (hn : n < 18446744073709551616) (w : World) :
   Calls Tryz.prog 168 #[.int .u64 n, .int .i64 11] w fun e w' => ∃ A c q, e = .returned (.tuple #[.slice A 11 c, .int .i64 0]) /\ Ow Iv w' w.heap.size q A c (Pl.ofBits n 11) /\ Ch [] w w' := of_calls n 11 hn (by omega) w
theorem of_18 (n : Nat) (hn : n < 18446744073709551616) (w : World) :
   Calls Tryz.prog 168 #[.int .u64 n, .int .i64 18] w fun e w' => ∃ A c q, e = .returned (.tuple #[.slice A 18 c, .int .i64 0]) /\ Ow Iv w' w.heap.size q A c (Pl.ofBits n 18) /\ Ch [] w w' := of_calls n 18 hn (by omega) w
set_option maxRecDepth 100000 in
theorem arb_std (f : Pl.Fr) (hw : f.wf) (hok : f.ok = true) (hx : f.ext = false) (w : World) :
   Calls Tryz.prog 153 #[frv f] w fun e w' => ∃ A c q, e = .returned (.tuple #[.slice A 13 c, .int .i64 0]) /\ Ow Iv w' w.heap.size q A c (Pl.arb f) /\ Ch [] w w' := by
 obtain ⟨h1, h2, h3, h4, h5⟩ := (Pl.Fr.ok_iff f).1 hok
 have FC := Ad (fcheck_calls f hw)
 rw [hok] at FC
 simp only [if_true] at FC
 have HA := Ad (show Pl.arb f = Pl.ofBits f.id.toNat 11 ++ [Pl.lev f.rtr, 0] by unfold Pl.arb; rw [hx]; rfl)
 obtain ⟨id, ext, rtr, len, d0, d1, d2, d3, d4, d5, d6, d7⟩ := f
 simp only [] at hx h1 h2 h3 h4
 subst hx
 simp only [Bool.false_eq_true, if_false] at h2
 obtain ⟨i, rfl⟩ := Int.eq_ofNat_of_zero_le h1
 have hi : i <= 2047 := by omega
 have OF := Ad (of_11 i (by omega))
 clear h5 hok hw
 unfold frv at *
 simp only [] at FC ⊢
 go_enter Tryz.func153, Tryz.ntmps153
 go_wp2_with fail
 refine (FC.out _).mono ?_
 rintro e w1 ⟨rfl, hc1⟩
 have hcs := Cs.on (Cs.new w [.int .i64 i, .bool false, .bool rtr, .int .i64 len, .int .u8 d0, .int .u8 d1, .int .u8 d2, .int .u8 d3, .int .u8 d4, .int .u8 d5, .int .u8 d6, .int .u8 d7] 49) hc1
 have C1 := Ad (((Ch.refl [] w).alloc _).then hc1)
 have HF := Ad hcs
 have c0 := hcs.cell (j := 0) rfl
 have c1 := hcs.cell (j := 1) rfl
 have c2 := hcs.cell (j := 2) rfl
 clear hcs hc1
 go_wp2_with fail
 refine (OF.out _).mono ?_
 rintro e w2 ⟨A2, cc2, q2, rfl, hO2, hC2⟩
 have O2 := Ad hO2
 have c2' := hC2.cell c2 (by simp)
 have C2 := Ad (C1.out.then hC2)
 have HS2 := Ad hC2.size
 clear hO2 hC2 c0 c1 c2
 go_wp2_with fail
 refine (flevel_calls rtr _).mono ?_
 rintro e w3 ⟨rfl, rfl⟩
 have L3 := Ad (show Ow Iv (w2.alloc (.cells #[.int .i64 (Pl.lev rtr), .int .i64 0] 3)) w2.heap.size (some w2.heap.size) (some ⟨w2.heap.size, 0, none⟩) 2 [Pl.lev rtr, 0] from Ow.lit Iv w2 [Pl.lev rtr, 0] #[.int .i64 (Pl.lev rtr), .int .i64 0] rfl (by simp [maxLen]))
 have HL := Ad (show (Pl.ofBits i 11).length = 11 from Pl.ofBits_length _ _)
 have O2a := Ad (O2.out.on ((Ch.refl [] w2).alloc (.cells #[.int .i64 (Pl.lev rtr), .int .i64 0] 3)))
 have HB := Ad (show w1.heap.size <= (w2.alloc (.cells #[.int .i64 (Pl.lev rtr), .int .i64 0] 3)).heap.size by simp; have := HS2.out; omega)
 go_wp2_with (at_builtin; refine wpList_append_Ow (E := Iv) (l := Pl.ofBits i 11) rfl (.tmp 25) (.tmp 29) 57 rfl rfl (some ⟨w2.heap.size, 0, none⟩) 2 2 [Pl.lev rtr, 0] (by rfl) (by rfl) HL.out O2a.out L3.out.rd rfl (by decide) HB.out ?_; intro A' c' q' W' hO' hC' _)
 have O4 := Ad hO'
 have C4 := Ad ((C2.out.alloc _).trans hC' (fun y hy => .inr (by simp at hy; have := (O2.out.size y hy).1; have := C1.out.size; omega)))
 clear hO' hC'
 go_wp2_with fail
 go_ret2
 refine ⟨A', c', q', rfl, ?_, C4.out⟩
 rw [HA.out]
 exact O4.out.less (by have := C1.out.size; omega)
set_option maxRecDepth 100000 in
theorem arb_ext (f : Pl.Fr) (hw : f.wf) (hok : f.ok = true) (hx : f.ext = true) (w : World) :
   Calls Tryz.prog 153 #[frv f] w fun e w' => ∃ A c q, e = .returned (.tuple #[.slice A 32 c, .int .i64 0]) /\ Ow Iv w' w.heap.size q A c (Pl.arb f) /\ Ch [] w w' := by
 obtain ⟨h1, h2, h3, h4, h5⟩ := (Pl.Fr.ok_iff f).1 hok
 have FC := Ad (fcheck_calls f hw)
 rw [hok] at FC
 simp only [if_true] at FC
 have HA := Ad (show Pl.arb f = Pl.ofBits (f.id.toNat / 262144) 11 ++ [1, 1] ++ Pl.ofBits f.id.toNat 18 ++ [Pl.lev f.rtr] by unfold Pl.arb; rw [hx]; rfl)
 obtain ⟨id, ext, rtr, len, d0, d1, d2, d3, d4, d5, d6, d7⟩ := f
 simp only [] at hx h1 h2 h3 h4
 subst hx
 simp only [if_true] at h2
 obtain ⟨i, rfl⟩ := Int.eq_ofNat_of_zero_le h1
 have hi : i <= 536870911 := by omega
 obtain ⟨j, hj⟩ : ∃ j, i / 262144 = j := ⟨_, rfl⟩
 have hdv : (i : Int) / 262144 = (j : Int) := by omega
 have OF := Ad (of_11 j (by omega))
 have OG := Ad (of_18 i (by omega))
 have HJ := Ad hj
 clear hj
 clear h5 hok hw
 unfold frv at *
 simp only [] at FC ⊢
 go_enter Tryz.func153, Tryz.ntmps153
 go_wp2_with fail
 refine (FC.out _).mono ?_
 rintro e w1 ⟨rfl, hc1⟩
 have hcs := Cs.on (Cs.new w [.int .i64 i, .bool true, .bool rtr, .int .i64 len, .int .u8 d0, .int .u8 d1, .int .u8 d2, .int .u8 d3, .int .u8 d4, .int .u8 d5, .int .u8 d6, .int .u8 d7] 49) hc1
 have C1 := Ad (((Ch.refl [] w).alloc _).then hc1)
 have HF := Ad hcs
 have c0 := hcs.cell (j := 0) rfl
 have c1 := hcs.cell (j := 1) rfl
 have c2 := hcs.cell (j := 2) rfl
 clear hcs hc1
 go_wp2_with fail
 refine (OF.out _).mono ?_
 rintro e w2 ⟨A2, cc2, q2, rfl, hO2, hC2⟩
 have O2 := Ad hO2
 have d0' := hC2.cell c0 (by simp)
 have d2' := hC2.cell c2 (by simp)
 have C2 := Ad (C1.out.then hC2)
 have HS2 := Ad hC2.size
 clear hO2 hC2 c0 c1 c2
 go_wp2_with fail
 refine (OG.out _).mono ?_
 rintro e w3 ⟨A3, cc3, q3, rfl, hO3, hC3⟩
 have O3 := Ad hO3
 have O2' := Ad (O2.out.on hC3)
 have e2' := hC3.cell d2' (by simp)
 have C3 := Ad (C2.out.then hC3)
 clear hO3 hC3 d0' d2'
 have hlt := World.block_lt_of_cell? _ _ e2'
 go_wp2_with fail
 refine (flevel_calls rtr _).mono ?_
 rintro e w4 ⟨rfl, rfl⟩
 obtain ⟨w5, hw5⟩ : ∃ w5, ((w3.alloc (.cells #[.int .i64 1, .int .i64 1] 3)).alloc (.cells #[.int .i64 (Pl.lev rtr)] 3)).alloc (.cells #[.slice A2 11 cc2, .slice (some ⟨w3.heap.size, 0, none⟩) 2 2, .slice A3 18 cc3, .slice (some ⟨w3.heap.size + 1, 0, none⟩) 1 1] 57) = w5 := ⟨_, rfl⟩
 have C5 : Ch [] w3 w5 := hw5 ▸ (((Ch.refl _ _).alloc _).alloc _).alloc _
 have LA : Ow Iv w5 w3.heap.size (some w3.heap.size) (some ⟨w3.heap.size, 0, none⟩) 2 [1, 1] := hw5 ▸ (Ow.lit Iv w3 [1, 1] #[.int .i64 1, .int .i64 1] rfl (by simp [maxLen])).on (((Ch.refl _ _).alloc _).alloc _)
 have LB : Ow Iv w5 (w3.heap.size + 1) (some (w3.heap.size + 1)) (some ⟨w3.heap.size + 1, 0, none⟩) 1 [Pl.lev rtr] := by
   have := (Ow.lit Iv (w3.alloc (.cells #[.int .i64 1, .int .i64 1] 3)) [Pl.lev rtr] #[.int .i64 (Pl.lev rtr)] rfl (by simp [maxLen])).on ((Ch.refl [] _).alloc (.cells #[.slice A2 11 cc2, .slice (some ⟨w3.heap.size, 0, none⟩) 2 2, .slice A3 18 cc3, .slice (some ⟨w3.heap.size + 1, 0, none⟩) 1 1] 57))
   rw [World.size_alloc] at this
   exact hw5 ▸ this
 have LX : Cs w5 (w3.heap.size + 1 + 1) 57 [.slice A2 11 cc2, .slice (some ⟨w3.heap.size, 0, none⟩) 2 2, .slice A3 18 cc3, .slice (some ⟨w3.heap.size + 1, 0, none⟩) 1 1] := by
   have := Cs.new ((w3.alloc (.cells #[.int .i64 1, .int .i64 1] 3)).alloc (.cells #[.int .i64 (Pl.lev rtr)] 3)) [.slice A2 11 cc2, .slice (some ⟨w3.heap.size, 0, none⟩) 2 2, .slice A3 18 cc3, .slice (some ⟨w3.heap.size + 1, 0, none⟩) 1 1] 57
   rw [World.size_alloc, World.size_alloc] at this
   exact hw5 ▸ this
 have SL := Ad (show Sls Iv w5 (some ⟨w3.heap.size + 1 + 1, 0, none⟩) [⟨A2, cc2, Pl.ofBits j 11⟩, ⟨some ⟨w3.heap.size, 0, none⟩, 2, [1, 1]⟩, ⟨A3, cc3, Pl.ofBits i 18⟩, ⟨some ⟨w3.heap.size + 1, 0, none⟩, 1, [Pl.lev rtr]⟩] from ⟨fun k x hx => by
   refine ⟨_, _, rfl, ?_⟩
   match k, hx with
   | 0, hx =>
     obtain rfl := Option.some.inj hx
     exact ⟨by have := LX.cell (j := 0) rfl; rwa [Pl.ofBits_length], (O2'.out.on C5).rd⟩
   | 1, hx =>
     obtain rfl := Option.some.inj hx
     exact ⟨LX.cell (j := 1) rfl, LA.rd⟩
   | 2, hx =>
     obtain rfl := Option.some.inj hx
     exact ⟨by have := LX.cell (j := 2) rfl; rwa [Pl.ofBits_length], (O3.out.on C5).rd⟩
   | 3, hx =>
     obtain rfl := Option.some.inj hx
     exact ⟨LX.cell (j := 3) rfl, LB.rd⟩⟩)
 have CT := Ad (C3.out.then C5)
 have HW := Ad hw5
 have CL := Ad (show (cat [⟨A2, cc2, Pl.ofBits j 11⟩, ⟨some ⟨w3.heap.size, 0, none⟩, 2, [1, 1]⟩, ⟨A3, cc3, Pl.ofBits i 18⟩, ⟨some ⟨w3.heap.size + 1, 0, none⟩, 1, [Pl.lev rtr]⟩]).length = 32 by simp [cat, Pl.ofBits_length])
 have HC := Ad (show cat [⟨A2, cc2, Pl.ofBits j 11⟩, ⟨some ⟨w3.heap.size, 0, none⟩, 2, [1, 1]⟩, ⟨A3, cc3, Pl.ofBits i 18⟩, ⟨some ⟨w3.heap.size + 1, 0, none⟩, 1, [Pl.lev rtr]⟩] = Pl.ofBits j 11 ++ [1, 1] ++ Pl.ofBits i 18 ++ [Pl.lev rtr] by simp [cat])
 clear hw5 C5 LA LB LX
 go_wp2_with fail
 rw [HW.out]
 refine (concat_int _ 4 4 _ rfl (by rw [CL.out]; decide) (by rw [CL.out]; decide) (by decide) _ SL.out).mono ?_
 rintro e w6 ⟨A6, c6, q6, n6, rfl, hn6, hO6, hC6⟩
 rw [CL.out] at hn6
 subst hn6
 have O6 := Ad hO6
 have C6 := Ad (CT.out.then hC6)
 clear hO6 hC6 e2'
 go_wp2_with fail
 go_ret2
 refine ⟨A6, c6, q6, rfl, ?_, C6.out⟩
 rw [HA.out]
 have := O6.out.less (b' := w.heap.size) CT.out.size
 rw [HC.out, <- HJ.out] at this
 exact this
theorem arb_calls (f : Pl.Fr) (hw : f.wf) (hok : f.ok = true) (w : World) :
   Calls Tryz.prog 153 #[frv f] w fun e w' => ∃ A c q n, e = .returned (.tuple #[.slice A n c, .int .i64 0]) /\ n = (Pl.arb f).length /\ Ow Iv w' w.heap.size q A c (Pl.arb f) /\ Ch [] w w' := by
 cases hx : f.ext
 · refine (arb_std f hw hok hx w).mono ?_
   rintro e w' ⟨A, c, q, rfl, h1, h2⟩
   exact ⟨A, c, q, 13, rfl, by rw [Pl_arb_length, hx]; rfl, h1, h2⟩
 · refine (arb_ext f hw hok hx w).mono ?_
   rintro e w' ⟨A, c, q, rfl, h1, h2⟩
   exact ⟨A, c, q, 32, rfl, by rw [Pl_arb_length, hx]; rfl, h1, h2⟩
def cmpI (x y : Int) : Int := if x < y then -1 else if y < x then 1 else 0
theorem isNaN_calls (x : Int) (w : World) : Calls Tryz.prog 178 #[.int .i64 x] w fun e w' => e = .returned (.bool false) /\ w = w' := by
 go_enter Tryz.func178, Tryz.ntmps178
 go_wp2
 go_ret
 simp
theorem cmp_calls (x y : Int) (w : World) : Calls Tryz.prog 170 #[.int .i64 x, .int .i64 y] w fun e w' => e = .returned (.int .i64 (cmpI x y)) /\ w = w' := by
 have key : ∀ z, z = cmpI x y -> Calls Tryz.prog 170 #[.int .i64 x, .int .i64 y] w fun e w' => e = .returned (.int .i64 z) /\ w = w' := by
   intro z hz
   unfold cmpI at hz
   by_cases h1 : x < y
   · rw [if_pos h1] at hz
     subst hz
     go_enter Tryz.func170, Tryz.ntmps170
     go_wp2_with (first | (go_at_call 178; refine (isNaN_calls _ _).mono ?_; rintro e w' ⟨rfl, rfl⟩))
     go_ret
     exact ⟨rfl, rfl⟩
   · rw [if_neg h1] at hz
     by_cases h2 : y < x
     · rw [if_pos h2] at hz
       subst hz
       go_enter Tryz.func170, Tryz.ntmps170
       go_wp2_with (first | (go_at_call 178; refine (isNaN_calls _ _).mono ?_; rintro e w' ⟨rfl, rfl⟩))
       go_ret
       exact ⟨rfl, rfl⟩
     · rw [if_neg h2] at hz
       subst hz
       go_enter Tryz.func170, Tryz.ntmps170
       go_wp2_with (first | (go_at_call 178; refine (isNaN_calls _ _).mono ?_; rintro e w' ⟨rfl, rfl⟩))
       go_ret
       exact ⟨rfl, rfl⟩
 exact key _ rfl
theorem cmpL_at : ∀ (l m : List Int) (k : Nat), l.take k = m.take k -> k <= l.length -> k <= m.length -> Pl.cmpL l m = Pl.cmpL (l.drop k) (m.drop k)
 | _, _, 0, _, _, _ => rfl
 | [], _, k + 1, _, h, _ => by simp at h
 | _ :: _, [], k + 1, _, _, h => by simp at h
 | x :: l, y :: m, k + 1, h, h1, h2 => by
   simp only [List.take_succ_cons, List.cons.injEq] at h
   obtain ⟨rfl, h⟩ := h
   simp only [Pl.cmpL, List.drop_succ_cons, Int.lt_irrefl, if_false]
   exact cmpL_at l m k h (by simpa using h1) (by simpa using h2)
theorem drop_nil (l : List Int) (k : Nat) (h : l.length <= k) : l.drop k = [] := List.drop_eq_nil_of_le h
theorem drop_rd {l : List Int} {k : Nat} (h : k < l.length) : l.drop k = rd l k :: l.drop (k + 1) := by
 rw [List.drop_eq_getElem_cons h]
 simp [rd, List.getD_eq_getElem?_getD, List.getElem?_eq_getElem h]
theorem compare_calls (A : Option Addr) (c n : Nat) (l : List Int) (hn : l.length = n) (B : Option Addr) (d j : Nat) (m : List Int) (hj : m.length = j) (w : World) (h : Ls w A c l) (h' : Ls w B d m) :
   Calls Tryz.prog 154 #[.slice A n c, .slice B j d] w fun e w' => e = .returned (.int .i64 (Pl.cmpL l m)) /\ w = w' := by
 have hlen := h.rds.len63 hn
 have hlen' := h'.rds.len63 hj
 subst hn hj
 have H := Ad h
 have H' := Ad h'
 clear h h'
 go_enter Tryz.func154, Tryz.ntmps154
 go_wp2_with fail
 go_loop [11] (fun v => ∃ k : Nat, k <= l.length /\ k <= m.length /\ v = .int .i64 k /\ Aside0 (l.take k = m.take k)) (fun v => l.length - (intOf v).toNat)
 case atStart => exact ⟨0, by omega, by omega, rfl, ⟨by simp⟩⟩
 case round =>
   obtain ⟨k, hk, hk', rfl, HK⟩ := hrel
   by_cases hlt : k < l.length
   · obtain ⟨g, o, rfl, hc, -⟩ := H.out.at_ k hlt
     by_cases hlt' : k < m.length
     · obtain ⟨g', o', rfl, hc', -⟩ := H'.out.at_ k hlt'
       have HE := Ad (show Pl.cmpL l m = if rd l k < rd m k then -1 else if rd m k < rd l k then 1 else Pl.cmpL (l.drop (k + 1)) (m.drop (k + 1)) by
         rw [cmpL_at l m k HK.out (by omega) (by omega), drop_rd hlt, drop_rd hlt', Pl.cmpL])
       have HT := Ad (fun (e : rd l k = rd m k) => show l.take (k + 1) = m.take (k + 1) from by rw [take_rd l k hlt, take_rd m k hlt', HK.out, e])
       generalize rd l k = x at *
       generalize rd m k = y at *
       have i0 : (0 : Int) <= (k : Int) := by omega
       have i2 : (k : Int) < (m.length : Int) := by omega
       by_cases h1 : x < y
       · have HC := Ad (show cmpI x y = -1 by unfold cmpI; rw [if_pos h1])
         have HR := Ad (show Pl.cmpL l m = -1 by rw [HE.out, if_pos h1])
         clear HE HT
         go_wp2_with fail
         refine (cmp_calls x y _).mono ?_
         rw [HC.out]
         rintro e w' ⟨rfl, rfl⟩
         go_wp2_with fail
         go_ret
         exact ⟨by rw [HR.out]; rfl, rfl⟩
       · by_cases h2 : y < x
         · have HC := Ad (show cmpI x y = 1 by unfold cmpI; rw [if_neg h1, if_pos h2])
           have HR := Ad (show Pl.cmpL l m = 1 by rw [HE.out, if_neg h1, if_pos h2])
           clear HE HT
           go_wp2_with fail
           refine (cmp_calls x y _).mono ?_
           rw [HC.out]
           rintro e w' ⟨rfl, rfl⟩
           go_wp2_with fail
           go_ret
           exact ⟨by rw [HR.out]; rfl, rfl⟩
         · have HC := Ad (show cmpI x y = 0 by unfold cmpI; rw [if_neg h1, if_neg h2])
           have HK2 := Ad (HT.out (by omega))
           clear HE HT
           go_wp2_with fail
           refine (cmp_calls x y _).mono ?_
           rw [HC.out]
           rintro e w' ⟨rfl, rfl⟩
           go_wp2_with fail
           go_round
           case rel => exact ⟨k + 1, by omega, by omega, by go_num, HK2⟩
           case measure => simp [intOf]; omega
     · obtain hkm : k = m.length := by omega
       have HR := Ad (show Pl.cmpL l m = 1 by
         rw [cmpL_at l m k HK.out (by omega) (by omega), drop_rd hlt, drop_nil m _ (by omega)]; rfl)
       have i2 : (m.length : Int) <= (k : Int) := by omega
       clear hkm
       go_wp2_with fail
       go_ret
       exact ⟨by rw [HR.out]; rfl, rfl⟩
   · obtain rfl : k = l.length := by omega
     by_cases hlt' : l.length < m.length
     · have HR := Ad (show Pl.cmpL l m = -1 by
         rw [cmpL_at l m l.length HK.out (by omega) (by omega), drop_nil l _ (Nat.le_refl _), drop_rd hlt']; rfl)
       go_wp2_with fail
       go_ret
       exact ⟨by rw [HR.out]; rfl, rfl⟩
     · have HR := Ad (show Pl.cmpL l m = 0 by
         rw [cmpL_at l m l.length HK.out (by omega) (by omega), drop_nil l _ (Nat.le_refl _), drop_nil m _ (by omega)]; rfl)
       go_wp2_with fail
       go_ret
       exact ⟨by rw [HR.out]; rfl, rfl⟩
theorem fcompare_calls (f g : Pl.Fr) (hf : f.wf) (hg : g.wf) (hf' : f.ok = true) (hg' : g.ok = true) (w : World) :
   Calls Tryz.prog 137 #[frv f, frv g] w fun e w' => e = .returned (.tuple #[.int .i64 (Pl.cmpL (Pl.arb f) (Pl.arb g)), .bool true]) /\ Ch [] w w' := by
 have AF := Ad (arb_calls f hf hf')
 have AG := Ad (arb_calls g hg hg')
 have LF := Ad (arb_lv f)
 have LG := Ad (arb_lv g)
 generalize Pl.arb f = lf at *
 generalize Pl.arb g = lg at *
 obtain ⟨id, ext, rtr, len, d0, d1, d2, d3, d4, d5, d6, d7⟩ := f
 obtain ⟨id', ext', rtr', len', e0, e1, e2, e3, e4, e5, e6, e7⟩ := g
 clear hf hg hf' hg'
 unfold frv at *
 simp only [] at AF AG ⊢
 go_enter Tryz.func137, Tryz.ntmps137
 go_wp2_with fail
 refine (AF.out _).mono ?_
 rintro e w1 ⟨A1, c1, q1, n1, rfl, hn1, hO1, hC1⟩
 have O1 := Ad hO1
 have N1 := Ad hn1
 have hcs := Cs.on (Cs.new (w.alloc (.cells (frc ⟨id, ext, rtr, len, d0, d1, d2, d3, d4, d5, d6, d7⟩).toArray 49)) (frc ⟨id', ext', rtr', len', e0, e1, e2, e3, e4, e5, e6, e7⟩) 49) hC1
 rw [World.size_alloc] at hcs
 have HF := Ad hcs
 have C1 := Ad ((((Ch.refl [] w).alloc _).alloc _).then hC1)
 clear hn1 hO1 hC1 hcs
 go_wp2_with (refine wpList_load_Cs rfl 49 (.tmp 3) rfl 0 (frc ⟨id', ext', rtr', len', e0, e1, e2, e3, e4, e5, e6, e7⟩) (by rfl) HF.out (fun j v hv => by rwa [Nat.zero_add]) Tryz.underlying49 rfl size49 ?_)
 refine (AG.out _).mono ?_
 rintro e w2 ⟨A2, c2, q2, n2, rfl, hn2, hO2, hC2⟩
 have O1' := Ad (O1.out.on hC2)
 have O2 := Ad hO2
 have N2 := Ad hn2
 have C2 := Ad (C1.out.then hC2)
 clear hn2 hO2 hC2
 go_wp2_with fail
 refine (compare_calls A1 c1 n1 lf N1.out.symm A2 c2 n2 lg N2.out.symm _ (O1'.out.ls LF.out) (O2.out.ls LG.out)).mono ?_
 rintro e w3 ⟨rfl, rfl⟩
 go_wp2_with fail
 go_ret2
 exact ⟨rfl, C2.out⟩
theorem less_calls (f g : Pl.Fr) (hf : f.wf) (hg : g.wf) (hf' : f.ok = true) (hg' : g.ok = true) (w : World) :
   Calls Tryz.prog 118 #[frv f, frv g] w fun e w' => e = .returned (.bool (Pl.less f g)) /\ Ch [] w w' := by
 have FC := Ad (fcompare_calls f g hf hg hf' hg')
 unfold Pl.less
 generalize Pl.cmpL (Pl.arb f) (Pl.arb g) = z at *
 obtain ⟨id, ext, rtr, len, d0, d1, d2, d3, d4, d5, d6, d7⟩ := f
 obtain ⟨id', ext', rtr', len', e0, e1, e2, e3, e4, e5, e6, e7⟩ := g
 clear hf hg hf' hg'
 unfold frv at *
 simp only [] at FC ⊢
 go_enter Tryz.func118, Tryz.ntmps118
 go_wp2_with fail
 refine (FC.out _).mono ?_
 rintro e w1 ⟨rfl, hC1⟩
 have C1 := Ad ((((Ch.refl [] w).alloc _).alloc _).then hC1)
 clear hC1
 go_wp2_with fail
 go_ret
 exact ⟨rfl, C1.out⟩
end Go.Proofs.YtjoehjclaonneaaGreat
