/- A part of the proof of TopReplay (no condition of its own). -/
import Derived.Deep.RegionHeld3
import Derived.Test.YtjoehjclaonneaaGreatMN
import Derived.Test.YtjoehjclaonneaaGreatML
import Derived.Test.YtjoehjclaonneaaGreatMM
namespace Go.Proofs.YtjoehjclaonneaaGreat
open Go.RowKit Go.Proofs.YtjoehjclaonneaaGreatW.PrintWords
set_option maxHeartbeats 8000000
set_option linter.unusedVariables false
set_option linter.unusedSimpArgs false
section
open Go.RowKit Go.Shelf Go.Proofs.YtjoehjclaonneaaGreatW.PrintWords
theorem kpE_t {n Bn : Nat} {A B C : World} (h : KpE n Bn A B) (k : KpE n Bn B C) : KpE n Bn A C := ⟨h.1.trans k.1, fun v hv => k.2.1 v (h.2.1 v hv), fun g a b d hg => k.2.2 g a b d (h.2.2 g a b d hg)⟩
theorem cells_row {W : World} {k r : Nat} {cur : Array Value} {T : TypeId} {o : Obj} (hk : W.heap[k]? = some (.cells cur T (0, 0))) (hr : W.heap[r]? = some o) (h1 : o.isCells = false) : k ≠ r := by
 rintro rfl
 rw [hk] at hr
 cases hr
 cases h1
theorem kpE_b {n₀ Bn : Nat} {w : World} (hn : n₀ <= w.heap.size) (W : World) (l : Nat) (o o' : Obj) (hl : w.heap.size <= l) (h : W.heap[l]? = some o) (h1 : o.isCells = false) (h2 : o.isWalk = false) : KpE n₀ Bn W (W.putObj l o') := by
 have hc : Ch (some l).toList W (W.putObj l o') := Ch.of_grown (grownBy_putObj' W l o')
 exact ⟨belowK_b hn W l o o' hl h h1 h2, fun v hv => hv.keep hc (fun hm => by simp at hm; exact cells_row hv h h1 hm), fun g a b d hg => hg.keep hc (fun hm => by simp at hm; exact cells_row hg h h1 hm)⟩
theorem rnd_ch {n₀ Bn : Nat} {W W' : World} {G : List Nat} (hn : n₀ <= W.heap.size) (hc : Ch G W W') (hG : ∀ k, k ∈ G -> W.heap.size <= k ∨ (n₀ <= k /\ k ≠ Bn /\ ∃ cur T, W.heap[k]? = some (.cells cur T (0, 0)) /\ (T = 93 -> cur.size ≠ 3))) : KeepsOthers W W' /\ KpE n₀ Bn W W' := by
 refine ⟨⟨hc.size, fun k o hk ho => ?_⟩, hc.below hn (fun k hk => ?_), fun v hv => hv.keep hc (fun hm => ?_), fun g a b d hg => hg.keep hc (fun hm => ?_)⟩
 · have hlt := blk_lt hk
   rw [hc.block k hlt (fun hm => ?_)]
   · exact hk
   · rcases hG k hm with h | ⟨_, _, cur, T, h, _⟩
     · omega
     · rw [h] at hk; cases hk; cases ho
 · rcases hG k hk with h | ⟨h, _⟩ <;> omega
 · have hlt := hv.lt
   rcases hG _ hm with h | ⟨_, h, _⟩
   · omega
   · exact h rfl
 · have hlt := hg.lt
   rcases hG _ hm with h | ⟨_, _, cur, T, h, hT⟩
   · omega
   · rw [show W.heap[g]? = some (.cells [a, b, d].toArray 93 (0, 0)) from hg] at h
     cases h
     exact hT rfl rfl
theorem rnd_t {n₀ Bn : Nat} {A B C : World} (h : KeepsOthers A B /\ KpE n₀ Bn A B) (k : KeepsOthers B C /\ KpE n₀ Bn B C) : KeepsOthers A C /\ KpE n₀ Bn A C := ⟨h.1.trans k.1, kpE_t h.2 k.2⟩
theorem rnd_on {n₀ Bn : Nat} {W W' : World} (hn : n₀ <= W.heap.size) (hc : Ch [] W W') : KeepsOthers W W' /\ KpE n₀ Bn W W' := rnd_ch hn hc (by simp)
structure InRe (live : List Act') (mask : Nat) (L : List Run) (n : Nat) (w : World) (b5 gB c0 : Nat) (A0 : Option Addr) (q0 : Option Nat) (gm b10 b6 bR : Nat) (pre : List Nat) (W : World) : Prop where
 bus : ∃ ps, BusAt W b5 gB A0 c0 q0 ps (Pl.Bus.res live mask L (Pl.Bus.fresh n) pre).1.nodes (Pl.Bus.res live mask L (Pl.Bus.fresh n) pre).1.tick
 map : MapAt W b10 gm (fun t => Pl.at' live t)
 x6 : Bx W w.heap.size 25 (.int .u32 mask)
 x8 : Bx W (w.heap.size + 1) 39 (.slice none 0 0)
 x9 : Bx W (w.heap.size + 1 + 1) 42 (.slice none 0 0)
 x10 : Bx W (w.heap.size + 1 + 1 + 1) 26 (.int .i64 0)
 x12 : Bx W b6 94 (.pointer (some ⟨gB, 0, none⟩))
 x15 : Bx W (gm + 1) 97 (.map (some gm))
 x18 : ∃ A c q m, Bx W bR 39 (.slice A m c) /\ (Pl.Bus.res live mask L (Pl.Bus.fresh n) pre).2.1.length = m /\ Ow Rv W w.heap.size q A c (Pl.Bus.res live mask L (Pl.Bus.fresh n) pre).2.1 /\ (q ≠ none -> 1 <= m)
 x19 : ∃ A c q m, Bx W (bR + 1) 42 (.slice A m c) /\ (Pl.Bus.res live mask L (Pl.Bus.fresh n) pre).2.2.length = m /\ Ow Evv W w.heap.size q A c (Pl.Bus.res live mask L (Pl.Bus.fresh n) pre).2.2
 xn : ∃ v, Bx W (bR + 1 + 1) 39 v
 ch : Ch [] w W
theorem InRe.keep {live : List Act'} {mask : Nat} {L : List Run} {n : Nat} {w : World} {b5 gB c0 : Nat} {A0 : Option Addr} {q0 : Option Nat} {gm b10 b6 bR : Nat} {pre : List Nat} {W W' : World} (h : InRe live mask L n w b5 gB c0 A0 q0 gm b10 b6 bR pre W) {G : List Nat} (hc : Ch G W W') (hG : ∀ k, k ∈ G -> k ≠ gm /\ (∀ cur T, W.heap[k]? ≠ some (.cells cur T (0, 0))) /\ w.heap.size <= k) :
   InRe live mask L n w b5 gB c0 A0 q0 gm b10 b6 bR pre W' := by
 have nc : ∀ {k : Nat} {cur : Array Value} {T : TypeId}, W.heap[k]? = some (.cells cur T (0, 0)) -> k ∉ G := fun h hm => (hG _ hm).2.1 _ _ h
 obtain ⟨⟨ps, h1⟩, h2, h3, h4, h5, h6, h7, h8, ⟨A, c, q, m, h9, h10, h11, h12⟩, ⟨A', c', q', m', h13, h14, h15⟩, ⟨vn, hxn⟩, h16⟩ := h
 refine ⟨⟨ps, h1.keep hc (fun k hk => ?_)⟩, h2.keep hc (fun hm => (hG _ hm).1 rfl) (fun k cur hk => nc hk), h3.keep hc (nc h3), h4.keep hc (nc h4), h5.keep hc (nc h5), h6.keep hc (nc h6), h7.keep hc (nc h7), h8.keep hc (nc h8), ⟨A, c, q, m, h9.keep hc (nc h9), h10, h11.keep hc (fun k hk => ?_), h12⟩, ⟨A', c', q', m', h13.keep hc (nc h13), h14, h15.keep hc (fun k hk => ?_)⟩, ⟨vn, hxn.keep hc (nc hxn)⟩, h16.trans hc (fun k hk => .inr (hG k hk).2.2)⟩
 · obtain ⟨cur, T, hb, _⟩ := h1.kinds k hk
   exact nc hb
 · rw [hk] at h11
   obtain ⟨cur, hb⟩ := h11.blk
   exact nc hb
 · rw [hk] at h15
   obtain ⟨cur, hb⟩ := h15.blk
   exact nc hb
theorem inRe_own (D : Nat) {live : List Act'} {mask : Nat} {L : List Run} {n : Nat} {w : World} {b5 gB c0 : Nat} {A0 : Option Addr} {q0 : Option Nat} {gm b10 b6 bR : Nat} (hgm : gm < D) (hw : w.heap.size <= D) : OwnFrom D (InRe live mask L n w b5 gB c0 A0 q0 gm b10 b6 bR) := fun s X Y row hs hg hr =>
 hs.keep (Ch.of_grown hg) (fun k hk => by
   rw [Option.mem_toList] at hk
   obtain ⟨h1, o, h2, h3⟩ := hr k hk
   refine ⟨by omega, fun cur T h4 => ?_, by omega⟩
   rw [h2] at h4
   cases h4
   cases h3)
structure Parts (live : List Act') (mask : Nat) (w : World) (gB gm b10 b6 : Nat) (W : World) : Prop where
 map : MapAt W b10 gm (fun t => Pl.at' live t)
 x6 : Bx W w.heap.size 25 (.int .u32 mask)
 x8 : Bx W (w.heap.size + 1) 39 (.slice none 0 0)
 x9 : Bx W (w.heap.size + 1 + 1) 42 (.slice none 0 0)
 x10 : Bx W (w.heap.size + 1 + 1 + 1) 26 (.int .i64 0)
 x12 : Bx W b6 94 (.pointer (some ⟨gB, 0, none⟩))
 x15 : Bx W (gm + 1) 97 (.map (some gm))
theorem Parts.keep {live : List Act'} {mask : Nat} {w : World} {gB gm b10 b6 : Nat} {W W' : World} (h : Parts live mask w gB gm b10 b6 W) (hb : w.heap.size + 1 + 1 + 1 < b10 /\ b6 < b10 /\ gm + 1 < b10) {G : List Nat} (hc : Ch G W W')
   (hG : ∀ k, k ∈ G -> ∃ cur T, W.heap[k]? = some (.cells cur T (0, 0)) /\ T ≠ 55 /\ (b10 <= k ∨ (T ≠ 25 /\ T ≠ 39 /\ T ≠ 42 /\ T ≠ 26 /\ T ≠ 94 /\ T ≠ 97))) : Parts live mask w gB gm b10 b6 W' := by
 have nb : ∀ {g : Nat} {t : TypeId} {v : Value}, Bx W g t v -> g < b10 -> (t = 25 ∨ t = 39 ∨ t = 42 ∨ t = 26 ∨ t = 94 ∨ t = 97) -> g ∉ G := fun {g t v} hx hg ht hm => by
   obtain ⟨cur, T, h1, _, h3⟩ := hG _ hm
   rw [show W.heap[g]? = _ from hx] at h1
   cases h1
   rcases h3 with h3 | ⟨a, b, c, d, e, f⟩
   · omega
   · rcases ht with e9 | e9 | e9 | e9 | e9 | e9
     · exact a e9
     · exact b e9
     · exact c e9
     · exact d e9
     · exact e e9
     · exact f e9
 refine ⟨h.map.keep hc (fun hm => ?_) (fun k cur hk hm => ?_), h.x6.keep hc (nb h.x6 (by omega) (by simp)), h.x8.keep hc (nb h.x8 (by omega) (by simp)), h.x9.keep hc (nb h.x9 (by omega) (by simp)), h.x10.keep hc (nb h.x10 (by omega) (by simp)), h.x12.keep hc (nb h.x12 (by omega) (by simp)), h.x15.keep hc (nb h.x15 (by omega) (by simp))⟩
 · obtain ⟨es, arr, cl, h1, _⟩ := h.map
   obtain ⟨cur, T, h2, _⟩ := hG _ hm
   rw [h1] at h2
   cases h2
 · obtain ⟨cur', T, h2, h3, _⟩ := hG _ hm
   rw [hk] at h2
   cases h2
   exact h3 rfl
section
variable {w w' W W' : World} {b gB c : Nat} {A : Option Addr} {q : Option Nat} {ps : List (Nat × Lay)} {xs : List Pl.Nd} {tick : Int}
theorem BusAt.noT (h : BusAt w b gB A c q ps xs tick) {k : Nat} {cur : Array Value} {T : TypeId} (hk : w.heap[k]? = some (.cells cur T (0, 0))) (hT : T ≠ 166 /\ T ≠ 200 /\ T ≠ 3 /\ T ≠ 49 /\ T ≠ 129 /\ T ≠ 130) : k ∉ bfp gB q ps := by
 intro hm
 obtain ⟨cur', T', hb, h2⟩ := h.kinds k hm
 rw [hk] at hb
 cases hb
 obtain ⟨a1, a2, a3, a4, a5, a6⟩ := hT
 rcases h2 with e | e | e | e | e | e
 · exact a1 e
 · exact a2 e
 · exact a3 e
 · exact a4 e
 · exact a5 e
 · exact a6 e
theorem BusAt.round (h : BusAt w b gB A c q ps xs tick) {n₀ Bn b10 : Nat} (hb : n₀ <= b) {v : Value} (hBn : Bx w Bn 39 v) : ∀ k, k ∈ bfp gB q ps -> (w.heap.size <= k ∨ (n₀ <= k /\ k ≠ Bn /\ ∃ cur T, w.heap[k]? = some (.cells cur T (0, 0)) /\ (T = 93 -> cur.size ≠ 3))) /\
   ∃ cur T, w.heap[k]? = some (.cells cur T (0, 0)) /\ T ≠ 55 /\ (b10 <= k ∨ (T ≠ 25 /\ T ≠ 39 /\ T ≠ 42 /\ T ≠ 26 /\ T ≠ 94 /\ T ≠ 97)) := by
 intro k hk
 have h1 := h.fp_ge k hk
 obtain ⟨cur, T, h2, h3⟩ := h.kinds k hk
 refine ⟨.inr ⟨Nat.le_trans hb h1, fun e => ?_, cur, T, h2, fun e => ?_⟩, cur, T, h2, ?_, .inr ?_⟩
 · subst e
   exact h.noT hBn (by decide) hk
 · subst e; simp at h3
 · rintro rfl; simp at h3
 · refine ⟨?_, ?_, ?_, ?_, ?_, ?_⟩ <;> (rintro rfl; simp at h3)
theorem Ow.big {l : List Run} {q : Option Nat} {A : Option Addr} {c : Nat} (h : Ow Rv W b q A c l) (hl : q ≠ none -> 1 <= l.length) (hk : l.length + 1 <= c) : ∀ k, k ∈ q.toList -> ∃ cur, W.heap[k]? = some (.cells cur 93 (0, 0)) /\ cur.size ≠ 3 := by
 intro k hm
 rw [Option.mem_toList] at hm
 rcases h.lies with ⟨_, _, _, h4⟩ | ⟨g', cur, h1, _, _, h4, _, h6, _⟩
 · rw [h4] at hm; cases hm
 · rw [h1] at hm
   cases hm
   have := hl (by rw [h1]; simp)
   refine ⟨cur, h4, fun e => ?_⟩
   simp [Rv] at h6
   omega
end
theorem Pl.tk_drv (L : List Run) (h : ∀ r ∈ L, 0 <= r.drv /\ r.drv < 4294967296) (i : Nat) : ∃ d : Nat, (Pl.tk L i).drv = d /\ d < 4294967296 := by
 have key : ∀ L : List Run, (∀ r ∈ L, 0 <= r.drv /\ r.drv < 4294967296) -> ∀ r ∈ Pl.ex L, 0 <= r.drv /\ r.drv < 4294967296 := by
   intro L
   induction L with
   | nil => intro _ r hr; simp [Pl.ex] at hr
   | cons x L ih =>
     intro h r hr
     rw [Pl.ex] at hr
     rcases List.mem_append.1 hr with hr | hr
     · have := List.eq_of_mem_replicate hr
       rw [this]
       exact h x (by simp)
     · exact ih (fun y hy => h y (by simp [hy])) r hr
 have h1 : 0 <= (Pl.tk L i).drv /\ (Pl.tk L i).drv < 4294967296 := by
   unfold Pl.tk
   rw [List.getD_eq_getElem?_getD]
   cases hg : (Pl.ex L)[i]? with
   | none => exact ⟨by decide, by decide⟩
   | some r => exact key L h r (List.mem_of_getElem? hg)
 exact ⟨(Pl.tk L i).drv.toNat, by omega, by omega⟩
end
section
open Go.RowKit Go.Shelf Go.Proofs.YtjoehjclaonneaaGreatW.PrintWords
def SeqIn {α : Type} (P : Program) (gf : Nat) (lb : Array Value) (encs : α -> Array Value) (Px : Nat -> α -> World -> Prop) (N : Nat) (F0 : List Nat) (w : World) : Prop :=
 ∀ (l : Nat) (J : Nat -> List Nat -> World -> Prop) (F : List Nat) (W : World), Ch [] w W -> (∀ j ∈ F, j ∈ F0 ∨ w.heap.size <= j /\ j < W.heap.size) ->
   (∀ k F X Y G, J k F X -> Ch G X Y -> (∀ j ∈ G, W.heap.size <= j /\ j ∉ F) -> J k F Y) ->
   (∀ k F x X, J k F X -> Px k x X -> k < N -> YieldAt Fence.wide 4 P l (encs x) X fun e X' => e = .returned (.bool true) /\ ∃ F', J (k + 1) F' X' /\ Ch F X X' /\ ∀ j ∈ F', j ∈ F ∨ X.heap.size <= j) ->
   J 0 F W -> CallsIn Fence.wide 5 P gf (#[.func (.yield l) #[] #[]] ++ lb) W fun e W' => (∃ v, e = .returned v) /\ ∃ F', J N F' W'
section
variable {P : Program}
theorem ch_put {W : World} {l : Nat} (o : Obj) : Ch [l] W (W.putObj l o) := Ch.of_grown (grownBy_putObj' W l o)
def roundEnd (I : Nat -> List Nat -> World -> Prop) (k : Nat) (F : List Nat) (X : World) : Exit -> Act -> World -> Prop
 | .normal, _, Y => ∃ F', I (k + 1) F' Y /\ Ch F X Y /\ ∀ j ∈ F', j ∈ F ∨ X.heap.size <= j
 | _, _, _ => False
theorem wpIn_rangeItems {α : Type} {g : Operand} {ps : Array Tmp} {assign body : Code} {Q : Exit -> Act -> World -> Prop} {a : Act} {w : World} {gf : Nat} {lb : Array Value}
   (hg : a.eval g = .func (.func gf) #[] lb) (eg : ∀ args w, (callFunc gf args).run P w = .ok (.enter gf args) w)
   {encs : α -> Array Value} {Px : Nat -> α -> World -> Prop} {N : Nat} {F0 : List Nat} (hseq : SeqIn P gf lb encs Px N F0 w) (hps : ∀ x, (encs x).size = ps.size)
   (I : Nat -> List Nat -> World -> Prop) (hI : ∀ k F X Y G, I k F X -> Ch G X Y -> (∀ j ∈ G, w.heap.size <= j /\ j ∉ F) -> I k F Y)
   (hF : ∀ k F X, I k F X -> ∀ j ∈ F, ∃ cur T, X.heap[j]? = some (.cells cur T (0, 0))) (h0 : I 0 F0 w)
   (hround : ∀ (l k : Nat) (F : List Nat) (x : α) (W : World), I k F W -> Px k x W -> k < N -> w.heap.size <= l -> (∃ r, W.heap[l]? = some (.loop r)) ->
     assign.wpIn (Fence.wide.inRound l) 4 P (Exit.then (fun a' W' => Ch [] W W' /\ ∀ r, body.wpIn (Fence.wide.inRound l) 4 P (roundEnd I k F (W'.putObj l (.loop r))) a' (W'.putObj l (.loop r))) (fun _ _ _ => False)) { tmps := (ps.zip (encs x)).foldl (fun t (p, v) => t.setIfInBounds p v) a.tmps, defers := [] } W)
   (hdone : ∀ (D : Nat) (F : List Nat) (W : World), w.heap.size <= D -> I N F W -> W.heap[D]? = some (.deferred (some [])) -> Q .normal { a with defers := { target := .collected D, args := #[] } :: a.defers } W) :
   (Code.rangeFunc g ps assign body).wpIn Fence.wide 6 P Q a w := by
 refine wpIn_rangeFunc fun fn hfn => ?_
 let rec' : LoopState -> Option Code -> Loop := fun st pe => { state := st, pending := pe, fn, tmps := a.tmps, params := ps, assign, body, defers := w.heap.size }
 have hL : ((w.alloc (.deferred (some []))).alloc (.loop (rec' .ready none))).heap[w.heap.size + 1]? = some (.loop (rec' .ready none)) := by
   have h := World.alloc_heap_new (w.alloc (.deferred (some []))) (.loop (rec' .ready none))
   rwa [World.size_alloc] at h
 have c1 := (Ch.refl [] w).alloc (.deferred (some []))
 have c2 := (Ch.refl [] (w.alloc (.deferred (some [])))).alloc (.loop (rec' .ready none))
 have hD : ((w.alloc (.deferred (some []))).alloc (.loop (rec' .ready none))).heap[w.heap.size]? = some (.deferred (some [])) := c2.blk (World.alloc_heap_new w _) (by simp)
 have hI1 : I 0 F0 ((w.alloc (.deferred (some []))).alloc (.loop (rec' .ready none))) := hI _ _ _ _ [] h0 (c1.then c2) (by simp)
 have hsz : ((w.alloc (.deferred (some []))).alloc (.loop (rec' .ready none))).heap.size = w.heap.size + 2 := by simp
 generalize hW1 : (w.alloc (.deferred (some []))).alloc (.loop (rec' .ready none)) = W1 at *
 refine ⟨w.heap.size + 1, [{ target := .collected w.heap.size, args := #[] }], W1, { target := .fn (.func gf) lb, args := #[.func (.yield (w.heap.size + 1)) #[] #[]] }, W1, gf, #[.func (.yield (w.heap.size + 1)) #[] #[]] ++ lb, W1, ?_, ?_, ?_, ?_, fun _ => by omega, ?_⟩
 · rw [<- hW1]
   exact run_enterLoop_outer _ _ _ _ _
 · simp only [resolve, hg]
   simp [go_sem]
 · intro f' _
   trivial
 · simp [invoke, go_sem, eg]
 · refine (hseq (w.heap.size + 1) (fun k F X => ∃ F1, F = (w.heap.size + 1) :: F1 /\ I k F1 X /\ X.heap[w.heap.size + 1]? = some (.loop (rec' .ready none)) /\ X.heap[w.heap.size]? = some (.deferred (some []))) ((w.heap.size + 1) :: F0) W1 (c1.then c2) ?_ ?_ ?_ ⟨F0, rfl, hI1, hL, hD⟩).mono ?_
   · intro j hj
     rcases List.mem_cons.1 hj with rfl | hj
     · exact .inr (by omega)
     · exact .inl hj
   · rintro k F X Y G ⟨F1, rfl, hi, hl, hd⟩ hc hG
     exact ⟨F1, rfl, hI _ _ _ _ G hi hc (fun j hj => ⟨by have := (hG j hj).1; omega, fun h => (hG j hj).2 (by simp [h])⟩), hc.blk hl (fun hm => by have := (hG _ hm).1; omega), hc.blk hd (fun hm => by have := (hG _ hm).1; omega)⟩
   · rintro k F x X ⟨F1, rfl, hi, hl, hd⟩ hx hk
     have hy := run_yield (P := P) (args := encs x) hl (hps x)
     refine ⟨fn, _, assign, body, hy, roundIn_of_wpIn hfn (wpIn_mono (hround _ k F1 x X hi hx hk (by omega) ⟨_, hl⟩) ?_)⟩
     rintro e a' X' hp
     rcases e with _ | _ | _ | _ | _ | _
     case normal =>
       obtain ⟨hc, hb⟩ := hp
       have hl' := hc.blk hl (by simp)
       have hd' := hc.blk hd (by simp)
       have hi' := hI _ _ _ _ [] hi hc (by simp)
       refine ⟨_, run_beginRound hl' rfl, wpIn_mono (hb _) ?_⟩
       rintro e2 a3 Y hq
       rcases e2 with _ | _ | _ | _ | _ | _
       case normal =>
         obtain ⟨F', h1, h2, h3⟩ := hq
         have ncl : ∀ j ∈ F1, j ≠ w.heap.size + 1 /\ j ≠ w.heap.size := fun j hj => by
           obtain ⟨cur, T, hb⟩ := hF _ _ _ hi' j hj
           constructor
           · rintro rfl; rw [hl'] at hb; cases hb
           · rintro rfl; rw [hd'] at hb; cases hb
         have hlt : w.heap.size + 1 < X'.heap.size := blk_lt hl'
         have hl2 : (X'.putObj (w.heap.size + 1) (.loop { rec' .ready none with state := .busy })).heap[w.heap.size + 1]? = some (.loop { rec' .ready none with state := .busy }) := World.putObj_heap_same hlt
         have hd2 : (X'.putObj (w.heap.size + 1) (.loop { rec' .ready none with state := .busy })).heap[w.heap.size]? = some (.deferred (some [])) := (World.putObj_heap_other (by omega)).trans hd'
         have hl3 := h2.blk hl2 (fun hm => (ncl _ hm).1 rfl)
         have hd3 := h2.blk hd2 (fun hm => (ncl _ hm).2 rfl)
         have hr := run_endRound (P := P) none hl3
         have hlt3 := blk_lt hl3
         refine ⟨_, _, hr, rfl, (w.heap.size + 1) :: F', ⟨F', rfl, hI _ _ _ _ [w.heap.size + 1] h1 (ch_put _) (fun j hj => ?_), World.putObj_heap_same hlt3, (World.putObj_heap_other (by omega)).trans hd3⟩, ?_, ?_⟩
         · rw [List.mem_singleton.1 hj]
           refine ⟨by omega, fun hm => ?_⟩
           obtain ⟨cur, T, hb⟩ := hF _ _ _ h1 _ hm
           rw [hl3] at hb
           cases hb
         · have s1 : Ch ((w.heap.size + 1) :: F1) X (X'.putObj (w.heap.size + 1) (.loop { rec' .ready none with state := .busy })) := hc.any.then ((ch_put _).sub (fun j hj => by simp at hj ⊢; exact .inl hj))
           exact (s1.then (h2.sub (fun j hj => by simp [hj]))).then ((ch_put _).sub (fun j hj => by simp at hj ⊢; exact .inl hj))
         · intro j hj
           rcases List.mem_cons.1 hj with rfl | hj
           · exact .inl (by simp)
           · rcases h3 j hj with h | h
             · exact .inl (by simp [h])
             · have hs := hc.size
               rw [World.putObj_size] at h
               exact .inr (by omega)
       all_goals exact hq.elim
     all_goals exact hp.elim
   · rintro e W2 ⟨⟨v, rfl⟩, F', F1, rfl, hi, hl, hd⟩
     have hr := run_endLoop (P := P) hl (by simp [rec'])
     refine ⟨none, _, hr, hdone _ F1 _ (Nat.le_refl _) (hI _ _ _ _ [w.heap.size + 1] hi (ch_put _) (fun j hj => ?_)) ((World.putObj_heap_other (by omega)).trans hd)⟩
     rw [List.mem_singleton.1 hj]
     refine ⟨by omega, fun hm => ?_⟩
     obtain ⟨cur, T, hb⟩ := hF _ _ _ hi _ hm
     rw [hl] at hb
     cases hb
end
end
section
open Go.RowKit Go.Shelf Go.Proofs.YtjoehjclaonneaaGreatW.PrintWords
attribute [local go_sem] Oper.semAt_some
open Vr.Pl (row off)
def valN (ns : List Nat) (pre : List Nat) : List Int := pre.map (fun i => ((ns.getD i 0 : Nat) : Int))
theorem valN_all (ns : List Nat) : valN ns (List.range ns.length) = ns.map (fun n : Nat => (n : Int)) := by
 refine List.ext_getElem (by simp [valN]) (fun i h1 h2 => ?_)
 simp [valN] at h1 h2 ⊢
 rw [List.getElem?_eq_getElem h2]
 rfl
theorem kpN_t {n Bn : Nat} {A B C : World} (h : KpN n Bn A B) (k : KpN n Bn B C) : KpN n Bn A C := ⟨h.1.trans k.1, fun v hv => k.2 v (h.2 v hv)⟩
theorem kpN_b {n₀ Bn : Nat} {w : World} (hn : n₀ <= w.heap.size) (W : World) (l : Nat) (o o' : Obj) (hl : w.heap.size <= l) (h : W.heap[l]? = some o) (h1 : o.isCells = false) (h2 : o.isWalk = false) : KpN n₀ Bn W (W.putObj l o') :=
 ⟨belowK_b hn W l o o' hl h h1 h2, fun v hv => hv.keep (Ch.of_grown (grownBy_putObj' W l o')) (fun hm => by simp at hm; exact cells_row hv h h1 hm)⟩
theorem rndN {n₀ Bn : Nat} {W W' : World} {G : List Nat} (hn : n₀ <= W.heap.size) (hc : Ch G W W') (hG : ∀ k, k ∈ G -> W.heap.size <= k ∨ (n₀ <= k /\ k ≠ Bn /\ ∃ cur T, W.heap[k]? = some (.cells cur T (0, 0)))) : KeepsOthers W W' /\ KpN n₀ Bn W W' := by
 refine ⟨⟨hc.size, fun k o hk ho => ?_⟩, hc.below hn (fun k hk => ?_), fun v hv => hv.keep hc (fun hm => ?_)⟩
 · have hlt := blk_lt hk
   rw [hc.block k hlt (fun hm => ?_)]
   · exact hk
   · rcases hG k hm with h | ⟨_, _, cur, T, h⟩
     · omega
     · rw [h] at hk; cases hk; cases ho
 · rcases hG k hk with h | ⟨h, _⟩ <;> omega
 · have hlt := hv.lt
   rcases hG _ hm with h | ⟨_, h, _⟩
   · omega
   · exact h rfl
structure InAll (ns : List Nat) (w : World) (pre : List Nat) (W : World) : Prop where
 out : ∃ A c q m, Bx W (w.heap.size + 1 + 1 + 1) 153 (.slice A m c) /\ pre.length = m /\ Ow Uv W w.heap.size q A c (valN ns pre)
 r0 : Bx W w.heap.size 153 (.slice none 0 0)
 r1 : Bx W (w.heap.size + 1) 3 (.int .i64 0)
 r2 : Bx W (w.heap.size + 1 + 1) 26 (.int .i64 0)
 xn : ∃ v, Bx W (w.heap.size + 1 + 1 + 1 + 1) 64 v
 ch : Ch [] w W
theorem InAll.keep {ns : List Nat} {w : World} {pre : List Nat} {W W' : World} (h : InAll ns w pre W) {G : List Nat} (hc : Ch G W W') (hG : ∀ k, k ∈ G -> (∀ cur T, W.heap[k]? ≠ some (.cells cur T (0, 0))) /\ w.heap.size <= k) : InAll ns w pre W' := by
 have nc : ∀ {k : Nat} {cur : Array Value} {T : TypeId}, W.heap[k]? = some (.cells cur T (0, 0)) -> k ∉ G := fun h hm => (hG _ hm).1 _ _ h
 obtain ⟨⟨A, c, q, m, h1, h2, h3⟩, h4, h5, h6, ⟨v, h7⟩, h8⟩ := h
 refine ⟨⟨A, c, q, m, h1.keep hc (nc h1), h2, h3.keep hc (fun k hk => ?_)⟩, h4.keep hc (nc h4), h5.keep hc (nc h5), h6.keep hc (nc h6), ⟨v, h7.keep hc (nc h7)⟩, h8.trans hc (fun k hk => .inr (hG k hk).2)⟩
 rw [hk] at h3
 obtain ⟨cur, hb⟩ := h3.blk
 exact nc hb
theorem inAll_own (D : Nat) {ns : List Nat} {w : World} (hw : w.heap.size <= D) : OwnFrom D (InAll ns w) := fun s X Y r hs hg hr =>
 hs.keep (Ch.of_grown hg) (fun k hk => by
   rw [Option.mem_toList] at hk
   obtain ⟨h1, o, h2, h3⟩ := hr k hk
   refine ⟨fun cur T h4 => ?_, by omega⟩
   rw [h2] at h4
   cases h4
   cases h3)
set_option maxRecDepth 100000 in
theorem Vr.all_calls (A : Option Addr) (c m : Nat) (ns : List Nat) (hns : ∀ x ∈ ns, x < 18446744073709551616) (hl : ns.length <= 100000) (hm : (row ns).length = m) (w : World) (h : Rd By w A c (row ns)) :
   Calls Tryz.prog 74 #[.slice A m c] w fun e w' => ∃ A' c' q' k, e = .returned (.tuple #[.slice A' k c', .int .i64 0, .int .i64 0]) /\ ns.length = k /\ Ow Uv w' w.heap.size q' A' c' (ns.map (fun n : Nat => (n : Int))) /\ Ch [] w w' := by
 refine (callsIn_wide (n := 6)).1 ?_
 refine callsIn_of_wp_marks Tryz.func74 rfl trivial ?_ rfl
 simp only [Tryz.ntmps74, List.size_toArray, List.length_cons, List.length_nil, Nat.reduceAdd, Nat.reduceSub, Array.replicate_succ, Array.replicate_zero, List.push_toArray, List.append_toArray, List.nil_append, List.cons_append]
 refine wpIn_wide.2 ?_
 have NC := Ad (fun w => numb_calls A m c w)
 go_wp2_with fail
 refine (NC.out _).mono ?_
 rintro e w5 ⟨rfl, h5⟩
 simp only [World.size_alloc] at h5 ⊢
 have b0 := Bx.new w (.slice none 0 0) 153
 have b1 := Bx.new (w.alloc (.cells #[.slice none 0 0] 153)) (.int .i64 0) 3
 have b2 := Bx.new ((w.alloc (.cells #[.slice none 0 0] 153)).alloc (.cells #[.int .i64 0] 3)) (.int .i64 0) 26
 have b3 := Bx.new (((w.alloc (.cells #[.slice none 0 0] 153)).alloc (.cells #[.int .i64 0] 3)).alloc (.cells #[.int .i64 0] 26)) (.slice none 0 0) 153
 have b4 := Bx.new ((((w.alloc (.cells #[.slice none 0 0] 153)).alloc (.cells #[.int .i64 0] 3)).alloc (.cells #[.int .i64 0] 26)).alloc (.cells #[.slice none 0 0] 153)) (.slice A m c) 64
 have al : ∀ (X : World) (o : Obj) (g : Nat) (t : TypeId) (v : Value), Bx X g t v -> Bx (X.alloc o) g t v := fun X o g t v hv => hv.keep ((Ch.refl [] X).alloc o) (by simp)
 have IE := Ad (show InAll ns w [] w5 from by
   rw [h5]
   simp only [World.size_alloc] at b1 b2 b3 b4
   refine ⟨⟨none, 0, none, 0, al _ _ _ _ _ b3, rfl, Ow.nil Uv _ _⟩, al _ _ _ _ _ (al _ _ _ _ _ (al _ _ _ _ _ (al _ _ _ _ _ b0))), al _ _ _ _ _ (al _ _ _ _ _ (al _ _ _ _ _ b1)), al _ _ _ _ _ (al _ _ _ _ _ b2), ⟨_, b4⟩, ?_⟩
   exact (((((Ch.refl [] w).alloc _).alloc _).alloc _).alloc _).alloc _)
 have BN := Ad (show Bx w5 (w.heap.size + 1 + 1 + 1 + 1) 64 (.slice A m c) from by
   rw [h5]
   simpa only [World.size_alloc] using b4)
 have hsz : w.heap.size + 1 + 1 + 1 + 1 < w5.heap.size := BN.out.lt
 have H := Ad h
 have HM := Ad hm
 have HN := Ad hns
 clear b0 b1 b2 b3 b4 al NC h hm hns h5
 have hD : w.heap.size <= w5.heap.size := by omega
 go_wp2_with fail
 refine (wpIn_wide (n := 6)).1 ?_
 refine wpIn_rangeFunc_ownH rfl (by omega) (gf := 116) (lb := #[.pointer (some ⟨w.heap.size + 1 + 1 + 1 + 1, 0, none⟩)]) rfl trivial (enters_of Tryz.func116 (by kernel_rfl) rfl)
   (numb_stops (6 - 1) (by omega) (w.heap.size + 1 + 1 + 1 + 1) m A c ns HN.out HM.out w H.out w5 BN.out (IE.out.ch.below (Nat.le_refl _) (by simp))) kpN_t (kpN_b hD) (Below.refl _ _) (fun _ => rfl)
   (InAll ns w) (fun _ _ _ => False) (inAll_own _ hD) (fun _ _ _ _ _ hs _ _ => hs.elim) IE.out
   (fun x a' W => ∃ B6, w.heap.size + 1 + 1 + 1 + 1 < B6 /\ Cs W B6 195 [.int .u64 (ns.getD x 0 : Nat), .int .i64 (off ns x : Nat), .int .i64 0] /\ a' = { tmps := #[Value.slice A m c, undef, .pointer (some ⟨w.heap.size, 0, none⟩), .pointer (some ⟨w.heap.size + 1, 0, none⟩), .pointer (some ⟨w.heap.size + 1 + 1, 0, none⟩), .pointer (some ⟨w.heap.size + 1 + 1 + 1, 0, none⟩), .pointer (some ⟨B6, 0, none⟩), .slice A m c, .func (.func 116) #[] #[Value.pointer (some ⟨w.heap.size + 1 + 1 + 1 + 1, 0, none⟩)], .agg #[Value.int .u64 (ns.getD x 0 : Nat), .int .i64 (off ns x : Nat), .int .i64 0], undef, undef, undef, undef, undef, undef, undef, undef, undef, undef, undef, undef, undef], defers := [] })
   (fun x a' _ X Y r hs hg hr => by
     obtain ⟨B6, h0, h1, h2⟩ := hs
     refine ⟨B6, h0, h1.keep (Ch.of_grown hg) (fun hm => ?_), h2⟩
     rw [Option.mem_toList] at hm
     obtain ⟨_, o, h3, h4⟩ := hr _ hm
     exact cells_row h1 h3 h4 rfl)
   ?assign ?body ?done ?stop
 case assign =>
   rintro r pre x W K hi hK
   unfold encN
   gi_wp2
   have hc := (Ch.refl [] W).alloc (.cells #[.int .u64 (ns.getD x 0 : Nat), .int .i64 (off ns x : Nat), .int .i64 0] 195)
   have hlt : w.heap.size + 1 + 1 + 1 + 1 < W.heap.size := by obtain ⟨v, hv⟩ := hi.xn; exact hv.lt
   exact hK _ _ ((KeepsOthers.alloc _ _).from _) (rndN hi.ch.size hc (by simp)).2 (hi.keep hc (by simp)) ⟨W.heap.size, hlt, Cs.new W _ 195, rfl⟩
 case body =>
   rintro r pre x a' W hl' ⟨rr, hr⟩ hi ⟨B6, hB6, D6, rfl⟩ hlt
   obtain ⟨⟨A1, c1, q1, m1, h5, hm1, hO1⟩, h0, h1, h2, ⟨vn, hxn⟩, hch⟩ := hi
   have t2 := D6.cell (j := 2) (v := .int .i64 0) rfl
   have t0 := D6.cell (j := 0) (v := .int .u64 (ns.getD x 0 : Nat)) rfl
   have l6 := D6.lt
   have t5 := h5.cell
   have l5 := h5.lt
   have X5 := Ad h5
   have X0 := Ad h0
   have X1 := Ad h1
   have X2 := Ad h2
   have XN := Ad hxn
   have O1 := Ad hO1
   have M1 := Ad hm1
   have CW := Ad hch
   have hm9 : m1 <= 100000 := by omega
   have ML := Ad (show (valN ns pre).length = m1 from by rw [valN, List.length_map]; exact hm1)
   clear h5 h0 h1 h2 hxn hO1 hm1 hch D6
   obtain ⟨v, hv⟩ : ∃ v : Int, ((ns.getD x 0 : Nat) : Int) = v := ⟨_, rfl⟩
   have VS := Ad (show valN ns (pre ++ [x]) = valN ns pre ++ [v] from by simp [valN, <- hv])
   rw [hv] at t0 ⊢
   have CA := Ad ((Ch.refl [] W).alloc (.cells #[Value.int .u64 v] 137))
   have OW := Ad (O1.out.on CA.out)
   have YW := Ad (Ow.lit Uv W [v] #[Value.int .u64 v] (by rfl) (by decide : 1 <= maxLen)).rd
   have BW := Ad (Nat.le_trans CW.out.size CA.out.size)
   clear hv
   gi_wp2_with (gi_at_builtin; refine wpListIn_append_Ow rfl (.tmp 17) (.tmp 20) 153 (by rfl) (by rfl) (some ⟨W.heap.size, 0, none⟩) 1 1 [v] (by rfl) (by rfl) ML.out OW.out YW.out rfl (by show (m1 + 1) * 8 <= _; omega) BW.out ?_)
   intro A2 c2 q2 W2 hO2 hC2 hq2
   have n137 : ∀ {g : Nat} {cur : Array Value} {t : TypeId}, (W.alloc (.cells #[Value.int .u64 v] 137)).heap[g]? = some (.cells cur t (0, 0)) -> t ≠ 137 -> g ∉ q1.toList := fun hg ht hm => by
     rw [Option.mem_toList] at hm
     exact OW.out.ne hg (fun e => ht e.symm) hm
   have kk : ∀ {g : Nat} {t : TypeId} {u : Value}, Bx W g t u -> t ≠ 137 -> Bx W2 g t u := fun hx ht => (hx.keep CA.out (by simp)).keep hC2 (n137 (hx.keep CA.out (by simp)) ht)
   have y5 := kk X5.out (by decide)
   have c5 := y5.cell
   have l5b := y5.lt
   have Y5 := Ad y5
   have Y0 := Ad (kk X0.out (by decide))
   have Y1 := Ad (kk X1.out (by decide))
   have Y2 := Ad (kk X2.out (by decide))
   have YN := Ad (kk XN.out (by decide))
   have O2 := Ad hO2
   have C2 := Ad hC2
   have T2 := Ad (rndN (Bn := w.heap.size + 1 + 1 + 1 + 1) BW.out hC2 (fun k hk => .inr (by
     have hk' := hk
     rw [Option.mem_toList] at hk'
     have h9 := OW.out
     rw [hk'] at h9
     obtain ⟨cur, hc⟩ := h9.blk
     exact ⟨(OW.out.size k hk').1, fun e => n137 (XN.out.keep CA.out (by simp)) (by decide) (e ▸ hk), cur, 137, hc⟩)))
   have CW2 := Ad ((CW.out.then CA.out).trans hC2 (fun y hy => by rw [Option.mem_toList] at hy; exact .inr (OW.out.size y hy).1))
   clear hO2 hC2 hq2 n137 kk y5
   gi_wp2_with (refine wpListIn_put_Cs rfl 153 (.tmp 5) (.tmp 21) rfl 0 (.slice A2 (m1 + 1) c2) (by rfl) (by rfl) size153 rfl (show Cs W2 (w.heap.size + 1 + 1 + 1) 153 [.slice A1 m1 c1] from Y5.out) (show 0 < 1 by decide) ?_)
   intro W3 hd hc
   gi_wp2
   have T3 := rndN (Bn := w.heap.size + 1 + 1 + 1 + 1) CW2.out.size hc (fun k hk => .inr (by simp at hk; subst hk; exact ⟨by omega, by omega, _, _, Y5.out⟩))
   have T1 := rndN (Bn := w.heap.size + 1 + 1 + 1 + 1) CW.out.size CA.out (by simp)
   refine ⟨((T1.1.trans T2.out.1).trans T3.1).from _, kpN_t (kpN_t T1.2 T2.out.2) T3.2, ?_⟩
   refine ⟨⟨A2, c2, q2, m1 + 1, hd, ?_, ?_⟩, Y0.out.keep hc (by simp <;> omega), Y1.out.keep hc (by simp <;> omega), Y2.out.keep hc (by simp <;> omega), ⟨vn, YN.out.keep hc (by simp <;> omega)⟩, CW2.out.trans hc (fun y hy => by simp at hy; subst hy; exact .inr (by omega))⟩
   · rw [List.length_append, M1.out]; rfl
   · rw [VS.out]
     refine O2.out.keep hc (fun y hy hm => ?_)
     have h9 := O2.out
     rw [hy] at h9
     obtain ⟨cur, hb⟩ := h9.blk
     simp at hm
     subst hm
     rw [show W2.heap[_]? = _ from Y5.out] at hb
     cases hb
 case done =>
   rintro D zs W hD1 hS hi hK
   subst hS
   obtain ⟨⟨A1, c1, q1, m1, h5, hm1, hO1⟩, h0, h1, h2, ⟨vn, hxn⟩, hch⟩ := hi
   rw [valN_all] at hO1
   rw [List.length_range] at hm1
   have c0 := h0.cell
   have f0 := h0.free
   have c1' := h1.cell
   have f1 := h1.free
   have c2' := h2.cell
   have f2 := h2.free
   have c5 := h5.cell
   have l0 := h0.lt
   have l1 := h1.lt
   have l2 := h2.lt
   have l5 := h5.lt
   have X0 := Ad h0
   have X1 := Ad h1
   have X2 := Ad h2
   have O1 := Ad hO1
   have CW := Ad hch
   have HK := Ad hK
   clear h0 h1 h2 h5 hO1 hch hxn hK
   go_wp2_with fail
   have g1 := (Ch.refl [w.heap.size] W).set ⟨w.heap.size, 0, none⟩ (.slice A1 m1 c1) (.inl (by simp))
   have g2 := (Ch.refl [w.heap.size + 1] (W.setCell ⟨w.heap.size, 0, none⟩ (.slice A1 m1 c1))).set ⟨w.heap.size + 1, 0, none⟩ (.int .i64 0) (.inl (by simp))
   have g3 := (Ch.refl [w.heap.size + 1 + 1] ((W.setCell ⟨w.heap.size, 0, none⟩ (.slice A1 m1 c1)).setCell ⟨w.heap.size + 1, 0, none⟩ (.int .i64 0))).set ⟨w.heap.size + 1 + 1, 0, none⟩ (.int .i64 0) (.inl (by simp))
   have v0 := ((X0.out.set (.slice A1 m1 c1)).keep g2 (by simp)).keep g3 (by simp <;> omega)
   have v1 := ((X1.out.keep g1 (by simp)).set (.int .i64 0)).keep g3 (by simp)
   have v2 := ((X2.out.keep g1 (by simp <;> omega)).keep g2 (by simp)).set (.int .i64 0)
   have gg : Ch [w.heap.size, w.heap.size + 1, w.heap.size + 1 + 1] W (((W.setCell ⟨w.heap.size, 0, none⟩ (.slice A1 m1 c1)).setCell ⟨w.heap.size + 1, 0, none⟩ (.int .i64 0)).setCell ⟨w.heap.size + 1 + 1, 0, none⟩ (.int .i64 0)) := ((g1.sub (by simp)).then (g2.sub (by simp))).then (g3.sub (by simp))
   have hK3 := gg.blk HK.out (by simp; omega)
   have OE := O1.out.keep gg (fun k hk hm => by
     have h9 := O1.out
     rw [hk] at h9
     obtain ⟨cur, hb⟩ := h9.blk
     simp at hm
     rcases hm with rfl | rfl | rfl
     · rw [show W.heap[_]? = _ from X0.out] at hb; cases hb
     · rw [show W.heap[_]? = _ from X1.out] at hb; cases hb
     · rw [show W.heap[_]? = _ from X2.out] at hb; cases hb)
   obtain ⟨wF, hwF⟩ : ∃ wF, ((W.setCell ⟨w.heap.size, 0, none⟩ (.slice A1 m1 c1)).setCell ⟨w.heap.size + 1, 0, none⟩ (.int .i64 0)).setCell ⟨w.heap.size + 1 + 1, 0, none⟩ (.int .i64 0) = wF := ⟨_, rfl⟩
   rw [hwF] at v0 v1 v2 gg hK3 OE ⊢
   refine ⟨by simp, .inl ⟨_, _, rfl, run_takeDeferred hK3, ?_⟩⟩
   have CD : Ch [D] wF (wF.putObj D (.deferred none)) := Ch.of_grown (grownBy_putObj' wF D (.deferred none))
   have r0 := (v0.keep CD (by simp; omega)).cell
   have r1 := (v1.keep CD (by simp; omega)).cell
   have r2 := (v2.keep CD (by simp; omega)).cell
   refine ⟨.tuple #[.slice A1 m1 c1, .int .i64 0, .int .i64 0], by simp [results, Tryz.f74, go_sem, r0, r1, r2], A1, c1, q1, m1, rfl, hm1, OE.keep CD (fun k hk hm => ?_), (CW.out.trans gg (fun y hy => by simp at hy; omega)).trans CD (fun y hy => by simp at hy; subst hy; omega)⟩
   simp at hm
   rw [hk] at OE
   obtain ⟨cur, hb⟩ := OE.blk
   exact cells_row hb hK3 rfl hm
 case stop =>
   rintro D k pre W hD1 hS hf
   exact hf.elim
end
section
open Go.RowKit Go.Shelf Go.Proofs.YtjoehjclaonneaaGreatW.PrintWords
attribute [local go_sem] Oper.semAt_some
theorem cell_eq {A B : World} (h : Ch [] A B) (b : Nat) (hb : b < A.heap.size) : B.cell? ⟨b, 0, none⟩ = A.cell? ⟨b, 0, none⟩ := World.cell?_of_block (h.block b hb (by simp))
theorem frozen_eq {A B : World} (h : Ch [] A B) (b : Nat) (hb : b < A.heap.size) : B.frozen? ⟨b, 0, none⟩ = A.frozen? ⟨b, 0, none⟩ := World.frozen?_of_block (h.block b hb (by simp))
theorem acts15 {W : World} {B : Nat} {x : Act'} (h : Cs W B 55 (Av.enc x)) : W.cell? ⟨B, 0, none⟩ = some (.int .i64 x.tick) /\ W.cell? ⟨B, 1, none⟩ = some (.int .i64 x.node) /\ W.cell? ⟨B, 2, none⟩ = some (.bool x.fault) /\ W.cell? ⟨B, 3, none⟩ = some (.int .i64 x.f.id) /\ W.cell? ⟨B, 4, none⟩ = some (.bool x.f.ext) /\ W.cell? ⟨B, 5, none⟩ = some (.bool x.f.rtr) /\ W.cell? ⟨B, 6, none⟩ = some (.int .i64 x.f.len) /\ W.cell? ⟨B, 7, none⟩ = some (.int .u8 x.f.d0) /\ W.cell? ⟨B, 8, none⟩ = some (.int .u8 x.f.d1) /\ W.cell? ⟨B, 9, none⟩ = some (.int .u8 x.f.d2) /\ W.cell? ⟨B, 10, none⟩ = some (.int .u8 x.f.d3) /\ W.cell? ⟨B, 11, none⟩ = some (.int .u8 x.f.d4) /\ W.cell? ⟨B, 12, none⟩ = some (.int .u8 x.f.d5) /\ W.cell? ⟨B, 13, none⟩ = some (.int .u8 x.f.d6) /\ W.cell? ⟨B, 14, none⟩ = some (.int .u8 x.f.d7) :=
 ⟨h.cell rfl, h.cell rfl, h.cell rfl, h.cell rfl, h.cell rfl, h.cell rfl, h.cell rfl, h.cell rfl, h.cell rfl, h.cell rfl, h.cell rfl, h.cell rfl, h.cell rfl, h.cell rfl, h.cell rfl⟩
set_option maxRecDepth 100000 in
theorem rerun_calls (n : Nat) (mask : Nat) (A : Option Addr) (c m : Nat) (l : List Act') (hm : l.length = m) (hm1 : m <= 1000) (hwf : ∀ a ∈ l, a.f.wf) (hchk : Pl.chk n l = 0) (hmask : mask < 2 ^ n) (hn8 : n <= 8) (X : Option Addr) (cx mx : Nat) (L : List Run) (hmx : L.length = mx) (hL : ∀ r ∈ L, Pl.rgt r) (hLd : ∀ r ∈ L, 0 <= r.drv /\ r.drv < 4294967296) (hT : Pl.tot L <= 1000) (w : World) (h : Rd Av w A c l) (hX : Rd Rv w X cx L) :
   Calls Tryz.prog 12 #[.int .i64 n, .slice X mx cx, .int .u32 mask, .slice A m c] w (Played w (Pl.jn (Pl.Bus.res (Pl.live mask l) mask L (Pl.Bus.fresh n) (List.range (Pl.ex L).length)).2.1) (Pl.Bus.res (Pl.live mask l) mask L (Pl.Bus.fresh n) (List.range (Pl.ex L).length)).2.2) := by
 obtain ⟨⟨hn1, hn2⟩, hacts⟩ := Pl.chk_zero hchk
 have hp2 : 2 ^ n <= 4294967296 := Nat.pow_le_pow_right (n := 2) (by decide) (show n <= 32 by omega)
 have BC := bcheck_calls n A c m l hm hwf
 rw [hchk] at BC
 have BCH := Ad BC
 have H := Ad h
 have HX := Ad hX
 have HN := Ad hm
 have HA := Ad hacts
 have HWF := Ad hwf
 have HMX := Ad hmx
 have HL := Ad hL
 have HLD := Ad hLd
 have HT := Ad hT
 have HMS := Ad hmask
 have HM32 := Ad (show mask < 4294967296 by omega)
 have BN := Ad (fun w => bnew_calls w n (by omega) (by omega))
 clear h hX hm hacts hwf hchk BC hmx hL hLd hT hmask hp2
 have hmask8 : mask < 256 := Nat.lt_of_lt_of_le HMS.out (Nat.pow_le_pow_right (n := 2) (by decide) hn8)
 have hbl : (Lib.bitLen mask : Int) <= n := by have := bitLen_le mask n hn8 HMS.out; omega
 have LC := Ad (fun w => len32_calls mask hmask8 w)
 have TC := Ad (fun (w1 : World) (hc : Ch [] w w1) => ticks_calls X cx mx L HMX.out HL.out (by have := HT.out; omega) w1 (HX.out.on hc))
 have LV := Ad (fun (w1 : World) (hc : Ch [] w w1) => live_calls mask HM32.out A c m l HN.out (by omega) (fun a ha => ⟨(HA.out a ha).2.1, by have := (HA.out a ha).2.2.1; omega⟩) w1 (H.out.on hc))
 have hT1 : Pl.tot L <= 1048576 := by have := HT.out; omega
 have B1 := Bx.new w (.int .u32 mask) 25
 obtain ⟨w1, hw1⟩ : ∃ w1, w.alloc (.cells #[.int .u32 mask] 25) = w1 := ⟨_, rfl⟩
 have C1 : Ch [] w w1 := hw1 ▸ (Ch.refl [] w).alloc _
 have s1 : w1.heap.size = w.heap.size + 1 := by rw [<- hw1]; simp
 rw [hw1] at B1
 have B2 := Bx.new w1 (.slice none 0 0) 39
 obtain ⟨w2, hw2⟩ : ∃ w2, w1.alloc (.cells #[.slice none 0 0] 39) = w2 := ⟨_, rfl⟩
 have C2 : Ch [] w1 w2 := hw2 ▸ (Ch.refl [] w1).alloc _
 have s2 : w2.heap.size = w.heap.size + 1 + 1 := by rw [<- hw2]; simp [s1]
 rw [hw2, s1] at B2
 have B3 := Bx.new w2 (.slice none 0 0) 42
 obtain ⟨w3, hw3⟩ : ∃ w3, w2.alloc (.cells #[.slice none 0 0] 42) = w3 := ⟨_, rfl⟩
 have C3 : Ch [] w2 w3 := hw3 ▸ (Ch.refl [] w2).alloc _
 have s3 : w3.heap.size = w.heap.size + 1 + 1 + 1 := by rw [<- hw3]; simp [s2]
 rw [hw3, s2] at B3
 have B4 := Bx.new w3 (.int .i64 0) 26
 obtain ⟨w4, hw4⟩ : ∃ w4, w3.alloc (.cells #[.int .i64 0] 26) = w4 := ⟨_, rfl⟩
 have C4 : Ch [] w3 w4 := hw4 ▸ (Ch.refl [] w3).alloc _
 rw [hw4, s3] at B4
 have C14 := Ad (((C1.then C2).then C3).then C4)
 have BB := Ad (show Bx w4 w.heap.size 25 (.int .u32 mask) /\ Bx w4 (w.heap.size + 1) 39 (.slice none 0 0) /\ Bx w4 (w.heap.size + 1 + 1) 42 (.slice none 0 0) /\ Bx w4 (w.heap.size + 1 + 1 + 1) 26 (.int .i64 0) from
   ⟨((B1.keep C2 (by simp)).keep C3 (by simp)).keep C4 (by simp), (B2.keep C3 (by simp)).keep C4 (by simp), B3.keep C4 (by simp), B4⟩)
 have HW1 := Ad hw1
 have HW2 := Ad hw2
 have HW3 := Ad hw3
 have HW4 := Ad hw4
 clear hw1 hw2 hw3 hw4 B1 B2 B3 B4 C1 C2 C3 C4 s1 s2 s3 hmask8
 generalize Lib.bitLen mask = bl at *
 refine (callsIn_wide (n := 6)).1 ?_
 refine callsIn_of_wp_marks Tryz.func12 rfl trivial ?_ rfl
 simp only [Tryz.ntmps12, List.size_toArray, List.length_cons, List.length_nil, Nat.reduceAdd, Nat.reduceSub, Array.replicate_succ, Array.replicate_zero, List.push_toArray, List.append_toArray, List.nil_append, List.cons_append]
 refine wpIn_wide.2 ?_
 go_wp2_with fail
 rw [HW1.out, HW2.out, HW3.out, HW4.out]
 refine (BCH.out w4 (H.out.on C14.out)).mono ?_
 rintro e w5 ⟨rfl, hC⟩
 have C5 := Ad (C14.out.then hC)
 have BB5 := Ad (show Bx w5 w.heap.size 25 (.int .u32 mask) /\ Bx w5 (w.heap.size + 1) 39 (.slice none 0 0) /\ Bx w5 (w.heap.size + 1 + 1) 42 (.slice none 0 0) /\ Bx w5 (w.heap.size + 1 + 1 + 1) 26 (.int .i64 0) from
   ⟨BB.out.1.keep hC (by simp), BB.out.2.1.keep hC (by simp), BB.out.2.2.1.keep hC (by simp), BB.out.2.2.2.keep hC (by simp)⟩)
 clear hC BCH BB HW1 HW2 HW3 HW4 C14
 go_wp2_with fail
 refine (BN.out w5).mono ?_
 rintro e w6 ⟨gB, A0, c0, q0, ps0, rfl, hB, hC, hfp⟩
 have C6 := Ad (C5.out.then hC)
 have BB6 := Ad (show Bx w6 w.heap.size 25 (.int .u32 mask) /\ Bx w6 (w.heap.size + 1) 39 (.slice none 0 0) /\ Bx w6 (w.heap.size + 1 + 1) 42 (.slice none 0 0) /\ Bx w6 (w.heap.size + 1 + 1 + 1) 26 (.int .i64 0) from
   ⟨BB5.out.1.keep hC (by simp), BB5.out.2.1.keep hC (by simp), BB5.out.2.2.1.keep hC (by simp), BB5.out.2.2.2.keep hC (by simp)⟩)
 have B6 := Ad (show BusAt w6 w5.heap.size gB A0 c0 q0 ps0 (Pl.Bus.fresh n).nodes 0 from hB)
 have S5 := Ad (show w.heap.size + 1 + 1 + 1 < w5.heap.size from BB5.out.2.2.2.lt)
 have D12 := Ad (Cs.new w6 [Value.pointer none] 94)
 have N12 := Ad ((Ch.refl [] w6).alloc (.cells [Value.pointer none].toArray 94))
 clear hB hC hfp BN BB5
 go_wp2_with (refine wpList_put_Cs rfl 94 (.tmp 12) (.tmp 37) rfl 0 (.pointer (some ⟨gB, 0, none⟩)) (by rfl) (by rfl) size94 rfl D12.out (show 0 < 1 by decide) ?_)
 intro w7 hd hc
 have C67 := Ad (N12.out.trans hc (by simp))
 have C7 := Ad (C6.out.then C67.out)
 have X12 := Ad (show Bx w7 w6.heap.size 94 (.pointer (some ⟨gB, 0, none⟩)) from hd)
 have BB7 := Ad (show Bx w7 w.heap.size 25 (.int .u32 mask) /\ Bx w7 (w.heap.size + 1) 39 (.slice none 0 0) /\ Bx w7 (w.heap.size + 1 + 1) 42 (.slice none 0 0) /\ Bx w7 (w.heap.size + 1 + 1 + 1) 26 (.int .i64 0) from
   ⟨BB6.out.1.keep C67.out (by simp), BB6.out.2.1.keep C67.out (by simp), BB6.out.2.2.1.keep C67.out (by simp), BB6.out.2.2.2.keep C67.out (by simp)⟩)
 have B7 := Ad (B6.out.on C67.out)
 have S6 := Ad (show w5.heap.size <= w6.heap.size from B6.out.ns.base)
 have x6 := BB7.out.1.cell
 have l6 := BB7.out.1.lt
 clear hd hc D12 N12 BB6 B6
 go_wp2_with fail
 refine (LC.out w7).mono ?_
 rintro e w99 ⟨rfl, rfl⟩
 go_wp2_with fail
 refine (TC.out w7 C7.out).mono ?_
 rintro e w8 ⟨rfl, hC⟩
 have C8 := Ad (C7.out.then hC)
 have C78 := Ad hC
 clear hC TC LC x6 l6
 have BB8 := Ad (show Bx w8 w.heap.size 25 (.int .u32 mask) /\ Bx w8 (w.heap.size + 1) 39 (.slice none 0 0) /\ Bx w8 (w.heap.size + 1 + 1) 42 (.slice none 0 0) /\ Bx w8 (w.heap.size + 1 + 1 + 1) 26 (.int .i64 0) /\ Bx w8 w6.heap.size 94 (.pointer (some ⟨gB, 0, none⟩)) from
   ⟨BB7.out.1.keep C78.out (by simp), BB7.out.2.1.keep C78.out (by simp), BB7.out.2.2.1.keep C78.out (by simp), BB7.out.2.2.2.keep C78.out (by simp), X12.out.keep C78.out (by simp)⟩)
 have B8 := Ad (B7.out.on C78.out)
 obtain ⟨gm, hgm⟩ : ∃ gm, w8.heap.size = gm := ⟨_, rfl⟩
 obtain ⟨w9, hw9⟩ : ∃ w9, (w8.alloc (.map #[] 0)).alloc (.cells #[.map (some gm)] 97) = w9 := ⟨_, rfl⟩
 have C89 := Ad (show Ch [] w8 w9 from hw9 ▸ ((Ch.refl [] w8).alloc _).alloc _)
 have X15 := Ad (show Bx w9 (gm + 1) 97 (.map (some gm)) from by
   have := Bx.new (w8.alloc (.map #[] 0)) (.map (some gm)) 97
   rw [hw9] at this
   simpa [hgm] using this)
 have M9 := Ad (show w9.heap[gm]? = some (.map #[] 0) from by
   have h1 := heap_alloc_new w8 (.map #[] 0)
   rw [hgm] at h1
   have h2 := ((Ch.refl [] (w8.alloc (.map #[] 0))).alloc (.cells #[.map (some gm)] 97)).blk h1 (by simp)
   rw [hw9] at h2
   exact h2)
 have hmk : (Instr.makeMap 97 none).run Tryz.prog w8 = .ok (.map (some w8.heap.size)) (w8.alloc (.map #[] 0)) := run_makeMap 97 w8
 have x6 := BB8.out.1.cell
 have l6 := BB8.out.1.lt
 have GM8 := Ad hgm
 have HW9 := Ad hw9
 clear hgm hw9 C67 C78 X12 BB7 B7
 go_wp2_with fail
 rw [GM8.out, HW9.out]
 have BB9 := Ad (show Bx w9 w.heap.size 25 (.int .u32 mask) /\ Bx w9 (w.heap.size + 1) 39 (.slice none 0 0) /\ Bx w9 (w.heap.size + 1 + 1) 42 (.slice none 0 0) /\ Bx w9 (w.heap.size + 1 + 1 + 1) 26 (.int .i64 0) /\ Bx w9 w6.heap.size 94 (.pointer (some ⟨gB, 0, none⟩)) from
   ⟨BB8.out.1.keep C89.out (by simp), BB8.out.2.1.keep C89.out (by simp), BB8.out.2.2.1.keep C89.out (by simp), BB8.out.2.2.2.1.keep C89.out (by simp), BB8.out.2.2.2.2.keep C89.out (by simp)⟩)
 have B9 := Ad (B8.out.on C89.out)
 have S8 := Ad (show w6.heap.size < gm from by rw [<- GM8.out]; exact BB8.out.2.2.2.2.lt)
 have C9 := Ad (C8.out.then C89.out)
 clear hmk x6 l6 BB8 B8 C8 C89 C7 GM8 HW9
 refine (LV.out w9 C9.out).mono ?_
 rintro e w10 ⟨LA, lc, lq, lm, rfl, hLO, hC⟩
 have LO := Ad hLO
 have C10 := Ad (C9.out.then hC)
 have R10 := Ad (show Bx w10 w.heap.size 25 (.int .u32 mask) /\ Bx w10 (w.heap.size + 1) 39 (.slice none 0 0) /\ Bx w10 (w.heap.size + 1 + 1) 42 (.slice none 0 0) /\ Bx w10 (w.heap.size + 1 + 1 + 1) 26 (.int .i64 0) /\ Bx w10 w6.heap.size 94 (.pointer (some ⟨gB, 0, none⟩)) /\ Bx w10 (gm + 1) 97 (.map (some gm)) /\ BusAt w10 w5.heap.size gB A0 c0 q0 ps0 (Pl.Bus.fresh n).nodes 0 /\ Ch [] w w10 from
   ⟨BB9.out.1.keep hC (by simp), BB9.out.2.1.keep hC (by simp), BB9.out.2.2.1.keep hC (by simp), BB9.out.2.2.2.1.keep hC (by simp), BB9.out.2.2.2.2.keep hC (by simp), X15.out.keep hC (by simp), B9.out.on hC, C9.out.then hC⟩)
 have M10 := Ad (show MapAt w10 w10.heap.size gm (fun t => Pl.at' ((Pl.live mask l).take 0) t) from
   MapAt.eq (D := fun _ => []) ⟨[], #[], 0, hC.blk M9.out (by simp), ⟨rfl, by simp, by simp, by simp, by simp⟩, by simp, by simp⟩ (fun k => rfl))
 obtain ⟨lv, hlv⟩ : ∃ lv, Pl.live mask l = lv := ⟨_, rfl⟩
 have LVL := Ad (show ∀ a ∈ lv, a ∈ l from fun a ha => by rw [<- hlv] at ha; exact (List.mem_filter.1 ha).1)
 have lm9 : lm <= 1000 := by
   have h1 := List.length_filter_le (fun a : Act' => !mask.testBit a.node.toNat) l
   have h2 := hLO.1
   unfold Pl.live at h2
   rw [HN.out] at h1
   omega
 rw [hlv] at LO M10
 have HLV := Ad hlv
 have S9 := Ad (show w.heap.size <= w9.heap.size from C9.out.size)
 clear hLO hC hlv LV M9 X15 BB9 B9 C9 C10
 go_wp2_with fail
 go_loopw [65] (fun i wr => ∃ k : Nat, k <= lm /\ i = .int .i64 k /\ Aside0 (Bx wr w.heap.size 25 (.int .u32 mask) /\ Bx wr (w.heap.size + 1) 39 (.slice none 0 0) /\ Bx wr (w.heap.size + 1 + 1) 42 (.slice none 0 0) /\ Bx wr (w.heap.size + 1 + 1 + 1) 26 (.int .i64 0) /\ Bx wr w6.heap.size 94 (.pointer (some ⟨gB, 0, none⟩)) /\ Bx wr (gm + 1) 97 (.map (some gm)) /\ BusAt wr w5.heap.size gB A0 c0 q0 ps0 (Pl.Bus.fresh n).nodes 0 /\ Ch [] w wr) /\
   Aside0 (MapAt wr w10.heap.size gm (fun t => Pl.at' (lv.take k) t) /\ Ow Av wr w9.heap.size lq LA lc lv /\ w10.heap.size <= wr.heap.size)) (fun i _ => lm - (intOf i).toNat)
 case atStart => exact ⟨0, by omega, rfl, R10, ⟨M10.out, LO.out.2, Nat.le_refl _⟩⟩
 case round =>
   obtain ⟨k, hk, rfl, HR, HM⟩ := hrel
   have c15 := HR.out.2.2.2.2.2.1.cell
   have l15 := HR.out.2.2.2.2.2.1.lt
   by_cases hlt : k < lm
   · obtain ⟨x, hx⟩ : ∃ x, lv[k]? = some x := ⟨_, List.getElem?_eq_getElem (by rw [LO.out.1]; exact hlt)⟩
     obtain ⟨g, o, rfl, hrc⟩ := HM.out.2.1.rd.cells hx
     have R := Ad (show wr.rangeAt g (o + k * 15) (Av.enc x) from fun j v hv => hrc j v hv)
     have AT := Ad (show ∀ t, (if t = x.tick then Pl.at' (lv.take k) x.tick ++ [x] else Pl.at' (lv.take k) t) = Pl.at' (lv.take (k + 1)) t from fun t => by
       unfold Pl.at'
       rw [List.take_add_one, hx, Option.toList_some, List.filter_append]
       by_cases e : t = x.tick
       · subst e; simp
       · rw [if_neg e]; simp; exact fun h : x.tick = t => e h.symm)
     have k0 : (0 : Int) <= (k : Int) := by omega
     have k1 : (k : Int) < (lm : Int) := by omega
     have DN := Ad (Cs.new wr ([Value.int .i64 0, .int .i64 0, .bool false] ++ zf) 55)
     have CN := Ad ((Ch.refl [] wr).alloc (.cells ([Value.int .i64 0, .int .i64 0, .bool false] ++ zf).toArray 55))
     have P1 := Ad (show ∀ u ∈ Av.enc x, u.oneCell' = true from fun u hu => Av.hone x u hu)
     clear hrc hx
     go_wp2_with (first | refine wpList_load_mid rfl 55 (.tmp 67) rfl g (o + k * 15) (by rfl) (Av.enc x) _ R.out Tryz.underlying55 rfl size55 ?_ | refine wpList_store_all rfl 55 (.tmp 17) (.tmp 68) rfl (Av.enc x) (by rfl) (by rfl) DN.out rfl size55 P1.out ?_)
     intro wa ha ca
     have CA := Ad (show Ch [] wr wa from CN.out.trans ca (by simp))
     obtain ⟨AL, cL, qL, lk, hOL, back⟩ := HM.out.1.look x.tick
     have hC2 : Ch [] wa ((wa.alloc (.cells #[Value.int .i64 x.tick, .int .i64 x.node, .bool x.fault, .int .i64 x.f.id, .bool x.f.ext, .bool x.f.rtr, .int .i64 x.f.len, .int .u8 x.f.d0, .int .u8 x.f.d1, .int .u8 x.f.d2, .int .u8 x.f.d3, .int .u8 x.f.d4, .int .u8 x.f.d5, .int .u8 x.f.d6, .int .u8 x.f.d7] 55)).drew) := ((Ch.refl [] wa).alloc _).drew
     have lk1 := lk _ (CA.out.then (Ch.refl [] wa).drew)
     have lk2 := lk _ (CA.out.then hC2)
     have S0 := acts15 ha
     obtain ⟨a0, a1, a2, a3, a4, a5, a6, a7, a8, a9, a10, a11, a12, a13, a14⟩ := S0
     have DA := Ad ha
     have c15 := CA.out.cell c15 (by simp)
     have hal := ha.lt
     have l15 := Nat.lt_of_lt_of_le l15 CA.out.size
     have hlen30 : (Pl.at' (lv.take k) x.tick).length <= 1000 := by
       have h1 := List.length_filter_le (fun a : Act' => decide (a.tick = x.tick)) (lv.take k)
       unfold Pl.at'
       rw [List.length_take] at h1
       omega
     have BASE := Ad (show w10.heap.size <= (wa.alloc (.cells #[Value.int .i64 x.tick, .int .i64 x.node, .bool x.fault, .int .i64 x.f.id, .bool x.f.ext, .bool x.f.rtr, .int .i64 x.f.len, .int .u8 x.f.d0, .int .u8 x.f.d1, .int .u8 x.f.d2, .int .u8 x.f.d3, .int .u8 x.f.d4, .int .u8 x.f.d5, .int .u8 x.f.d6, .int .u8 x.f.d7] 55)).drew.heap.size from Nat.le_trans (Nat.le_trans HM.out.2.2 CA.out.size) hC2.size)
     have OL := Ad (hOL.on (CA.out.then hC2))
     have QN := Ad (show wr.heap.size ∉ qL.toList from fun hm => by rw [Option.mem_toList] at hm; have := (hOL.size _ hm).2; omega)
     have QL := Ad (show ∀ y, y ∈ qL.toList -> w10.heap.size <= y from fun y hy => by rw [Option.mem_toList] at hy; exact (hOL.size y hy).1)
     have YL := Ad ((Ow.lit Av wa [x] #[Value.int .i64 x.tick, .int .i64 x.node, .bool x.fault, .int .i64 x.f.id, .bool x.f.ext, .bool x.f.rtr, .int .i64 x.f.len, .int .u8 x.f.d0, .int .u8 x.f.d1, .int .u8 x.f.d2, .int .u8 x.f.d3, .int .u8 x.f.d4, .int .u8 x.f.d5, .int .u8 x.f.d6, .int .u8 x.f.d7] (by rfl) (by decide : 1 <= maxLen)).rd.drew)
     have BK := Ad back
     have HC2 := Ad (CA.out.then hC2)
     have HC3 := Ad hC2
     have PST := Ad (show ∀ y, y < w10.heap.size -> y ∉ qL.toList from fun y hy hm => by have := QL.out y hm; omega)
     have c15b := Ad (show gm + 1 < w10.heap.size from R10.out.2.2.2.2.2.1.lt)
     have NGM := Ad (show wr.heap.size ∉ [gm] from by simp; omega)
     obtain ⟨mt, hmt⟩ : ∃ mt, (Pl.at' (lv.take k) x.tick).length = mt := ⟨_, rfl⟩
     have HMT := Ad hmt
     rw [hmt] at lk1 lk2 hlen30
     clear back lk hOL hC2 ha ca DN CN R P1 hmt
     go_wp2_with fail
     go_region_held3 (fun W => W.cell? ⟨wr.heap.size, 0, none⟩ = some (.int .i64 x.tick) /\ W.cell? ⟨wr.heap.size, 1, none⟩ = some (.int .i64 x.node) /\ W.cell? ⟨wr.heap.size, 2, none⟩ = some (.bool x.fault) /\ W.cell? ⟨wr.heap.size, 3, none⟩ = some (.int .i64 x.f.id) /\ W.cell? ⟨wr.heap.size, 4, none⟩ = some (.bool x.f.ext) /\ W.cell? ⟨wr.heap.size, 5, none⟩ = some (.bool x.f.rtr) /\ W.cell? ⟨wr.heap.size, 6, none⟩ = some (.int .i64 x.f.len) /\ W.cell? ⟨wr.heap.size, 7, none⟩ = some (.int .u8 x.f.d0) /\ W.cell? ⟨wr.heap.size, 8, none⟩ = some (.int .u8 x.f.d1) /\ W.cell? ⟨wr.heap.size, 9, none⟩ = some (.int .u8 x.f.d2) /\ W.cell? ⟨wr.heap.size, 10, none⟩ = some (.int .u8 x.f.d3) /\ W.cell? ⟨wr.heap.size, 11, none⟩ = some (.int .u8 x.f.d4) /\ W.cell? ⟨wr.heap.size, 12, none⟩ = some (.int .u8 x.f.d5) /\ W.cell? ⟨wr.heap.size, 13, none⟩ = some (.int .u8 x.f.d6) /\ W.cell? ⟨wr.heap.size, 14, none⟩ = some (.int .u8 x.f.d7) /\ W.cell? ⟨gm + 1, 0, none⟩ = some (.map (some gm))) (first | assumption | go_keep)
       ((refine step_append_Ow (by rfl) (.tmp 75) (.tmp 77) 22 (by rfl) (by rfl) (some ⟨wa.heap.size, 0, none⟩) 1 1 [x] (by rfl) (by rfl) HMT.out OL.out YL.out rfl (by show (mt + 1) * 56 <= _; omega) BASE.out ?_
         intro A' c' q' W' hO hC hq
         obtain ⟨W2, up, hM2, hC2b⟩ := BK.out W' A' c' q' _ hO (HC2.out.any.then hC) (by rcases hq with e | e; exact .inl e; exact .inr ⟨_, e, HC2.out.size⟩)
         rw [show (Pl.at' (lv.take k) x.tick ++ [x]).length = mt + 1 by rw [List.length_append, HMT.out]; rfl] at up
         have hS : (fun W => W.cell? ⟨wr.heap.size, 0, none⟩ = some (.int .i64 x.tick) /\ W.cell? ⟨wr.heap.size, 1, none⟩ = some (.int .i64 x.node) /\ W.cell? ⟨wr.heap.size, 2, none⟩ = some (.bool x.fault) /\ W.cell? ⟨wr.heap.size, 3, none⟩ = some (.int .i64 x.f.id) /\ W.cell? ⟨wr.heap.size, 4, none⟩ = some (.bool x.f.ext) /\ W.cell? ⟨wr.heap.size, 5, none⟩ = some (.bool x.f.rtr) /\ W.cell? ⟨wr.heap.size, 6, none⟩ = some (.int .i64 x.f.len) /\ W.cell? ⟨wr.heap.size, 7, none⟩ = some (.int .u8 x.f.d0) /\ W.cell? ⟨wr.heap.size, 8, none⟩ = some (.int .u8 x.f.d1) /\ W.cell? ⟨wr.heap.size, 9, none⟩ = some (.int .u8 x.f.d2) /\ W.cell? ⟨wr.heap.size, 10, none⟩ = some (.int .u8 x.f.d3) /\ W.cell? ⟨wr.heap.size, 11, none⟩ = some (.int .u8 x.f.d4) /\ W.cell? ⟨wr.heap.size, 12, none⟩ = some (.int .u8 x.f.d5) /\ W.cell? ⟨wr.heap.size, 13, none⟩ = some (.int .u8 x.f.d6) /\ W.cell? ⟨wr.heap.size, 14, none⟩ = some (.int .u8 x.f.d7) /\ W.cell? ⟨gm + 1, 0, none⟩ = some (.map (some gm))) W' := by
           have h9 := acts15 (DA.out.keep (HC3.out.any.then hC) QN.out)
           obtain ⟨e0, e1, e2, e3, e4, e5, e6, e7, e8, e9, e10, e11, e12, e13, e14⟩ := h9
           exact ⟨e0, e1, e2, e3, e4, e5, e6, e7, e8, e9, e10, e11, e12, e13, e14, (HC3.out.any.then hC).cell c15 (PST.out _ c15b.out)⟩
         have hS2 : (fun W => W.cell? ⟨wr.heap.size, 0, none⟩ = some (.int .i64 x.tick) /\ W.cell? ⟨wr.heap.size, 1, none⟩ = some (.int .i64 x.node) /\ W.cell? ⟨wr.heap.size, 2, none⟩ = some (.bool x.fault) /\ W.cell? ⟨wr.heap.size, 3, none⟩ = some (.int .i64 x.f.id) /\ W.cell? ⟨wr.heap.size, 4, none⟩ = some (.bool x.f.ext) /\ W.cell? ⟨wr.heap.size, 5, none⟩ = some (.bool x.f.rtr) /\ W.cell? ⟨wr.heap.size, 6, none⟩ = some (.int .i64 x.f.len) /\ W.cell? ⟨wr.heap.size, 7, none⟩ = some (.int .u8 x.f.d0) /\ W.cell? ⟨wr.heap.size, 8, none⟩ = some (.int .u8 x.f.d1) /\ W.cell? ⟨wr.heap.size, 9, none⟩ = some (.int .u8 x.f.d2) /\ W.cell? ⟨wr.heap.size, 10, none⟩ = some (.int .u8 x.f.d3) /\ W.cell? ⟨wr.heap.size, 11, none⟩ = some (.int .u8 x.f.d4) /\ W.cell? ⟨wr.heap.size, 12, none⟩ = some (.int .u8 x.f.d5) /\ W.cell? ⟨wr.heap.size, 13, none⟩ = some (.int .u8 x.f.d6) /\ W.cell? ⟨wr.heap.size, 14, none⟩ = some (.int .u8 x.f.d7) /\ W.cell? ⟨gm + 1, 0, none⟩ = some (.map (some gm))) W2 := by
           have h9 := acts15 ((DA.out.keep (HC3.out.any.then hC) QN.out).keep hC2b NGM.out)
           obtain ⟨e0, e1, e2, e3, e4, e5, e6, e7, e8, e9, e10, e11, e12, e13, e14⟩ := h9
           exact ⟨e0, e1, e2, e3, e4, e5, e6, e7, e8, e9, e10, e11, e12, e13, e14, hC2b.cell ((HC3.out.any.then hC).cell c15 (PST.out _ c15b.out)) (by simp)⟩
         have M9 := Ad (hM2.eq AT.out)
         have C9 := Ad (HC2.out.any.then hC)
         have C8 := Ad hC2b
         clear hO hC hq hM2 hC2b))
     all_goals
       have R9 := Ad (show Bx W2 w.heap.size 25 (.int .u32 mask) /\ Bx W2 (w.heap.size + 1) 39 (.slice none 0 0) /\ Bx W2 (w.heap.size + 1 + 1) 42 (.slice none 0 0) /\ Bx W2 (w.heap.size + 1 + 1 + 1) 26 (.int .i64 0) /\ Bx W2 w6.heap.size 94 (.pointer (some ⟨gB, 0, none⟩)) /\ Bx W2 (gm + 1) 97 (.map (some gm)) /\ BusAt W2 w5.heap.size gB A0 c0 q0 ps0 (Pl.Bus.fresh n).nodes 0 /\ Ch [] w W2 from by
         have k1 : ∀ {g : Nat} {t : TypeId} {v v' : Value}, Bx wr g t v -> Bx w10 g t v' -> Bx W2 g t v := fun h h' => by
           have hM := HM.out.1
           obtain ⟨es, arr, cl, hg, _⟩ := hM
           refine (h.keep C9.out (PST.out _ h'.lt)).keep C8.out (fun hm => ?_)
           simp at hm
           subst hm
           rw [show wr.heap[_]? = _ from h] at hg
           cases hg
         refine ⟨k1 HR.out.1 R10.out.1, k1 HR.out.2.1 R10.out.2.1, k1 HR.out.2.2.1 R10.out.2.2.1, k1 HR.out.2.2.2.1 R10.out.2.2.2.1, k1 HR.out.2.2.2.2.1 R10.out.2.2.2.2.1, k1 HR.out.2.2.2.2.2.1 R10.out.2.2.2.2.2.1, ?_, ?_⟩
         · refine (HR.out.2.2.2.2.2.2.1.keep C9.out (fun y hy => ?_)).keep C8.out (fun y hy hm => ?_)
           · obtain ⟨cur, T, hb, _⟩ := R10.out.2.2.2.2.2.2.1.kinds y hy
             exact PST.out y (blk_lt hb)
           · simp at hm
             subst hm
             obtain ⟨es, arr, cl, hg, _⟩ := HM.out.1
             exact HR.out.2.2.2.2.2.2.1.noMap hg hy
         · exact (HR.out.2.2.2.2.2.2.2.trans C9.out (fun y hy => .inr (Nat.le_trans R10.out.2.2.2.2.2.2.2.size (QL.out y hy)))).trans C8.out (fun y hy => by simp at hy; subst hy; exact .inr (by have := S5.out; have := S6.out; have := S8.out; omega)))
       have M8 := Ad (show MapAt W2 w10.heap.size gm (fun t => Pl.at' (lv.take (k + 1)) t) /\ Ow Av W2 w9.heap.size lq (some ⟨g, o, none⟩) lc lv /\ w10.heap.size <= W2.heap.size from by
         refine ⟨M9.out, (HM.out.2.1.keep C9.out (fun y hy => PST.out y ((LO.out.2.size y hy).2))).keep C8.out (fun y hy hm => ?_), Nat.le_trans HM.out.2.2 (Nat.le_trans C9.out.size C8.out.size)⟩
         simp at hm
         subst hm
         obtain ⟨es, arr, cl, hg, _⟩ := HM.out.1
         have h9 := HM.out.2.1
         rw [hy] at h9
         obtain ⟨cur, hc⟩ := h9.blk
         rw [hg] at hc
         cases hc)
       clear M9 C9 C8 BK HC2 HC3 OL YL up lk1 lk2 a0 a1 a2 a3 a4 a5 a6 a7 a8 a9 a10 a11 a12 a13 a14 hal hS hS2 DA c15 l15
       go_wp2_with fail
       go_roundw
       case rel => exact ⟨k + 1, by omega, by go_num, R9, M8⟩
       case measure => simp [intOf]; omega
   · have hkn : k = lm := by omega
     subst hkn
     have e : lv.take k = lv := List.take_of_length_le (by rw [LO.out.1]; exact Nat.le_refl _)
     rw [e] at HM
     clear e hlt hk c15 l15
     obtain ⟨bR, hbR⟩ : ∃ bR, wr.heap.size = bR := ⟨_, rfl⟩
     have b18 := Bx.new wr (.slice none 0 0) 39
     obtain ⟨wa, hwa⟩ : ∃ wa, wr.alloc (.cells #[.slice none 0 0] 39) = wa := ⟨_, rfl⟩
     have Ca : Ch [] wr wa := hwa ▸ (Ch.refl [] wr).alloc _
     have sa : wa.heap.size = bR + 1 := by rw [<- hwa, <- hbR]; simp
     rw [hwa, hbR] at b18
     have b19 := Bx.new wa (.slice none 0 0) 42
     obtain ⟨wb, hwb⟩ : ∃ wb, wa.alloc (.cells #[.slice none 0 0] 42) = wb := ⟨_, rfl⟩
     have Cb : Ch [] wa wb := hwb ▸ (Ch.refl [] wa).alloc _
     have sb : wb.heap.size = bR + 1 + 1 := by rw [<- hwb]; simp [sa]
     rw [hwb, sa] at b19
     have bn := Bx.new wb (.slice X mx cx) 39
     obtain ⟨wE, hwE⟩ : ∃ wE, wb.alloc (.cells #[.slice X mx cx] 39) = wE := ⟨_, rfl⟩
     have Cc : Ch [] wb wE := hwE ▸ (Ch.refl [] wb).alloc _
     rw [hwE, sb] at bn
     have b18' := (b18.keep Cb (by simp)).keep Cc (by simp)
     have b19' := b19.keep Cc (by simp)
     have CE : Ch [] wr wE := (Ca.then Cb).then Cc
     have EC := Ad (fun w => each_calls X mx cx w)
     have HBR := Ad hbR
     have HWA := Ad hwa
     have HWB := Ad hwb
     have HWE := Ad hwE
     have SB := Ad sb
     have BN' := Ad bn
     have B18 := Ad b18'
     have B19 := Ad b19'
     have CE' := Ad CE
     clear b18 b19 bn b18' b19' Ca Cb Cc sa sb hwa hwb hwE CE hbR
     go_wp2_with fail
     rw [HBR.out, HWA.out, HWB.out]
     refine (EC.out wb).mono ?_
     rintro e w99 ⟨rfl, hw⟩
     rw [hw, SB.out, HWE.out]
     clear hw w99 EC
     go_wp2_with fail
     have hL1 : Pl.tot L <= 1000 := HT.out
     have EXL := Ad (Pl.ex_len L (fun r hr => by have := (HL.out r hr).1; omega))
     have hgmE : gm < wE.heap.size := by
       have h1 := HR.out.2.2.2.2.2.1.lt
       have h2 := CE'.out.size
       omega
     have hwE : w.heap.size <= wE.heap.size := Nat.le_trans HR.out.2.2.2.2.2.2.2.size CE'.out.size
     have IE : InRe lv mask L n w w5.heap.size gB c0 A0 q0 gm w10.heap.size w6.heap.size bR [] wE :=
       ⟨⟨ps0, HR.out.2.2.2.2.2.2.1.on CE'.out⟩, HM.out.1.on CE'.out, HR.out.1.keep CE'.out (by simp), HR.out.2.1.keep CE'.out (by simp), HR.out.2.2.1.keep CE'.out (by simp), HR.out.2.2.2.1.keep CE'.out (by simp), HR.out.2.2.2.2.1.keep CE'.out (by simp), HR.out.2.2.2.2.2.1.keep CE'.out (by simp),
         ⟨none, 0, none, 0, B18.out, rfl, Ow.nil _ _ _, by simp⟩, ⟨none, 0, none, 0, B19.out, rfl, Ow.nil _ _ _⟩, ⟨_, BN'.out⟩, HR.out.2.2.2.2.2.2.2.then CE'.out⟩
     have BOX := Ad (show w.heap.size + 1 + 1 + 1 < w5.heap.size /\ w5.heap.size <= w6.heap.size /\ w6.heap.size < gm /\ gm + 1 < w10.heap.size /\ w10.heap.size <= bR /\ bR + 1 + 1 < wE.heap.size from ⟨S5.out, S6.out, S8.out, R10.out.2.2.2.2.2.1.lt, by have := HM.out.2.2; have := HBR.out; omega, BN'.out.lt⟩)
     have LN := Ad (show ∀ a ∈ lv, 0 <= a.node /\ a.node < n from fun a ha => ⟨(HA.out a (LVL.out a ha)).2.1, (HA.out a (LVL.out a ha)).2.2.1⟩)
     have LW := Ad (show ∀ a ∈ lv, a.f.wf from fun a ha => HWF.out a (LVL.out a ha))
     have LLEN := Ad LO.out.1
     have IEH := Ad IE
     clear IE HR HM B18 B19 CE' HWA HWB HWE SB M10 R10 LO
     refine (wpIn_wide (n := 6)).1 ?_
     refine wpIn_rangeFunc_ownH rfl (by omega) (gf := 58) (lb := #[.pointer (some ⟨bR + 1 + 1, 0, none⟩)]) rfl trivial (enters_of Tryz.func58 (by kernel_rfl) rfl)
       (each_stops (6 - 1) (by omega) (bR + 1 + 1) mx X cx L HMX.out HL.out (by omega) w HX.out wE BN'.out (IEH.out.ch.below (Nat.le_refl _) (by simp))) kpE_t (kpE_b hwE) (Below.refl _ _) (fun _ => rfl)
       (InRe lv mask L n w w5.heap.size gB c0 A0 q0 gm w10.heap.size w6.heap.size bR) (fun _ _ _ => False) (inRe_own _ hgmE hwE) (fun _ _ _ _ _ hs _ _ => hs.elim) IEH.out
       (fun x a' W => ∃ B21, Cs W B21 93 [.int .i64 1, .int .i64 (Pl.tk L x).bus, .int .u32 (Pl.tk L x).drv] /\ a' = { tmps := #[Value.int .i64 (n : Int), .slice X mx cx, .int .u32 (mask : Int), .slice A m c, undef, undef, .pointer (some ⟨w.heap.size, 0, none⟩), undef, .pointer (some ⟨w.heap.size + 1, 0, none⟩), .pointer (some ⟨w.heap.size + 1 + 1, 0, none⟩), .pointer (some ⟨w.heap.size + 1 + 1 + 1, 0, none⟩), .int .i64 0, .pointer (some ⟨w6.heap.size, 0, none⟩), .int .i64 0, .int .i64 (Pl.tot L), .pointer (some ⟨gm + 1, 0, none⟩), undef, u17, .pointer (some ⟨bR, 0, none⟩), .pointer (some ⟨bR + 1, 0, none⟩), .int .i64 (x : Int), .pointer (some ⟨B21, 0, none⟩), undef, undef, undef, undef, undef, undef, .int .i64 (n : Int), .slice A m c, .int .i64 0, .int .i64 0, .bool false, undef, .tuple #[Value.pointer (some ⟨gB, 0, none⟩), .int .i64 0], .int .i64 (n : Int), .tuple #[Value.pointer (some ⟨gB, 0, none⟩), .int .i64 0], .pointer (some ⟨gB, 0, none⟩), .int .i64 0, .bool false, .int .i64 0, .bool false, undef, .bool false, .int .u32 (mask : Int), .int .i64 (bl : Int), .int .i64 (n : Int), .bool false, .tuple #[Value.int .i64 (Pl.tot L), .int .i64 0], .slice X mx cx, .tuple #[Value.int .i64 (Pl.tot L), .int .i64 0], .int .i64 (Pl.tot L), .int .i64 0, .bool false, .int .i64 0, .bool false, undef, .bool (decide (1048576 < Pl.tot L)), .int .i64 (Pl.tot L), .bool (decide (1048576 < Pl.tot L)), .map (some gm), .int .u32 (mask : Int), .slice A m c, .slice LA k lc, .int .i64 (k : Int), .int .i64 (k : Int), .bool false, u67, u68, u69, u70, u71, u72, u73, u74, u75, u76, u77, u78, u79, .slice X mx cx, .func (.func 58) #[] #[Value.pointer (some ⟨bR + 1 + 1, 0, none⟩)], .int .i64 (x : Int), .agg #[Value.int .i64 1, .int .i64 (Pl.tk L x).bus, .int .u32 (Pl.tk L x).drv], undef, undef, undef, undef, undef, undef, undef, undef, undef, undef, undef, undef, undef, undef, undef, undef, undef, undef, undef, undef, undef, undef, undef, undef, undef, undef, undef, undef, undef, undef, undef, undef, undef, undef, undef, undef, undef, undef, undef, undef, undef, undef, undef, undef, undef], defers := [] })
       (fun x a' _ X Y row hs hg hr => by
         obtain ⟨B21, h1, h2⟩ := hs
         refine ⟨B21, h1.keep (Ch.of_grown hg) (fun hm => ?_), h2⟩
         rw [Option.mem_toList] at hm
         obtain ⟨_, o, h3, h4⟩ := hr _ hm
         exact cells_row h1 h3 h4 rfl)
       ?assign ?body ?done ?stop
     case assign =>
       rintro r pre x W K hi hK
       unfold Pl.encE
       gi_wp2
       have hc := (Ch.refl [] W).alloc (.cells #[.int .i64 1, .int .i64 (Pl.tk L x).bus, .int .u32 (Pl.tk L x).drv] 93)
       exact hK _ _ ((KeepsOthers.alloc _ _).from _) (rnd_on hi.ch.size hc).2 (hi.keep hc (by simp)) ⟨W.heap.size, Cs.new W _ 93, rfl⟩
     case body =>
       rintro r pre x a' W hl ⟨rr, hr⟩ hi ⟨B21, D21, rfl⟩ hlt
       obtain ⟨⟨ps, hb⟩, hmap, h6, h8, h9, h10, h12, h15, ⟨A1, c1, q1, m1, h18, hm1', hO1, hq1⟩, ⟨A2, c2, q2, m2, h19, hm2', hO2⟩, hxn, hch⟩ := hi
       obtain ⟨sg, stk, srl, sra, sel⟩ := Pl.res_good (L := L) (mask := mask) (Pl.fresh_good n) rfl LN.out pre
       have RSN := Ad (Pl.Bus.res_snoc lv mask L (Pl.Bus.fresh n) pre x)
       unfold Pl.Bus.re at RSN
       obtain ⟨d, hd, hd32⟩ := Pl.tk_drv L HLD.out x
       have hdn : (Pl.tk L x).drv.toNat = d := by rw [hd]; rfl
       unfold Pl.Bus.re1 at RSN
       rw [hdn] at RSN
       generalize Pl.Bus.res lv mask L (Pl.Bus.fresh n) pre = ss at *
       obtain ⟨AL, cL, qL, lk, hOL, -⟩ := hmap.look (x : Int)
       obtain ⟨Lx, hLx⟩ : ∃ Lx, Pl.at' lv (x : Int) = Lx := ⟨_, rfl⟩
       rw [hLx] at hOL lk RSN
       have lk0 := lk W (Ch.refl _ _)
       have hLm : ∀ a ∈ Lx, a ∈ lv := fun a ha => by rw [<- hLx] at ha; exact Pl.at_mem ha
       obtain ⟨mL, hmL⟩ : ∃ mL, Lx.length = mL := ⟨_, rfl⟩
       rw [hmL] at lk0
       have mL9 : mL <= 1000 := by
         have h1 := List.length_filter_le (fun a : Act' => decide (a.tick = (x : Int))) lv
         rw [<- hmL, <- hLx]
         unfold Pl.at'
         rw [LLEN.out] at h1
         omega
       have GD := Ad (show ∀ j, ((ss.1.acted (Lx.take j)).1.good n pre.length /\ (ss.1.acted (Lx.take j)).2 < 2 ^ n /\ (ss.1.acted (Lx.take j)).1.tick = ss.1.tick) from fun j => Pl.acted_good (Lx.take j) (ss.1, 0) sg (Nat.pow_pos (by decide)) (fun a ha => LN.out a (hLm a (List.mem_of_mem_take ha))))
       have hpl : pre.length <= 1000 := by have := EXL.out; omega
       have PA := Ad (show Parts lv mask w gB gm w10.heap.size w6.heap.size W from ⟨hmap, h6, h8, h9, h10, h12, h15⟩)
       have PB := Ad (show w.heap.size + 1 + 1 + 1 < w10.heap.size /\ w6.heap.size < w10.heap.size /\ gm + 1 < w10.heap.size from by
         obtain ⟨e1, e2, e3, e4, e5, e6⟩ := BOX.out
         omega)
       obtain ⟨vn, hvn⟩ := hxn
       have BN2 := Ad hvn
       clear hvn
       have HB := Ad hb
       have OL := Ad hOL
       have ML := Ad hmL
       have LM := Ad hLm
       have DX := Ad D21
       have X18 := Ad h18
       have X19 := Ad h19
       have R1 := Ad (And.intro hm1' (And.intro hO1 hq1))
       have R2 := Ad (And.intro hm2' hO2)
       have CHW := Ad hch
       have STK := Ad stk
       have SEL := Ad sel
       have SRL := Ad srl
       have HD := Ad hd
       have c15 := h15.cell
       have l15 := h15.lt
       clear hb hmap h6 h8 h9 h10 h12 h15 h18 hm1' hO1 hq1 h19 hm2' hO2 hch sg stk srl sra sel hOL lk hLx hLm hmL D21 hd hdn
       gi_wp2
       generalize wr = wP at *
       gi_loopw [22, 88] (fun f i wi => ∃ j : Nat, j <= mL /\ i = .int .i64 j /\ ∃ fm : Nat, f = .int .u32 fm /\ ∃ ps', Aside0 ((ss.1.acted (Lx.take j)).2 = fm /\ BusAt wi w5.heap.size gB A0 c0 q0 ps' (ss.1.acted (Lx.take j)).1.nodes (ss.1.acted (Lx.take j)).1.tick /\ St (bfp gB q0 ps) W wi (bfp gB q0 ps'))) (fun _ i _ => mL - (intOf i).toNat)
       case atStart => exact ⟨0, by omega, rfl, 0, rfl, ps, ⟨rfl, HB.out, St.refl _ _⟩⟩
       case round =>
         obtain ⟨j, hj, rfl, fm, rfl, ps2, HJ⟩ := hrel
         have WI := Ad (show ∀ (g : Nat) (t : TypeId) (v : Value), Bx W g t v -> (t ≠ 166 /\ t ≠ 200 /\ t ≠ 3 /\ t ≠ 49 /\ t ≠ 129 /\ t ≠ 130) -> Bx wr g t v from fun g t v hx hT => hx.keep HJ.out.2.2.1 (HB.out.noT hx hT))
         have p12 := WI.out _ _ _ PA.out.x12 (by decide)
         have p6 := WI.out _ _ _ PA.out.x6 (by decide)
         have c12 := p12.cell
         have l12 := p12.lt
         have c6 := p6.cell
         have l6 := p6.lt
         have hch9 := CHW.out
         clear p12 p6
         by_cases hlt2 : j < mL
         · obtain ⟨y, hy⟩ : ∃ y, Lx[j]? = some y := ⟨_, List.getElem?_eq_getElem (by rw [ML.out]; exact hlt2)⟩
           have hyl := LM.out y (List.mem_of_getElem? hy)
           obtain ⟨hy0, hy1⟩ := LN.out y hyl
           have hyw := LW.out y hyl
           obtain ⟨i, hi⟩ : ∃ i : Nat, y.node = i := ⟨y.node.toNat, by omega⟩
           have hOJ := OL.out.keep HJ.out.2.2.1 (fun z hz hm => by
             have h9 := OL.out
             rw [hz] at h9
             obtain ⟨cur, hc⟩ := h9.blk
             exact HB.out.no55 hc hm)
           obtain ⟨g2, o2, rfl, hrc⟩ := hOJ.rd.cells hy
           have R := Ad (show wr.rangeAt g2 (o2 + j * 15) (Av.enc y) from fun z v hv => hrc z v hv)
           have GJ := Ad (GD.out j)
           have AJ := Ad (show ss.1.acted (Lx.take (j + 1)) = Pl.Bus.act1 (ss.1.acted (Lx.take j)) y by rw [List.take_add_one, hy, Option.toList_some, Pl.Bus.acted_snoc])
           generalize ss.1.acted (Lx.take j) = bc at *
           have k0 : (0 : Int) <= (j : Int) := by omega
           have k1 : (j : Int) < (mL : Int) := by omega
           have DN := Ad (Cs.new wr ([Value.int .i64 0, .int .i64 0, .bool false] ++ zf) 55)
           have CN := Ad ((Ch.refl [] wr).alloc (.cells ([Value.int .i64 0, .int .i64 0, .bool false] ++ zf).toArray 55))
           have P1 := Ad (show ∀ u ∈ Av.enc y, u.oneCell' = true from fun u hu => Av.hone y u hu)
           have XW := Ad hyw
           have XI := Ad hi
           have hin : i < n := by omega
           clear hrc hy hyl hy0 hy1 hyw hi hOJ c6 l6
           gi_wp2_with (first | refine wpListIn_load_row rfl 55 (.tmp 90) rfl (o2 + j * 15) (Av.enc y) (by rfl) R.out Tryz.underlying55 rfl size55 ?_ | refine wpListIn_store_all rfl 55 (.tmp 24) (.tmp 91) rfl (Av.enc y) (by rfl) (by rfl) DN.out rfl size55 P1.out ?_)
           intro wa ha ca
           have CA := Ad (show Ch [] wr wa from CN.out.trans ca (by simp))
           have BA := Ad (HJ.out.2.1.on CA.out)
           have SA := Ad (HJ.out.2.2.trans (St.of CA.out))
           have a1 : wa.cell? ⟨wr.heap.size, 1, none⟩ = some (.int .i64 i) := by rw [<- XI.out]; exact ha.cell (by rfl)
           have a2 : wa.cell? ⟨wr.heap.size, 2, none⟩ = some (.bool y.fault) := ha.cell (by rfl)
           have c12 := CA.out.cell c12 (by simp)
           have l12 := Nat.lt_of_lt_of_le l12 CA.out.size
           have hal := ha.lt
           have DA := Ad ha
           have AP := Ad (show ∀ j v, (frc y.f)[j]? = some v -> (Av.enc y)[3 + j]? = some v from fun j v hv => by
             show (Value.int .i64 y.tick :: .int .i64 y.node :: .bool y.fault :: frc y.f)[3 + j]? = some v
             rw [show 3 + j = j + 1 + 1 + 1 by omega, List.getElem?_cons_succ, List.getElem?_cons_succ, List.getElem?_cons_succ]
             exact hv)
           clear ha ca DN CN R P1
           cases hfa : y.fault
           · rw [hfa] at a2
             obtain ⟨xn, hxn⟩ : ∃ xn, bc.1.nodes[i]? = some xn := ⟨_, List.getElem?_eq_getElem (by rw [GJ.out.1.len]; exact hin)⟩
             have A1' := Ad (show ss.1.acted (Lx.take (j + 1)) = (⟨bc.1.nodes.set i { xn with queue := Pl.pput y.f xn.queue }, bc.1.tick⟩, bc.2) by
               rw [AJ.out, Pl.Bus.act1, if_neg (by rw [hfa]; decide), XI.out, Int.toNat_natCast]
               unfold Pl.Bus.put
               rw [hxn])
             have BP := Ad (CallsIn.inRound r ((callsIn_wide (n := 6 - 1 - 1 - 1)).2 (bput_calls y.f XW.out i xn BA.out hxn (by rw [GJ.out.1.len]; omega))))
             clear hfa hxn AJ
             gi_wp2_with (refine wpListIn_load_Cs rfl 49 (.tmp 102) rfl 3 (frc y.f) (by rfl) DA.out AP.out Tryz.underlying49 rfl size49 ?_)
             refine ⟨trivial, ?_⟩
             gi_at_call 32
             refine BP.out.mono ?_
             rintro e w99 ⟨⟨z, rfl⟩, ps3, hB3, hS3⟩
             have R3 := Ad (show (ss.1.acted (Lx.take (j + 1))).2 = fm /\ BusAt w99 w5.heap.size gB A0 c0 q0 ps3 (ss.1.acted (Lx.take (j + 1))).1.nodes (ss.1.acted (Lx.take (j + 1))).1.tick /\ St (bfp gB q0 ps) W w99 (bfp gB q0 ps3) from by
               rw [A1'.out]
               exact ⟨HJ.out.1, hB3, SA.out.trans hS3⟩)
             clear hB3 hS3 BP A1' a1 a2 hal DA AP c12 l12
             gi_wp2
             go_roundw
             case rel => exact ⟨j + 1, by omega, by go_num, fm, rfl, ps3, R3⟩
             case measure => simp [intOf]; omega
           · rw [hfa] at a2
             have hfm := HJ.out.1
             have hp2 : 2 ^ i < 4294967296 := Nat.pow_lt_pow_right (a := 2) (n := 32) (by decide) (by omega)
             have hfl : fm < 4294967296 := by
               have h1 := GJ.out.2.1
               rw [hfm] at h1
               exact Nat.lt_of_lt_of_le h1 (Nat.pow_le_pow_right (n := 2) (by decide) (show n <= 32 by omega))
             have eo : bits BinOp.or IntKind.u32 (fm : Int) ((2 : Int) ^ i % 4294967296) = ((fm ||| 2 ^ i : Nat) : Int) := by
               rw [show (2 : Int) ^ i % 4294967296 = ((2 ^ i % 4294967296 : Nat) : Int) by simp, Nat.mod_eq_of_lt hp2]
               exact u32_or_nat fm (2 ^ i) hfl hp2
             have A1' := Ad (show ss.1.acted (Lx.take (j + 1)) = (bc.1, fm ||| 2 ^ i) by
               rw [AJ.out, Pl.Bus.act1, if_pos (by rw [hfa]), XI.out, Int.toNat_natCast, hfm])
             have R3 := Ad (show (ss.1.acted (Lx.take (j + 1))).2 = (fm ||| 2 ^ i) /\ BusAt wa w5.heap.size gB A0 c0 q0 ps2 (ss.1.acted (Lx.take (j + 1))).1.nodes (ss.1.acted (Lx.take (j + 1))).1.tick /\ St (bfp gB q0 ps) W wa (bfp gB q0 ps2) from by
               rw [A1'.out]
               exact ⟨rfl, BA.out, SA.out⟩)
             clear hfa hfm hp2 hfl AJ A1' DA AP c12 l12
             gi_wp2
             go_roundw
             case rel => exact ⟨j + 1, by omega, by go_num, _, rfl, ps2, R3⟩
             case measure => simp [intOf]; omega
         · have hjm : j = mL := by omega
           subst hjm
           have e : Lx.take j = Lx := List.take_of_length_le (by rw [ML.out]; exact Nat.le_refl _)
           have GJ := Ad (GD.out j)
           rw [e] at HJ GJ
           clear e hlt2 hj
           have hg2 := GJ.out
           have hp : 2 ^ n <= 4294967296 := Nat.pow_le_pow_right (n := 2) (by decide) (show n <= 32 by omega)
           have hfm := HJ.out.1
           have hor : (ss.1.acted Lx).2 ||| mask < 2 ^ n := Nat.or_lt_two_pow hg2.2.1 HMS.out
           have ST := Ad (CallsIn.inRound r ((callsIn_wide (n := 6 - 1 - 1 - 1)).2 (force_ticked (ss.1.acted Lx).1 (ss.1.acted Lx).2 mask d HJ.out.2.1 (by rw [hg2.1.len]; omega) (by rw [hg2.1.len]; exact Nat.div_eq_of_lt hor) (by have := hg2.2.1; omega) HM32.out hd32 (by rw [hg2.2.2, STK.out]; omega) (fun x hx => (hg2.1.nodes x hx).fit (by omega)))))
           rw [hfm] at ST RSN
           have d2 : wr.cell? ⟨B21, 2, none⟩ = some (.int .u32 d) := by
             have := (DX.out.keep HJ.out.2.2.1 (HB.out.noT DX.out (by decide))).cell (j := 2) (v := .int .u32 (Pl.tk L x).drv) rfl
             rwa [HD.out] at this
           have ld := Nat.lt_of_lt_of_le DX.out.lt HJ.out.2.2.1.size
           have FEV := Ad (Pl.force_evs hg2.1 fm mask d)
           clear hg2 hfm hor lk0 c15 l15
           gi_wp2
           refine ⟨trivial, ?_⟩
           gi_at_call 39
           refine ST.out.mono ?_
           rintro e w4' ⟨A5, c5, q5, ps5, m5, lvl, dr, rfl, hrun, ⟨hm5, hO5⟩, hB5, hS5⟩
           have n1 : w.heap.size <= w5.heap.size := by have := BOX.out.1; omega
           have SS := Ad (HJ.out.2.2.trans hS5)
           have BR9 := HB.out.round (n₀ := w.heap.size) (b10 := w10.heap.size) n1 BN2.out
           have T4 := Ad (rnd_ch CHW.out.size SS.out.1 (fun k hk => (BR9 k hk).1))
           have P4 := Ad (PA.out.keep PB.out SS.out.1 (fun k hk => (BR9 k hk).2))
           have K4 := Ad (show ∀ (g : Nat) (t : TypeId) (v : Value), Bx W g t v -> (t ≠ 166 /\ t ≠ 200 /\ t ≠ 3 /\ t ≠ 49 /\ t ≠ 129 /\ t ≠ 130) -> Bx w4' g t v from fun g t v hx hT => hx.keep SS.out.1 (HB.out.noT hx hT))
           have G4 := Ad (show ∀ k, k ∈ bfp gB q0 ps -> w.heap.size <= k from fun k hk => Nat.le_trans n1 (HB.out.fp_ge k hk))
           have CW4 := Ad (CHW.out.trans SS.out.1 (fun y hy => .inr (G4.out y hy)))
           have O14 := Ad (R1.out.2.1.keep SS.out.1 (fun y hy hm => by
             have h9 := R1.out.2.1
             rw [hy] at h9
             obtain ⟨cur, hc⟩ := h9.blk
             exact HB.out.noT hc (by decide) hm))
           have O24 := Ad (R2.out.2.keep SS.out.1 (fun y hy hm => by
             have h9 := R2.out.2
             rw [hy] at h9
             obtain ⟨cur, hc⟩ := h9.blk
             exact HB.out.noT hc (by decide) hm))
           have b18 := K4.out _ _ _ X18.out (by decide)
           have b19 := K4.out _ _ _ X19.out (by decide)
           have bN4 := Ad (K4.out _ _ _ BN2.out (by decide))
           have B5 := Ad hB5
           have O5 := Ad hO5
           have M5 := Ad hm5
           have RUN := Ad (show ((ss.1.acted Lx).1.force fm mask d).2.1 = ⟨1, lvl, dr⟩ from hrun)
           have DN := Ad (Cs.new w4' [Value.int .i64 0, .int .i64 0, .int .u32 0] 93)
           have CN := Ad ((Ch.refl [] w4').alloc (.cells [Value.int .i64 0, .int .i64 0, .int .u32 0].toArray 93))
           have B18 := Ad b18
           have B19 := Ad b19
           clear hrun hm5 hO5 hB5 hS5 ST BR9 b18 b19 K4 d2 ld c12 l12 c6 l6
           gi_wp2_with (refine wpListIn_store_all rfl 93 (.tmp 25) (.tmp 113) rfl [Value.int .i64 1, .int .i64 lvl, .int .u32 dr] (by rfl) (by rfl) DN.out rfl size93 (by simp [Value.oneCell']) ?_)
           intro w5' hd hc
           have C5' := Ad (CN.out.trans hc (by simp))
           have D5 := Ad hd
           have q18 := B18.out.keep C5'.out (by simp)
           have q19 := B19.out.keep C5'.out (by simp)
           have c18 := q18.cell
           have l18 := q18.lt
           have Q18 := Ad q18
           have Q19 := Ad q19
           have EA := Ad (show ∀ j v, ([Value.int .i64 1, .int .i64 lvl, .int .u32 dr] : List Value)[j]? = some v -> ([Value.int .i64 1, .int .i64 lvl, .int .u32 dr] : List Value)[0 + j]? = some v from fun j v hv => by rwa [Nat.zero_add])
           have CA5 := Ad ((Ch.refl [] w5').alloc (.cells [Value.int .i64 1, .int .i64 lvl, .int .u32 dr].toArray 93))
           have OW := Ad ((O14.out.on C5'.out).on CA5.out)
           have YW := Ad (Ow.lit Rv w5' [(⟨1, lvl, dr⟩ : Run)] [Value.int .i64 1, .int .i64 lvl, .int .u32 dr].toArray (by rfl) (by decide : 1 <= maxLen)).rd
           have BW := Ad (show w.heap.size <= (w5'.alloc (.cells [Value.int .i64 1, .int .i64 lvl, .int .u32 dr].toArray 93)).heap.size from Nat.le_trans CW4.out.size (Nat.le_trans C5'.out.size CA5.out.size))
           have hm1b : m1 <= 1000 := by have h1 := R1.out.1; have h2 := SRL.out; omega
           clear hd hc DN CN q18 q19
           gi_wp2_with (first | refine wpListIn_load_Cs rfl 93 (.tmp 25) rfl 0 [Value.int .i64 1, .int .i64 lvl, .int .u32 dr] (by rfl) D5.out EA.out Tryz.underlying93 rfl size93 ?_ | (gi_at_builtin; refine wpListIn_append_Ow2 rfl (.tmp 119) (.tmp 121) 39 (by rfl) (by rfl) (some ⟨w5'.heap.size, 0, none⟩) 1 1 [(⟨1, lvl, dr⟩ : Run)] (by rfl) (by rfl) R1.out.1 OW.out YW.out rfl (by show (m1 + 1) * 24 <= _; omega) BW.out ?_))
           intro A6 c6 q6 w6' hO6 hC6 hq6 hr6
           have n93 : ∀ {g : Nat} {cur : Array Value} {t : TypeId}, (w5'.alloc (.cells [Value.int .i64 1, .int .i64 lvl, .int .u32 dr].toArray 93)).heap[g]? = some (.cells cur t (0, 0)) -> t ≠ 93 -> g ∉ q1.toList := fun hg ht hm => by
             rw [Option.mem_toList] at hm
             exact OW.out.ne hg (fun e => ht e.symm) hm
           have C56 := Ad (show Ch q1.toList w4' w6' from (C5'.out.any.then CA5.out.any).then hC6)
           have T6 := Ad (show KeepsOthers w4' w6' /\ KpE w.heap.size (bR + 1 + 1) w4' w6' from by
             refine rnd_t (rnd_on CW4.out.size (C5'.out.then CA5.out)) ?_
             rcases hr6 with h9 | h9
             · refine rnd_ch BW.out hC6 (fun k hk => .inr ?_)
               obtain ⟨cur, h1, h2⟩ := OW.out.big (fun h => by rw [R1.out.1]; exact R1.out.2.2 h) (by rw [R1.out.1]; exact h9) k hk
               refine ⟨by rw [Option.mem_toList] at hk; exact (OW.out.size k hk).1, fun e => ?_, cur, 93, h1, fun _ => h2⟩
               subst e
               have hx := (bN4.out.keep C5'.out (by simp)).keep CA5.out (by simp)
               rw [show (w5'.alloc (.cells [Value.int .i64 1, .int .i64 lvl, .int .u32 dr].toArray 93)).heap[_]? = _ from hx] at h1
               cases h1
             · exact rnd_on BW.out h9)
           have P6 := Ad (P4.out.keep PB.out C56.out (fun k hk => by
             have hk' := hk
             rw [Option.mem_toList] at hk'
             have h9 := O14.out
             rw [hk'] at h9
             obtain ⟨cur, hc⟩ := h9.blk
             exact ⟨cur, 93, hc, by decide, .inr (by decide)⟩))
           have z18 := (Q18.out.keep CA5.out (by simp)).keep hC6 (n93 ((Q18.out.keep CA5.out (by simp))) (by decide))
           have z19 := (Q19.out.keep CA5.out (by simp)).keep hC6 (n93 ((Q19.out.keep CA5.out (by simp))) (by decide))
           have Z18 := Ad z18
           have Z19 := Ad z19
           have nz : ∀ {g : Nat} {cur : Array Value} {t : TypeId}, w4'.heap[g]? = some (.cells cur t (0, 0)) -> t ≠ 93 -> g ∉ q1.toList := fun hg ht hm => by
             rw [Option.mem_toList] at hm
             exact O14.out.ne hg (fun e => ht e.symm) hm
           have O26 := Ad (O24.out.keep C56.out (fun y hy => by
             have h9 := O24.out
             rw [hy] at h9
             obtain ⟨cur, hc⟩ := h9.blk
             exact nz hc (by decide)))
           have O56 := Ad (O5.out.keep C56.out (fun y hy => by
             have h9 := O5.out
             rw [hy] at h9
             obtain ⟨cur, hc⟩ := h9.blk
             exact nz hc (by decide)))
           have B6 := Ad (B5.out.keep C56.out (fun y hy => by
             obtain ⟨cur, T, h1, h2⟩ := B5.out.kinds y hy
             exact nz h1 (by rintro rfl; simp at h2)))
           have N6 := Ad (bN4.out.keep C56.out (nz bN4.out (by decide)))
           have O6 := Ad hO6
           have CW6 := Ad (CW4.out.trans C56.out (fun y hy => by rw [Option.mem_toList] at hy; exact .inr (O14.out.size y hy).1))
           clear hO6 hC6 hq6 hr6 n93 z18 z19 nz OW YW BW EA c18 l18 Q18 Q19 CA5
           gi_wp2_with (refine wpListIn_put_Cs rfl 39 (.tmp 18) (.tmp 122) rfl 0 (.slice A6 (m1 + 1) c6) (by rfl) (by rfl) size39 rfl (show Cs w6' bR 39 [.slice A1 m1 c1] from Z18.out) (show 0 < 1 by decide) ?_)
           intro w7' hd hc
           have bxne : ∀ {g : Nat} {t : TypeId} {v : Value}, Bx w6' g t v -> g ≠ bR -> g ∉ [bR] := fun _ h hm => by simp at hm; exact h hm
           have tyne : ∀ {g : Nat} {cur : Array Value} {t : TypeId}, w6'.heap[g]? = some (.cells cur t (0, 0)) -> t ≠ 39 -> g ∉ [bR] := fun hg ht hm => by
             simp at hm
             subst hm
             rw [show w6'.heap[_]? = _ from Z18.out] at hg
             cases hg
             exact ht rfl
           have C67 := Ad hc
           have T7 := Ad (rnd_ch CW6.out.size hc (Bn := bR + 1 + 1) (fun k hk => .inr (by simp at hk; subst hk; exact ⟨by obtain ⟨e1, e2, e3, e4, e5, e6⟩ := BOX.out; omega, by omega, _, _, Z18.out, fun e => absurd e (by decide)⟩)))
           have P7 := Ad (P6.out.keep PB.out hc (fun k hk => by simp at hk; subst hk; exact ⟨_, _, Z18.out, by decide, .inl BOX.out.2.2.2.2.1⟩))
           have Y18 := Ad (show Bx w7' bR 39 (.slice A6 (m1 + 1) c6) from hd)
           have y19 := Z19.out.keep hc (by simp)
           have c19 := y19.cell
           have l19 := y19.lt
           have Y19 := Ad y19
           have owk : ∀ {α : Type} {E : El α} {b7 c7 : Nat} {A7 : Option Addr} {q7 : Option Nat} {l7 : List α}, Ow E w6' b7 q7 A7 c7 l7 -> E.t ≠ 39 -> Ow E w7' b7 q7 A7 c7 l7 := fun h7 ht => h7.keep hc (fun y hy => by
             rw [hy] at h7
             obtain ⟨cur, hc9⟩ := h7.blk
             exact tyne hc9 ht)
           have O27 := Ad (owk O26.out (by decide))
           have O57 := Ad (owk O56.out (by decide))
           have O17 := Ad (owk O6.out (by decide))
           have B7 := Ad (B6.out.keep hc (fun y hy => by
             obtain ⟨cur, T, h1, h2⟩ := B6.out.kinds y hy
             exact tyne h1 (by rintro rfl; simp at h2)))
           have N7 := Ad (N6.out.keep hc (bxne N6.out (by omega)))
           have CW7 := Ad (CW6.out.trans hc (fun y hy => by simp at hy; subst hy; exact .inr (by obtain ⟨e1, e2, e3, e4, e5, e6⟩ := BOX.out; omega)))
           have EB : (m2 + m5) * 56 <= 140737488355328 := by
             have h1 := SEL.out
             have h3 := FEV.out
             rw [M5.out] at h3
             rw [R2.out.1] at h1
             have h2 : 4 * n * pre.length <= 4 * 8 * 1000 := Nat.mul_le_mul (by omega) (by omega)
             omega
           clear hd hc bxne tyne owk y19
           gi_wp2_with (gi_at_builtin; refine wpListIn_append_Ow rfl (.tmp 123) (.tmp 124) 42 (by rfl) (by rfl) A5 m5 c5 _ (by rfl) (by rfl) R2.out.1 O27.out O57.out.rd M5.out EB CW7.out.size ?_)
           intro A8 c8 q8 w8' hO8 hC8 hq8
           have n51 : ∀ {g : Nat} {cur : Array Value} {t : TypeId}, w7'.heap[g]? = some (.cells cur t (0, 0)) -> t ≠ 51 -> g ∉ q2.toList := fun hg ht hm => by
             rw [Option.mem_toList] at hm
             exact O27.out.ne hg (fun e => ht e.symm) hm
           have q51 : ∀ k, k ∈ q2.toList -> ∃ cur, w7'.heap[k]? = some (.cells cur 51 (0, 0)) := fun k hk => by
             rw [Option.mem_toList] at hk
             have h9 := O27.out
             rw [hk] at h9
             exact h9.blk
           have T8 := Ad (rnd_ch (Bn := bR + 1 + 1) CW7.out.size hC8 (fun k hk => .inr (by
             obtain ⟨cur, h1⟩ := q51 k hk
             refine ⟨by rw [Option.mem_toList] at hk; exact (O27.out.size k hk).1, fun e => ?_, cur, 51, h1, fun e => absurd e (by decide)⟩
             subst e
             exact n51 N7.out (by decide) hk)))
           have P8 := Ad (P7.out.keep PB.out hC8 (fun k hk => by
             obtain ⟨cur, h1⟩ := q51 k hk
             exact ⟨cur, 51, h1, by decide, .inr (by decide)⟩))
           have V18 := Ad (Y18.out.keep hC8 (n51 Y18.out (by decide)))
           have v19 := Y19.out.keep hC8 (n51 Y19.out (by decide))
           have V19 := Ad v19
           have O18 := Ad (O17.out.keep hC8 (fun y hy => by
             have h9 := O17.out
             rw [hy] at h9
             obtain ⟨cur, hc⟩ := h9.blk
             exact n51 hc (by decide)))
           have B8 := Ad (B7.out.keep hC8 (B7.out.apart O27.out))
           have N8 := Ad (N7.out.keep hC8 (n51 N7.out (by decide)))
           have CW8 := Ad (CW7.out.trans hC8 (fun y hy => by rw [Option.mem_toList] at hy; exact .inr (O27.out.size y hy).1))
           have O8 := Ad hO8
           clear hO8 hC8 hq8 n51 q51 v19 c19 l19
           gi_wp2_with (refine wpListIn_put_Cs rfl 42 (.tmp 19) (.tmp 125) rfl 0 (.slice A8 (m2 + m5) c8) (by rfl) (by rfl) size42 rfl (show Cs w8' (bR + 1) 42 [.slice A2 m2 c2] from V19.out) (show 0 < 1 by decide) ?_)
           intro w9' hd hc
           gi_wp2
           have tyne : ∀ {g : Nat} {cur : Array Value} {t : TypeId}, w8'.heap[g]? = some (.cells cur t (0, 0)) -> t ≠ 42 -> g ∉ [bR + 1] := fun hg ht hm => by
             simp at hm
             subst hm
             rw [show w8'.heap[_]? = _ from V19.out] at hg
             cases hg
             exact ht rfl
           have T9 := rnd_ch CW8.out.size hc (Bn := bR + 1 + 1) (fun k hk => .inr (by simp at hk; subst hk; exact ⟨by obtain ⟨e1, e2, e3, e4, e5, e6⟩ := BOX.out; omega, by omega, _, _, V19.out, fun e => absurd e (by decide)⟩))
           have P9 := P8.out.keep PB.out hc (fun k hk => by simp at hk; subst hk; exact ⟨_, _, V19.out, by decide, .inl (by obtain ⟨e1, e2, e3, e4, e5, e6⟩ := BOX.out; omega)⟩)
           have owk : ∀ {α : Type} {E : El α} {b7 c7 : Nat} {A7 : Option Addr} {q7 : Option Nat} {l7 : List α}, Ow E w8' b7 q7 A7 c7 l7 -> E.t ≠ 42 -> Ow E w9' b7 q7 A7 c7 l7 := fun h7 ht => h7.keep hc (fun y hy => by
             rw [hy] at h7
             obtain ⟨cur, hc9⟩ := h7.blk
             exact tyne hc9 ht)
           have T49 := rnd_t (rnd_t (rnd_t (rnd_t T4.out T6.out) T7.out) T8.out) T9
           refine ⟨T49.1.from _, T49.2, ?_⟩
           refine ⟨⟨ps5, ?_⟩, P9.map, P9.x6, P9.x8, P9.x9, P9.x10, P9.x12, P9.x15, ⟨A6, c6, q6, m1 + 1, V18.out.keep hc (by simp), ?_, ?_, fun _ => by omega⟩, ⟨A8, c8, q8, m2 + m5, hd, ?_, ?_⟩, ⟨vn, N8.out.keep hc (by simp)⟩, CW8.out.trans hc (fun y hy => by simp at hy; subst hy; exact .inr (by obtain ⟨e1, e2, e3, e4, e5, e6⟩ := BOX.out; omega))⟩
           · rw [RSN.out]
             exact B8.out.keep hc (fun y hy => by
               obtain ⟨cur, T, h1, h2⟩ := B8.out.kinds y hy
               exact tyne h1 (by rintro rfl; simp at h2))
           · rw [RSN.out]
             simp only []
             rw [List.length_append, R1.out.1]
             rfl
           · rw [RSN.out]
             simp only []
             rw [RUN.out]
             exact owk O18.out (by decide)
           · rw [RSN.out]
             simp only []
             rw [List.length_append, R2.out.1, M5.out]
           · rw [RSN.out]
             exact owk O8.out (by decide)
     case done =>
       rintro D zs W hD1 hS hi hK
       subst hS
       obtain ⟨sg, stk, srl, sra, sel⟩ := Pl.res_good (L := L) (mask := mask) (Pl.fresh_good n) rfl LN.out (List.range (Pl.ex L).length)
       obtain ⟨-, hmap, h6, h8, h9, h10, h12, h15, ⟨A1, c1, q1, m1, h18, hm1', hO1, hq1⟩, ⟨A2, c2, q2, m2, h19, hm2', hO2⟩, hxn, hch⟩ := hi
       obtain ⟨ss, hss⟩ : ∃ ss, Pl.Bus.res lv mask L (Pl.Bus.fresh n) (List.range (Pl.ex L).length) = ss := ⟨_, rfl⟩
       rw [hss] at hm1' hO1 hm2' hO2 sg stk srl sra sel
       have SSE := Ad (show Pl.Bus.res (Pl.live mask l) mask L (Pl.Bus.fresh n) (List.range (Pl.ex L).length) = ss from by rw [HLV.out]; exact hss)
       have X8 := Ad h8
       have X9 := Ad h9
       have X10 := Ad h10
       clear hss
       rw [List.length_range] at srl
       have hex : (Pl.ex L).length <= 1000 := by have := EXL.out; omega
       have t8 := h8.cell
       have t9 := h9.cell
       have t10 := h10.cell
       have t18 := h18.cell
       have t19 := h19.cell
       have u8 := h8.free
       have u9 := h9.free
       have u10 := h10.free
       have l8 := h8.lt
       have l9 := h9.lt
       have l10 := h10.lt
       have l18 := h18.lt
       have l19 := h19.lt
       obtain ⟨e1, e2, e3, e4, e5, e6⟩ := BOX.out
       have n1 : w.heap.size + 1 ≠ bR := by omega
       have n2 : w.heap.size + 1 + 1 ≠ bR := by omega
       have n3 : w.heap.size + 1 + 1 + 1 ≠ bR := by omega
       have n4 : w.heap.size + 1 ≠ bR + 1 := by omega
       have n5 : w.heap.size + 1 + 1 ≠ bR + 1 := by omega
       have n6 : w.heap.size + 1 + 1 + 1 ≠ bR + 1 := by omega
       have nG : ∀ {α : Type} {E : El α} {b7 c7 : Nat} {A7 : Option Addr} {q7 : Option Nat} {l7 : List α}, Ow E W b7 q7 A7 c7 l7 -> E.t ≠ 39 /\ E.t ≠ 42 /\ E.t ≠ 26 -> ∀ k, q7 = some k -> k ∉ [w.heap.size + 1, w.heap.size + 1 + 1, w.heap.size + 1 + 1 + 1] := fun h7 ht k hk hm => by
         simp at hm
         rcases hm with rfl | rfl | rfl
         · exact h7.ne h8 ht.1 hk
         · exact h7.ne h9 ht.2.1 hk
         · exact h7.ne h10 ht.2.2 hk
       have TJ := Ad (fun (W' : World) (hc : Ch [w.heap.size + 1, w.heap.size + 1 + 1, w.heap.size + 1 + 1 + 1] W W') => tjoin_calls A1 c1 m1 ss.2.1 hm1' (by omega) (fun r hr => by rw [(sra r hr).2]; omega) (by rw [Pl.tot_ones _ (fun r hr => (sra r hr).2)]; omega) W' (hO1.keep hc (nG hO1 (by decide))).rd)
       have SK := Ad (fun (W' : World) (hc : Ch [w.heap.size + 1, w.heap.size + 1 + 1, w.heap.size + 1 + 1 + 1] W W') => (⟨hc.cell t18 (by simp; omega), hc.cell t19 (by simp; omega), ⟨hc⟩⟩ : W'.cell? ⟨bR, 0, none⟩ = some (.slice A1 m1 c1) /\ W'.cell? ⟨bR + 1, 0, none⟩ = some (.slice A2 m2 c2) /\ Aside0 (Ch [w.heap.size + 1, w.heap.size + 1 + 1, w.heap.size + 1 + 1 + 1] W W')))
       have O2 := Ad (fun (W' : World) (hc : Ch [w.heap.size + 1, w.heap.size + 1 + 1, w.heap.size + 1 + 1 + 1] W W') => hO2.keep hc (nG hO2 (by decide)))
       have M2 := Ad hm2'
       have CHW := Ad hch
       have SZ := Ad hch.size
       clear hmap h6 h8 h9 h10 h12 h15 h18 hm1' hO1 hq1 h19 hm2' hO2 hxn hch sg stk srl sra sel nG e1 e2 e3 e4 e5 e6 hex
       go_wp2_with fail
       go_region_held3 (fun W' => W'.cell? ⟨bR, 0, none⟩ = some (.slice A1 m1 c1) /\ W'.cell? ⟨bR + 1, 0, none⟩ = some (.slice A2 m2 c2) /\ Aside0 (Ch [w.heap.size + 1, w.heap.size + 1 + 1, w.heap.size + 1 + 1 + 1] W W'))
         (exact SK.out _ (by repeat (first | exact CQ.out | exact (Ch.refl _ _).drew | refine Ch.set ?_ _ _ (.inl (by simp)))))
         ((go_at_call 40
           have CP := Ad (show Ch [w.heap.size + 1, w.heap.size + 1 + 1, w.heap.size + 1 + 1 + 1] W _ from (by repeat (first | exact CQ.out | exact (Ch.refl _ _).drew | refine Ch.set ?_ _ _ (.inl (by simp)))))
           refine (TJ.out _ CP.out).mono ?_
           rintro e w9' ⟨A3, c3, q3, m3, rfl, hO3, hC3⟩
           have CQ := Ad (CP.out.then hC3.any)
           have O3 := Ad hO3
           clear hO3
           have k8 := cell_eq hC3 (w.heap.size + 1) (by simp; omega)
           have k9 := cell_eq hC3 (w.heap.size + 1 + 1) (by simp; omega)
           have k10 := cell_eq hC3 (w.heap.size + 1 + 1 + 1) (by simp; omega)
           have f8 := frozen_eq hC3 (w.heap.size + 1) (by simp; omega)
           have f9 := frozen_eq hC3 (w.heap.size + 1 + 1) (by simp; omega)
           have f10 := frozen_eq hC3 (w.heap.size + 1 + 1 + 1) (by simp; omega)))
       rename _ /\ _ /\ Aside0 (Ch _ W _) => hF
       have CF := Ad hF.2.2.out
       have CN := Ad (show Ch [] W w9' from ((Ch.refl [] W).drew).then hC3)
       have v8 := (((X8.out.keep CN.out (by simp)).set (.slice A3 m3 c3)).keep ((Ch.refl [w.heap.size + 1 + 1] _).set ⟨w.heap.size + 1 + 1, 0, none⟩ (.slice A2 m2 c2) (.inl (by simp))) (by simp)).keep ((Ch.refl [w.heap.size + 1 + 1 + 1] _).set ⟨w.heap.size + 1 + 1 + 1, 0, none⟩ (.int .i64 0) (.inl (by simp))) (by simp <;> omega)
       have v9 := (((X9.out.keep CN.out (by simp)).keep ((Ch.refl [w.heap.size + 1] _).set ⟨w.heap.size + 1, 0, none⟩ (.slice A3 m3 c3) (.inl (by simp))) (by simp)).set (.slice A2 m2 c2)).keep ((Ch.refl [w.heap.size + 1 + 1 + 1] _).set ⟨w.heap.size + 1 + 1 + 1, 0, none⟩ (.int .i64 0) (.inl (by simp))) (by simp)
       have v10 := (((X10.out.keep CN.out (by simp)).keep ((Ch.refl [w.heap.size + 1] _).set ⟨w.heap.size + 1, 0, none⟩ (.slice A3 m3 c3) (.inl (by simp))) (by simp <;> omega)).keep ((Ch.refl [w.heap.size + 1 + 1] _).set ⟨w.heap.size + 1 + 1, 0, none⟩ (.slice A2 m2 c2) (.inl (by simp))) (by simp)).set (.int .i64 0)
       have OZ := O3.out.2.keep (((Ch.refl [w.heap.size + 1, w.heap.size + 1 + 1, w.heap.size + 1 + 1 + 1] w9').set ⟨w.heap.size + 1, 0, none⟩ (.slice A3 m3 c3) (.inl (by simp))).set ⟨w.heap.size + 1 + 1, 0, none⟩ (.slice A2 m2 c2) (.inl (by simp)) |>.set ⟨w.heap.size + 1 + 1 + 1, 0, none⟩ (.int .i64 0) (.inl (by simp))) (fun k hk hm => by
         have h1 := (O3.out.2.size k hk).1
         have h2 : W.drew.heap.size = W.heap.size := rfl
         simp at hm
         omega)
       obtain ⟨wF, hwF⟩ : ∃ wF, ((w9'.setCell ⟨w.heap.size + 1, 0, none⟩ (.slice A3 m3 c3)).setCell ⟨w.heap.size + 1 + 1, 0, none⟩ (.slice A2 m2 c2)).setCell ⟨w.heap.size + 1 + 1 + 1, 0, none⟩ (.int .i64 0) = wF := ⟨_, rfl⟩
       have VX := Ad (show Bx wF (w.heap.size + 1) 39 (.slice A3 m3 c3) /\ Bx wF (w.heap.size + 1 + 1) 42 (.slice A2 m2 c2) /\ Bx wF (w.heap.size + 1 + 1 + 1) 26 (.int .i64 0) from by rw [<- hwF]; exact ⟨v8, v9, v10⟩)
       rw [hwF] at CF OZ
       have OZ' := Ad OZ
       have OE := Ad (O2.out wF CF.out)
       have hKF := CF.out.blk hK (by obtain ⟨e1, e2, e3, e4, e5, e6⟩ := BOX.out; simp; omega)
       have HWF' := Ad hwF
       clear hF v8 v9 v10 OZ hwF k8 k9 k10 f8 f9 f10 t8 t9 t10 t18 t19 u8 u9 u10
       go_wp2_with fail
       rw [HWF'.out]
       refine ⟨by simp, .inl ⟨_, _, rfl, run_takeDeferred hKF, ?_⟩⟩
       have CD : Ch [D] wF (wF.putObj D (.deferred none)) := Ch.of_grown (grownBy_putObj' wF D (.deferred none))
       obtain ⟨e1, e2, e3, e4, e5, e6⟩ := BOX.out
       have r8 := (VX.out.1.keep CD (by simp; omega)).cell
       have r9 := (VX.out.2.1.keep CD (by simp; omega)).cell
       have r10 := (VX.out.2.2.keep CD (by simp; omega)).cell
       have nD : ∀ {α : Type} {E : El α} {b7 c7 : Nat} {A7 : Option Addr} {q7 : Option Nat} {l7 : List α}, Ow E wF b7 q7 A7 c7 l7 -> ∀ k, q7 = some k -> k ∉ [D] := fun h7 k hk hm => by
         simp at hm
         rw [hk] at h7
         obtain ⟨cur, hc9⟩ := h7.blk
         exact cells_row hc9 hKF rfl hm
       refine ⟨.tuple #[.slice A3 m3 c3, .slice A2 m2 c2, .int .i64 0], by simp [results, Tryz.f12, go_sem, r8, r9, r10], ?_⟩
       rw [SSE.out]
       have hsz : w.heap.size <= W.drew.heap.size := SZ.out
       exact ⟨A3, c3, q3, m3, A2, c2, q2, m2, rfl, ⟨O3.out.1, (OZ'.out.keep CD (nD OZ'.out)).less hsz⟩, ⟨M2.out, OE.out.keep CD (nD OE.out)⟩, (CHW.out.trans CF.out (fun y hy => by simp at hy; omega)).trans CD (fun y hy => by simp at hy; subst hy; omega)⟩
     case stop =>
       rintro D k pre W hD1 hS hf
       exact hf.elim
end
end Go.Proofs.YtjoehjclaonneaaGreat
