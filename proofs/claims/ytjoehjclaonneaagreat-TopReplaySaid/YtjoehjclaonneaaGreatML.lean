/- A part of the proof of TopReplay (no condition of its own). -/
import Derived.MapKept
import Derived.ChangeMaps5
import Derived.Carry
import Derived.Deep.RegionLaw
import Derived.Test.YtjoehjclaonneaaGreatMK
namespace Go.Proofs.YtjoehjclaonneaaGreat
open Go.RowKit Go.Proofs.YtjoehjclaonneaaGreatW.PrintWords
set_option maxHeartbeats 8000000
set_option linter.unusedVariables false
set_option linter.unusedSimpArgs false
structure Ent where
 key : Int
 A : Option Addr
 c : Nat
 q : Option Nat
 l : List Act'
def Ent.val (x : Ent) : Value := .slice x.A x.l.length x.c
structure MapOf (w : World) (b gm : Nat) (es : List Ent) (arr : Array MapEntry) : Prop where
 len : arr.size = es.length
 ent : ∀ (i : Nat) (x : Ent), es[i]? = some x -> ∃ e, arr[i]? = some e /\ e.key = .int .i64 x.key /\ e.val = x.val
 own : ∀ (i : Nat) (x : Ent), es[i]? = some x -> Ow Av w b x.q x.A x.c x.l
 inj : ∀ (i j : Nat) (x y : Ent), es[i]? = some x -> es[j]? = some y -> x.key = y.key -> i = j
 apart : ∀ (i j : Nat) (x y : Ent), i ≠ j -> es[i]? = some x -> es[j]? = some y -> ∀ k, x.q = some k -> y.q ≠ some k
def MapAt (w : World) (b gm : Nat) (D : Int -> List Act') : Prop :=
 ∃ es arr clock, w.heap[gm]? = some (.map arr clock) /\ MapOf w b gm es arr /\ (∀ (i : Nat) (x : Ent), es[i]? = some x -> D x.key = x.l) /\ ∀ k, (∀ (i : Nat) (x : Ent), es[i]? = some x -> x.key ≠ k) -> D k = []
theorem MapAt.new (w : World) (b : Nat) : MapAt (w.alloc (.map #[] 0)) b w.heap.size (fun _ => []) :=
 ⟨[], #[], 0, heap_alloc_new w _, ⟨rfl, by simp, by simp, by simp, by simp⟩, by simp, by simp⟩
theorem MapAt.keep {w w' : World} {b gm : Nat} {D : Int -> List Act'} (h : MapAt w b gm D) {G : List Nat} (hc : Ch G w w') (hG : gm ∉ G) (hT : ∀ k cur, w.heap[k]? = some (.cells cur 55 (0, 0)) -> k ∉ G) : MapAt w' b gm D := by
 obtain ⟨es, arr, clock, h1, h2, h3⟩ := h
 refine ⟨es, arr, clock, hc.blk h1 hG, ⟨h2.len, h2.ent, fun i x hx => (h2.own i x hx).keep hc (fun k hk => ?_), h2.inj, h2.apart⟩, h3⟩
 have ho := h2.own i x hx
 rw [hk] at ho
 obtain ⟨cur, hcur⟩ := ho.blk
 exact hT k cur hcur
theorem MapAt.on {w w' : World} {b gm : Nat} {D : Int -> List Act'} (h : MapAt w b gm D) (hc : Ch [] w w') : MapAt w' b gm D := h.keep hc (by simp) (by simp)
theorem MapAt.eq {w : World} {b gm : Nat} {D D' : Int -> List Act'} (h : MapAt w b gm D) (e : ∀ k, D k = D' k) : MapAt w b gm D' := by
 rw [show D' = D from funext (fun k => (e k).symm)]
 exact h
theorem isKey_int (k : Int) : MapKept.IsKey (.int .i64) (.int .i64 k) := rfl
theorem MapAt.look {w : World} {b gm : Nat} {D : Int -> List Act'} (h : MapAt w b gm D) (k : Int) : ∃ A c q, (∀ W, Ch [] w W -> (Instr.lookup 97 (.map (some gm)) (.int .i64 k) false).run Tryz.prog W = .ok (.slice A (D k).length c) W) /\ Ow Av w b q A c (D k) /\
   ∀ (w' : World) (A' : Option Addr) (c' : Nat) (q' : Option Nat) (l' : List Act'), Ow Av w' b q' A' c' l' -> Ch q.toList w w' -> (q' = q ∨ ∃ y, q' = some y /\ w.heap.size <= y) ->
     ∃ w'', (Instr.mapUpdate 97 (.map (some gm)) (.int .i64 k) (.slice A' l'.length c')).run Tryz.prog w' = .ok () w'' /\ MapAt w'' b gm (fun j => if j = k then l' else D j) /\ Ch [gm] w' w'' := by
 obtain ⟨es, arr, clock, hb, hm, h3, h4⟩ := h
 have hu := Tryz.underlying97
 have hk3 := Tryz.underlying3
 have hgm := blk_lt hb
 have gq : ∀ {q : Option Nat} {W : World} {A : Option Addr} {c : Nat} {l : List Act'}, Ow Av W b q A c l -> W.heap[gm]? = some (.map arr clock) -> gm ∉ q.toList := fun {q W A c l} ho hW hmem => by
   rw [Option.mem_toList] at hmem
   rw [hmem] at ho
   obtain ⟨cur, hcur⟩ := ho.blk
   rw [hW] at hcur
   cases hcur
 have hks : ∀ x ∈ arr.toList, MapKept.IsKey (.int .i64) x.key := by
   intro x hx
   obtain ⟨i, hi, rfl⟩ := List.getElem_of_mem hx
   obtain ⟨y, hy⟩ : ∃ y, es[i]? = some y := ⟨_, List.getElem?_eq_getElem (by rw [<- hm.len]; simpa using hi)⟩
   obtain ⟨e, he, hek, _⟩ := hm.ent i y hy
   have : arr.toList[i] = e := by
     rw [<- Array.getElem?_toList, List.getElem?_eq_getElem hi] at he
     exact Option.some.inj he
   rw [this, hek]
   exact isKey_int _
 rcases MapKept.findNow_spec (isKey_int k) arr.toList 0 hks with ⟨f1, f2⟩ | ⟨j, e, f1, f2, f3⟩
 ·
   have hno : ∀ (i : Nat) (x : Ent), es[i]? = some x -> x.key ≠ k := by
     intro i x hx e
     obtain ⟨en, he, hek, _⟩ := hm.ent i x hx
     have hmem : en ∈ arr.toList := by
       rw [<- Array.getElem?_toList] at he
       exact List.mem_of_getElem? he
     exact f2 en hmem (by rw [hek, e])
   have hD := h4 k hno
   refine ⟨none, 0, none, ?_, by rw [hD]; exact Ow.nil _ _ _, ?_⟩
   · intro W hW
     rw [hD]
     have hb := hW.blk hb (by simp)
     have hz : (zeroValue 22).run Tryz.prog W = .ok (.slice none 0 0) W := by kernel_rfl
     simp [Instr.lookup, run_underlying hu, MapKept.run_getObj_map hb, MapKept.run_checkKey hk3 (isKey_int k), MapKept.run_findKey hk3 f1, hz, Result.andThen]
   · intro w' A' c' q' l' hO hC hq
     have hb' : w'.heap[gm]? = some (.map arr clock) := hC.blk hb (by simp)
     refine ⟨ChangeMaps.setBlock w' gm (.map (arr.push { key := .int .i64 k, val := .slice A' l'.length c', born := clock }) (clock + 1)), ?_, ?_, ?_⟩
     · simp [Instr.mapUpdate, run_underlying hu, MapKept.run_getObj_map hb', MapKept.run_checkKey hk3 (isKey_int k), MapKept.run_findKey hk3 f1, MapKept.run_setObj_map _ hb', Result.andThen, ChangeMaps.setBlock]
     · have hCh : Ch [gm] w' (ChangeMaps.setBlock w' gm (.map (arr.push { key := .int .i64 k, val := .slice A' l'.length c', born := clock }) (clock + 1))) :=
         ⟨rfl, rfl, rfl, by simp [ChangeMaps.setBlock], fun i _ hi => ChangeMaps.heap_setBlock_other hb' _ (fun e => hi (by rw [e]; simp))⟩
       have hcases : ∀ (i : Nat) (x : Ent), (es ++ [(⟨k, A', c', q', l'⟩ : Ent)])[i]? = some x -> es[i]? = some x ∨ (i = es.length /\ x = ⟨k, A', c', q', l'⟩) := by
         intro i x hx
         by_cases hi : i < es.length
         · rw [List.getElem?_append_left hi] at hx; exact .inl hx
         · rw [List.getElem?_append_right (by omega)] at hx
           have h9 := (List.getElem?_eq_some_iff.1 hx).1
           simp at h9
           have e : i - es.length = 0 := by omega
           rw [e] at hx
           simp at hx
           exact .inr ⟨by omega, hx.symm⟩
       have hq2 : ∀ y, q' = some y -> w.heap.size <= y := by
         intro y hy
         rcases hq with e | ⟨z, e, hz⟩
         · rw [e] at hy; cases hy
         · rw [e] at hy; cases hy; exact hz
       refine ⟨es ++ [⟨k, A', c', q', l'⟩], _, clock + 1, ChangeMaps.heap_setBlock_same hb' _, ⟨?_, ?_, ?_, ?_, ?_⟩, ?_, ?_⟩
       · simp [hm.len]
       · intro i x hx
         rcases hcases i x hx with h | ⟨rfl, rfl⟩
         · obtain ⟨en, he, h9⟩ := hm.ent i x h
           have hi := (Array.getElem?_eq_some_iff.1 he).1
           exact ⟨en, by rw [Array.getElem?_push_lt hi]; rw [Array.getElem?_eq_getElem hi] at he; exact he, h9⟩
         · exact ⟨_, by rw [<- hm.len]; exact Array.getElem?_push_size, rfl, rfl⟩
       · intro i x hx
         rcases hcases i x hx with h | ⟨rfl, rfl⟩
         · exact ((hm.own i x h).on hC).keep hCh (fun y hy hmem => gq ((hm.own i x h).on hC) hb' (by simp at hmem; subst hmem; rw [Option.mem_toList]; exact hy))
         · exact hO.keep hCh (fun y hy hmem => gq hO hb' (by simp at hmem; subst hmem; rw [Option.mem_toList]; exact hy))
       · intro i j x y hx hy e
         rcases hcases i x hx with h | ⟨rfl, rfl⟩
         · rcases hcases j y hy with h' | ⟨rfl, rfl⟩
           · exact hm.inj i j x y h h' e
           · exact absurd e (hno i x h)
         · rcases hcases j y hy with h' | ⟨rfl, rfl⟩
           · exact absurd e.symm (hno j y h')
           · rfl
       · intro i j x y hij hx hy z hz hz2
         rcases hcases i x hx with h | ⟨rfl, rfl⟩
         · rcases hcases j y hy with h' | ⟨rfl, rfl⟩
           · exact hm.apart i j x y hij h h' z hz hz2
           · have := hq2 z hz2; have := ((hm.own i x h).size z hz).2; omega
         · rcases hcases j y hy with h' | ⟨rfl, rfl⟩
           · have := hq2 z hz; have := ((hm.own j y h').size z hz2).2; omega
           · exact hij rfl
       · intro i x hx
         rcases hcases i x hx with h | ⟨rfl, rfl⟩
         · exact (if_neg (hno i x h)).trans (h3 i x h)
         · exact if_pos rfl
       · intro j hj
         have hjk : j ≠ k := fun e => hj es.length ⟨k, A', c', q', l'⟩ (by rw [List.getElem?_append_right (Nat.le_refl _), Nat.sub_self]; rfl) e.symm
         refine (if_neg hjk).trans (h4 j (fun i x hx => hj i x (by rw [List.getElem?_append_left (List.getElem?_eq_some_iff.1 hx).1]; exact hx)))
     · exact ⟨rfl, rfl, rfl, by simp [ChangeMaps.setBlock], fun i _ hi => ChangeMaps.heap_setBlock_other hb' _ (fun e => hi (by rw [e]; simp))⟩
 ·
   have hj : arr[j]? = some e := by rw [<- Array.getElem?_toList]; exact f2
   obtain ⟨x, hx⟩ : ∃ x, es[j]? = some x := ⟨_, List.getElem?_eq_getElem (by rw [<- hm.len]; exact (Array.getElem?_eq_some_iff.1 hj).1)⟩
   have hjl := (List.getElem?_eq_some_iff.1 hx).1
   obtain ⟨e', he', hek, hev⟩ := hm.ent j x hx
   obtain rfl : e = e' := by rw [hj] at he'; exact Option.some.inj he'
   have hxk : x.key = k := by rw [hek] at f3; cases f3; rfl
   have hD : D k = x.l := by rw [<- hxk]; exact h3 j x hx
   have f1' : Instr.findNow (.int .i64) (.int .i64 k) arr.toList 0 = some (some (j, e.val)) := by rw [f1, Nat.zero_add]
   refine ⟨x.A, x.c, x.q, ?_, by rw [hD]; exact hm.own j x hx, ?_⟩
   · intro W hW
     rw [hD]
     have hb := hW.blk hb (by simp)
     simp [Instr.lookup, run_underlying hu, MapKept.run_getObj_map hb, MapKept.run_checkKey hk3 (isKey_int k), MapKept.run_findKey hk3 f1', hev, Ent.val, Result.andThen]
   · intro w' A' c' q' l' hO hC hq
     have hb' : w'.heap[gm]? = some (.map arr clock) := hC.blk hb (gq (hm.own j x hx) hb)
     have hset : ∀ (i : Nat) (y : Ent), (es.set j ⟨k, A', c', q', l'⟩)[i]? = some y -> (i = j /\ y = ⟨k, A', c', q', l'⟩) ∨ (i ≠ j /\ es[i]? = some y) := by
       intro i y hy
       by_cases e9 : j = i
       · subst e9
         rw [List.getElem?_set_self hjl] at hy
         exact .inl ⟨rfl, (Option.some.inj hy).symm⟩
       · rw [List.getElem?_set_ne e9] at hy
         exact .inr ⟨fun e8 => e9 e8.symm, hy⟩
     have hown : ∀ (i : Nat) (y : Ent), i ≠ j -> es[i]? = some y -> Ow Av w' b y.q y.A y.c y.l := fun i y hij hy =>
       (hm.own i y hy).keep hC (fun z hz hmem => by rw [Option.mem_toList] at hmem; exact hm.apart i j y x hij hy hx z hz hmem)
     refine ⟨ChangeMaps.setBlock w' gm (.map (arr.modify j fun e => { e with key := .int .i64 k, val := .slice A' l'.length c' }) clock), ?_, ?_, ?_⟩
     · have hst : ∀ W : World, (Instr.keyThatStays (.int .i64 k) (.int .i64 k)).run Tryz.prog W = .ok (.int .i64 k) W := fun W => MapKept.run_keyThatStays (isKey_int k)
       simp [Instr.mapUpdate, run_underlying hu, MapKept.run_getObj_map hb', MapKept.run_checkKey hk3 (isKey_int k), MapKept.run_findKey hk3 f1', hj, f3, hst, MapKept.run_setObj_map _ hb', Result.andThen, ChangeMaps.setBlock]
     · have hCh : Ch [gm] w' (ChangeMaps.setBlock w' gm (.map (arr.modify j fun e => { e with key := .int .i64 k, val := .slice A' l'.length c' }) clock)) :=
         ⟨rfl, rfl, rfl, by simp [ChangeMaps.setBlock], fun i _ hi => ChangeMaps.heap_setBlock_other hb' _ (fun e => hi (by rw [e]; simp))⟩
       refine ⟨es.set j ⟨k, A', c', q', l'⟩, _, clock, ChangeMaps.heap_setBlock_same hb' _, ⟨?_, ?_, ?_, ?_, ?_⟩, ?_, ?_⟩
       · simp [hm.len]
       · intro i y hy
         rcases hset i y hy with ⟨rfl, rfl⟩ | ⟨hij, hy'⟩
         · exact ⟨_, by rw [Array.getElem?_modify, if_pos rfl, hj]; rfl, rfl, rfl⟩
         · obtain ⟨en, he, h9⟩ := hm.ent i y hy'
           exact ⟨en, by rw [Array.getElem?_modify, if_neg (fun e => hij e.symm)]; exact he, h9⟩
       · intro i y hy
         rcases hset i y hy with ⟨rfl, rfl⟩ | ⟨hij, hy'⟩
         · exact hO.keep hCh (fun z hz hmem => gq hO hb' (by simp at hmem; subst hmem; rw [Option.mem_toList]; exact hz))
         · exact (hown i y hij hy').keep hCh (fun z hz hmem => gq (hown i y hij hy') hb' (by simp at hmem; subst hmem; rw [Option.mem_toList]; exact hz))
       · intro i1 i2 y1 y2 hy1 hy2 e9
         rcases hset i1 y1 hy1 with ⟨rfl, rfl⟩ | ⟨h1, hy1'⟩
         · rcases hset i2 y2 hy2 with ⟨rfl, rfl⟩ | ⟨h2, hy2'⟩
           · rfl
           · exact hm.inj _ i2 x y2 hx hy2' (by rw [hxk]; exact e9)
         · rcases hset i2 y2 hy2 with ⟨rfl, rfl⟩ | ⟨h2, hy2'⟩
           · exact hm.inj i1 _ y1 x hy1' hx (by rw [hxk]; exact e9)
           · exact hm.inj i1 i2 y1 y2 hy1' hy2' e9
       · have nq : ∀ (i : Nat) (y : Ent) (z : Nat), i ≠ j -> es[i]? = some y -> q' = some z -> y.q = some z -> False := by
           intro i y z hij hy h1 h2
           rcases hq with e9 | ⟨z', e9, hz'⟩
           · exact hm.apart i j y x hij hy hx z h2 (by rw [<- e9]; exact h1)
           · rw [e9] at h1; cases h1
             have := ((hm.own i y hy).size z h2).2
             omega
         intro i1 i2 y1 y2 h12 hy1 hy2 z hz hz2
         rcases hset i1 y1 hy1 with ⟨rfl, rfl⟩ | ⟨h1, hy1'⟩
         · rcases hset i2 y2 hy2 with ⟨rfl, rfl⟩ | ⟨h2, hy2'⟩
           · exact h12 rfl
           · exact nq i2 y2 z h2 hy2' hz hz2
         · rcases hset i2 y2 hy2 with ⟨rfl, rfl⟩ | ⟨h2, hy2'⟩
           · exact nq i1 y1 z h1 hy1' hz2 hz
           · exact hm.apart i1 i2 y1 y2 h12 hy1' hy2' z hz hz2
       · intro i y hy
         rcases hset i y hy with ⟨rfl, rfl⟩ | ⟨hij, hy'⟩
         · exact if_pos rfl
         · exact (if_neg (fun e9 => hij (hm.inj i j y x hy' hx (by rw [hxk]; exact e9)))).trans (h3 i y hy')
       · intro m hmk
         have hne : m ≠ k := fun e9 => hmk j ⟨k, A', c', q', l'⟩ (List.getElem?_set_self hjl) e9.symm
         refine (if_neg hne).trans (h4 m (fun i y hy e9 => ?_))
         by_cases hij : i = j
         · subst hij
           rw [hx] at hy
           cases hy
           exact hne (by rw [<- e9]; exact hxk)
         · exact hmk i y (by rw [List.getElem?_set_ne (fun e8 => hij e8.symm)]; exact hy) e9
     · exact ⟨rfl, rfl, rfl, by simp [ChangeMaps.setBlock], fun i _ hi => ChangeMaps.heap_setBlock_other hb' _ (fun e => hi (by rw [e]; simp))⟩
section
theorem NodeAt.kinds2 {w : World} {b g : Nat} {L : Lay} {x : Pl.Nd} (h : NodeAt w b g L x) : ∀ k, k ∈ L.fp g -> ∃ cur T, w.heap[k]? = some (.cells cur T (0, 0)) /\ (T = 166 ∨ T = 200 ∨ T = 3 ∨ T = 49) := by
 obtain ⟨⟨Aq, cq, hq1, hq2⟩, _⟩ := h.qu
 intro k hk
 simp only [Lay.fp, List.mem_cons, List.mem_append, Option.mem_toList] at hk
 rcases hk with rfl | rfl | (hk | hk) | hk
 · exact ⟨_, _, h.cs, .inl rfl⟩
 · exact ⟨_, _, hq1, .inr (.inl rfl)⟩
 · have := h.raw
   rw [hk] at this
   obtain ⟨cur, hc⟩ := this.blk
   exact ⟨_, _, hc, .inr (.inr (.inl rfl))⟩
 · have := h.row
   rw [hk] at this
   obtain ⟨cur, hc⟩ := this.blk
   exact ⟨_, _, hc, .inr (.inr (.inl rfl))⟩
 · rw [hk] at hq2
   obtain ⟨cur, hc⟩ := hq2.blk
   exact ⟨_, _, hc, .inr (.inr (.inr rfl))⟩
section
variable {w w' : World} {b gB c : Nat} {A : Option Addr} {q : Option Nat} {ps : List (Nat × Lay)} {xs : List Pl.Nd} {tick : Int}
theorem BusAt.kinds (h : BusAt w b gB A c q ps xs tick) : ∀ k, k ∈ bfp gB q ps -> ∃ cur T, w.heap[k]? = some (.cells cur T (0, 0)) /\ (T = 166 ∨ T = 200 ∨ T = 3 ∨ T = 49 ∨ T = 129 ∨ T = 130) := by
 intro k hm
 simp only [bfp, List.mem_cons, List.mem_append, Option.mem_toList] at hm
 rcases hm with rfl | hm | hm
 · exact ⟨_, _, h.cs, by simp⟩
 · have := h.ow
   rw [hm] at this
   obtain ⟨cur', hc⟩ := this.blk
   exact ⟨_, _, hc, by simp [Pv]⟩
 · obtain ⟨i, p, hp, hk2⟩ := mem_fps.1 hm
   have hi : i < xs.length := by rw [<- h.ns.len]; exact (List.getElem?_eq_some_iff.1 hp).1
   obtain ⟨cur', T', hb, h3⟩ := (h.ns.at_ i p _ hp (List.getElem?_eq_getElem hi)).kinds2 k hk2
   exact ⟨_, _, hb, by rcases h3 with h | h | h | h <;> simp [h]⟩
theorem BusAt.no55 (h : BusAt w b gB A c q ps xs tick) {k : Nat} {cur : Array Value} (hk : w.heap[k]? = some (.cells cur 55 (0, 0))) : k ∉ bfp gB q ps := by
 intro hm
 obtain ⟨cur', T, hb, hT⟩ := h.kinds k hm
 rw [hk] at hb
 cases hb
 simp at hT
theorem BusAt.noMap (h : BusAt w b gB A c q ps xs tick) {k : Nat} {arr : Array MapEntry} {cl : Nat} (hk : w.heap[k]? = some (.map arr cl)) : k ∉ bfp gB q ps := by
 intro hm
 obtain ⟨cur', T, hb, hT⟩ := h.kinds k hm
 rw [hk] at hb
 cases hb
theorem MapAt.bus {gm b2 : Nat} {D : Int -> List Act'} (hM : MapAt w b2 gm D) (h : BusAt w b gB A c q ps xs tick) (hC : Ch (bfp gB q ps) w w') : MapAt w' b2 gm D := by
 obtain ⟨es, arr, cl, h1, _⟩ := id hM
 exact hM.keep hC (h.noMap h1) (fun k cur hk => h.no55 hk)
end
def Played (w : World) (runs : List Run) (evs : List Ev) (e : Ending) (w' : World) : Prop :=
 ∃ A1 c1 q1 m1 A2 c2 q2 m2, e = .returned (.tuple #[.slice A1 m1 c1, .slice A2 m2 c2, .int .i64 0]) /\ (runs.length = m1 /\ Ow Rv w' w.heap.size q1 A1 c1 runs) /\ (evs.length = m2 /\ Ow Evv w' w.heap.size q2 A2 c2 evs) /\ Ch [] w w'
set_option maxRecDepth 100000 in
theorem play_calls (n ticks : Nat) (A : Option Addr) (c m : Nat) (l : List Act') (hm : l.length = m) (hm1 : m <= 1000) (hwf : ∀ a ∈ l, a.f.wf) (hchk : Pl.chk n l = 0) (ht : ticks <= 1000) (w : World) (h : Rd Av w A c l) :
   Calls Tryz.prog 11 #[.int .i64 n, .int .i64 ticks, .slice A m c] w (Played w (Pl.jn (Pl.Bus.rs l (Pl.Bus.fresh n) ticks)) (Pl.Bus.es l (Pl.Bus.fresh n) ticks)) := by
 obtain ⟨⟨hn1, hn2⟩, hacts⟩ := Pl.chk_zero hchk
 have BC := bcheck_calls n A c m l hm hwf w h
 rw [hchk] at BC
 have BCH := Ad BC
 have H := Ad h
 have HN := Ad hm
 have HA := Ad hacts
 have HWF := Ad hwf
 have BN := Ad (fun w => bnew_calls w n (by omega) (by omega))
 clear h hm hacts hwf hchk BC
 go_enter Tryz.func11, Tryz.ntmps11
 go_wp2_with fail
 refine BCH.out.mono ?_
 rintro e w1 ⟨rfl, hC⟩
 have C1 := Ad hC
 clear hC BCH
 have g1 : decide ((ticks : Int) < 0) = false := by simp
 have g2 : decide (1048576 < (ticks : Int)) = false := by simp; omega
 go_wp2_with fail
 refine (BN.out w1).mono ?_
 rintro e w2 ⟨gB, A0, c0, q0, ps0, rfl, hB, hC, hfp⟩
 have C2 := Ad (C1.out.then hC)
 have M2 := Ad (MapAt.new w2 w.heap.size)
 have B2 := Ad (show BusAt w2 w1.heap.size gB A0 c0 q0 ps0 (Pl.Bus.fresh n).nodes 0 from hB)
 have F2 := Ad hfp
 have S1 := Ad C1.out.size
 clear hB hC hfp BN
 have hmk : (Instr.makeMap 97 none).run Tryz.prog w2 = .ok (.map (some w2.heap.size)) (w2.alloc (.map #[] 0)) := run_makeMap 97 w2
 go_wp2_with fail
 obtain ⟨gm, hgm⟩ : ∃ gm, w2.heap.size = gm := ⟨_, rfl⟩
 obtain ⟨w3, hw3⟩ : ∃ w3, w2.alloc (.map #[] 0) = w3 := ⟨_, rfl⟩
 have C3' := Ad (show Ch [] w2 w3 from hw3 ▸ (Ch.refl [] w2).alloc _)
 have M3 := Ad (show MapAt w3 w.heap.size gm (fun t => Pl.at' (l.take 0) t) from by
   have := M2.out
   rw [hw3, hgm] at this
   exact this.eq (fun k => rfl))
 rw [hw3, hgm]
 have C3 := Ad (C2.out.then C3'.out)
 have B3 := Ad (B2.out.on C3'.out)
 have GM := Ad (show w.heap.size <= gm from by rw [<- hgm]; exact C2.out.size)
 clear hw3 hgm M2 B2 C2 C1 C3'
 go_loopw [47] (fun i wr => ∃ k : Nat, k <= m /\ i = .int .i64 k /\ Aside0 (MapAt wr w.heap.size gm (fun t => Pl.at' (l.take k) t) /\ Ch [] w wr /\ BusAt wr w1.heap.size gB A0 c0 q0 ps0 (Pl.Bus.fresh n).nodes 0)) (fun i _ => m - (intOf i).toNat)
 case atStart => exact ⟨0, by omega, rfl, ⟨M3.out, C3.out, B3.out⟩⟩
 case round =>
   obtain ⟨k, hk, rfl, HR⟩ := hrel
   by_cases hlt : k < m
   · obtain ⟨x, hx⟩ : ∃ x, l[k]? = some x := ⟨_, List.getElem?_eq_getElem (by rw [HN.out]; exact hlt)⟩
     obtain ⟨g, o, rfl, hrc⟩ := (H.out.on HR.out.2.1).cells hx
     have R := Ad (show wr.rangeAt g (o + k * 15) (Av.enc x) from fun j v hv => hrc j v hv)
     have AT := Ad (show ∀ t, (if t = x.tick then Pl.at' (l.take k) x.tick ++ [x] else Pl.at' (l.take k) t) = Pl.at' (l.take (k + 1)) t from fun t => by
       unfold Pl.at'
       rw [List.take_add_one, hx, Option.toList_some, List.filter_append]
       by_cases e : t = x.tick
       · subst e; simp
       · rw [if_neg e]; simp; exact fun h : x.tick = t => e h.symm)
     have k0 : (0 : Int) <= (k : Int) := by omega
     have k1 : (k : Int) < (m : Int) := by omega
     have DN := Ad (Cs.new wr ([Value.int .i64 0, .int .i64 0, .bool false] ++ zf) 55)
     have CN := Ad ((Ch.refl [] wr).alloc (.cells ([Value.int .i64 0, .int .i64 0, .bool false] ++ zf).toArray 55))
     have P1 := Ad (show ∀ u ∈ Av.enc x, u.oneCell' = true from fun u hu => Av.hone x u hu)
     clear hrc hx
     go_wp2_with (first | refine wpList_load_mid rfl 55 (.tmp 49) rfl g (o + k * 15) (by rfl) (Av.enc x) _ R.out Tryz.underlying55 rfl size55 ?_ | refine wpList_store_all rfl 55 (.tmp 14) (.tmp 50) rfl (Av.enc x) (by rfl) (by rfl) DN.out rfl size55 P1.out ?_)
     intro wa ha ca
     have CA := Ad (show Ch [] wr wa from CN.out.trans ca (by simp))
     have MA := Ad (HR.out.1.on CA.out)
     obtain ⟨AL, cL, qL, lk, hOL, back⟩ := HR.out.1.look x.tick
     have hC1 : Ch [] wa wa.drew := (Ch.refl [] wa).drew
     have hC2 : Ch [] wa ((wa.alloc (.cells #[Value.int .i64 x.tick, .int .i64 x.node, .bool x.fault, .int .i64 x.f.id, .bool x.f.ext, .bool x.f.rtr, .int .i64 x.f.len, .int .u8 x.f.d0, .int .u8 x.f.d1, .int .u8 x.f.d2, .int .u8 x.f.d3, .int .u8 x.f.d4, .int .u8 x.f.d5, .int .u8 x.f.d6, .int .u8 x.f.d7] 55)).drew) := ((Ch.refl [] wa).alloc _).drew
     have lk1 := lk _ (CA.out.then hC1)
     have lk2 := lk _ (CA.out.then hC2)
     have a0 : wa.cell? ⟨wr.heap.size, 0, none⟩ = some (.int .i64 x.tick) := ha.cell (by rfl)
     have a1 : wa.cell? ⟨wr.heap.size, 1, none⟩ = some (.int .i64 x.node) := ha.cell (by rfl)
     have a2 : wa.cell? ⟨wr.heap.size, 2, none⟩ = some (.bool x.fault) := ha.cell (by rfl)
     obtain ⟨b0, b1, b2, b3, b4, b5, b6, b7, b8, b9, b10, b11⟩ := cells12 (W := wa) (g := wr.heap.size) (o := 3) (f := x.f) (fun j v hv => ha.cell (by
       show (Value.int .i64 x.tick :: .int .i64 x.node :: .bool x.fault :: frc x.f)[3 + j]? = some v
       rw [show 3 + j = j + 1 + 1 + 1 by omega, List.getElem?_cons_succ, List.getElem?_cons_succ, List.getElem?_cons_succ]
       exact hv))
     have hal := ha.lt
     have hlen30 : (Pl.at' (l.take k) x.tick).length <= 1000 := by
       have h1 := List.length_filter_le (fun a : Act' => decide (a.tick = x.tick)) (l.take k)
       unfold Pl.at'
       rw [List.length_take] at h1
       omega
     have hbase : w.heap.size <= ((wa.alloc (.cells #[Value.int .i64 x.tick, .int .i64 x.node, .bool x.fault, .int .i64 x.f.id, .bool x.f.ext, .bool x.f.rtr, .int .i64 x.f.len, .int .u8 x.f.d0, .int .u8 x.f.d1, .int .u8 x.f.d2, .int .u8 x.f.d3, .int .u8 x.f.d4, .int .u8 x.f.d5, .int .u8 x.f.d6, .int .u8 x.f.d7] 55)).drew).heap.size := Nat.le_trans (Nat.le_trans HR.out.2.1.size CA.out.size) hC2.size
     have OL := Ad (hOL.on (CA.out.then hC2))
     have QN := Ad (show wr.heap.size ∉ qL.toList from fun hm => by rw [Option.mem_toList] at hm; have := (hOL.size _ hm).2; omega)
     have YL := Ad ((Ow.lit Av wa [x] #[Value.int .i64 x.tick, .int .i64 x.node, .bool x.fault, .int .i64 x.f.id, .bool x.f.ext, .bool x.f.rtr, .int .i64 x.f.len, .int .u8 x.f.d0, .int .u8 x.f.d1, .int .u8 x.f.d2, .int .u8 x.f.d3, .int .u8 x.f.d4, .int .u8 x.f.d5, .int .u8 x.f.d6, .int .u8 x.f.d7] (by rfl) (by decide : 1 <= maxLen)).rd.drew)
     have BK := Ad back
     have HC2 := Ad (CA.out.then hC2)
     have HC3 := Ad hC2
     have BASE := Ad hbase
     have QL := Ad (show ∀ y, y ∈ qL.toList -> w.heap.size <= y from fun y hy => by rw [Option.mem_toList] at hy; exact (hOL.size y hy).1)
     have NB := Ad (show ∀ y, y ∈ qL.toList -> y ∉ bfp gB q0 ps0 from fun y hy => by
       rw [Option.mem_toList] at hy
       have h9 := hOL
       rw [hy] at h9
       obtain ⟨cur, hc⟩ := h9.blk
       exact HR.out.2.2.no55 hc)
     have NG := Ad (show gm ∉ bfp gB q0 ps0 from by
       obtain ⟨es, arr, cl, h1, _⟩ := HR.out.1
       exact HR.out.2.2.noMap h1)
     have BA := Ad HR.out.2.2
     have CW := Ad HR.out.2.1
     obtain ⟨mt, hmt⟩ : ∃ mt, (Pl.at' (l.take k) x.tick).length = mt := ⟨_, rfl⟩
     have HMT := Ad hmt
     rw [hmt] at lk1 lk2 hlen30
     clear back lk hOL hC1 hC2 ha ca DN CN R P1 hbase hmt HR MA
     go_wp2_with fail
     go_region_law ((refine step_append_Ow (by rfl) (.tmp 57) (.tmp 59) 22 (by rfl) (by rfl) (some ⟨wa.heap.size, 0, none⟩) 1 1 [x] (by rfl) (by rfl) HMT.out OL.out YL.out rfl (by show (mt + 1) * 56 <= _; omega) BASE.out ?_
                     intro A' c' q' W' hO hC hq
                     obtain ⟨W2, up, hM2, hC2b⟩ := BK.out W' A' c' q' _ hO (HC2.out.any.then hC) (by rcases hq with e | e; exact .inl e; exact .inr ⟨_, e, HC2.out.size⟩)
                     rw [show (Pl.at' (l.take k) x.tick ++ [x]).length = mt + 1 by rw [List.length_append, HMT.out]; rfl] at up
                     have z0 : W'.cell? ⟨wr.heap.size, 0, none⟩ = some (.int .i64 x.tick) := (HC3.out.any.then hC).cell a0 QN.out
                     have hz : wr.heap.size < W'.heap.size := Nat.lt_of_lt_of_le hal (HC3.out.any.then hC).size
                     have M9 := Ad (hM2.eq AT.out)
                     have C9 := Ad (HC2.out.any.then hC)
                     have C8 := Ad hC2b
                     clear hO hC hq hM2 hC2b))
     all_goals
       have R9 := Ad (show MapAt W2 w.heap.size gm (fun t => Pl.at' (l.take (k + 1)) t) /\ Ch [] w W2 /\ BusAt W2 w1.heap.size gB A0 c0 q0 ps0 (Pl.Bus.fresh n).nodes 0 from
         ⟨M9.out, (CW.out.trans C9.out (fun y hy => .inr (QL.out y hy))).trans C8.out (fun y hy => by simp at hy; subst hy; exact .inr GM.out),
           (BA.out.keep C9.out (fun y hy hm => NB.out y hm hy)).keep C8.out (fun y hy hm => by simp at hm; subst hm; exact NG.out hy)⟩)
       clear M9 C9 C8 BK HC2 HC3 OL YL up lk1 lk2 z0 hz a0 a1 a2 b0 b1 b2 b3 b4 b5 b6 b7 b8 b9 b10 b11 hal
       go_wp2_with fail
       go_roundw
       case rel => exact ⟨k + 1, by omega, by go_num, R9⟩
       case measure => simp [intOf]; omega
   · have hkn : k = m := by omega
     subst hkn
     have e : l.take k = l := List.take_of_length_le (by rw [HN.out]; exact Nat.le_refl _)
     rw [e] at HR
     have HG := Ad (Pl.after_good (Pl.fresh_good n) (fun a ha => ⟨(HA.out a ha).2.1, (HA.out a ha).2.2.1⟩))
     have HLL := Ad (Pl.es_length (Pl.fresh_good n) (fun a ha => ⟨(HA.out a ha).2.1, (HA.out a ha).2.2.1⟩))
     have M0 := Ad HR.out.1
     have C0 := Ad HR.out.2.1
     have B0 := Ad HR.out.2.2
     clear e hlt hk HR M3 C3 B3
     generalize wr = wA at *
     go_wp2_with fail
     go_loopw [15, 16, 63] (fun v1 v2 i wz => ∃ t : Nat, t <= ticks /\ i = .int .i64 t /\ (∃ A1 c1 q1 m1, v1 = .slice A1 m1 c1 /\ Aside0 ((Pl.jn (Pl.Bus.rs l (Pl.Bus.fresh n) t)).length = m1 /\ Ow Rv wz w.heap.size q1 A1 c1 (Pl.jn (Pl.Bus.rs l (Pl.Bus.fresh n) t)))) /\
       (∃ A2 c2 q2 m2, v2 = .slice A2 m2 c2 /\ Aside0 ((Pl.Bus.es l (Pl.Bus.fresh n) t).length = m2 /\ Ow Evv wz w.heap.size q2 A2 c2 (Pl.Bus.es l (Pl.Bus.fresh n) t))) /\
       (∃ ps, Aside0 (BusAt wz w1.heap.size gB A0 c0 q0 ps (Pl.Bus.after l (Pl.Bus.fresh n) t).nodes (Pl.Bus.after l (Pl.Bus.fresh n) t).tick)) /\ Aside0 (MapAt wz w.heap.size gm (fun t => Pl.at' l t) /\ Ch [] w wz)) (fun _ _ i _ => ticks - (intOf i).toNat)
     case atStart => exact ⟨0, by omega, rfl, ⟨none, 0, none, 0, rfl, ⟨rfl, Ow.nil _ _ _⟩⟩, ⟨none, 0, none, 0, rfl, ⟨rfl, Ow.nil _ _ _⟩⟩, ⟨ps0, ⟨B0.out⟩⟩, ⟨M0.out, C0.out⟩⟩
     case round =>
       generalize wA = wB at *
       obtain ⟨t, ht', rfl, ⟨A1, c1, q1, m1, rfl, O1⟩, ⟨A2, c2, q2, m2, rfl, O2⟩, ⟨ps, HB⟩, HM⟩ := hrel
       obtain ⟨B, hBe⟩ : ∃ B, Pl.Bus.after l (Pl.Bus.fresh n) t = B := ⟨_, rfl⟩
       by_cases hlt : t < ticks
       · obtain ⟨hgood, htick⟩ := HG.out t
         rw [hBe] at hgood htick
         rw [show (Pl.Bus.fresh n).tick = 0 from rfl, Int.zero_add] at htick
         obtain ⟨AL, cL, qL, lk, hOL, -⟩ := HM.out.1.look (t : Int)
         have lk0 := lk wr (Ch.refl _ _)
         obtain ⟨L, hLe⟩ : ∃ L, Pl.at' l (t : Int) = L := ⟨_, rfl⟩
         rw [hLe] at hOL lk0
         have hLm : ∀ a ∈ L, a ∈ l := fun a ha => by rw [<- hLe] at ha; exact Pl.at_mem ha
         obtain ⟨mL, hmL⟩ : ∃ mL, L.length = mL := ⟨_, rfl⟩
         rw [hmL] at lk0
         have RS := Ad (show Pl.Bus.rs l (Pl.Bus.fresh n) (t + 1) = Pl.Bus.rs l (Pl.Bus.fresh n) t ++ [((B.acted L).1.force (B.acted L).2 0 0).2.1] by rw [Pl.Bus.rs, hBe, Pl.Bus.tick1, htick, hLe])
         have ES := Ad (show Pl.Bus.es l (Pl.Bus.fresh n) (t + 1) = Pl.Bus.es l (Pl.Bus.fresh n) t ++ ((B.acted L).1.force (B.acted L).2 0 0).2.2 by rw [Pl.Bus.es, hBe, Pl.Bus.tick1, htick, hLe])
         have AS := Ad (show Pl.Bus.after l (Pl.Bus.fresh n) (t + 1) = ((B.acted L).1.force (B.acted L).2 0 0).1 by rw [Pl.Bus.after, hBe, Pl.Bus.tick1, htick, hLe])
         have GD := Ad (show ∀ j, ((B.acted (L.take j)).1.good n t /\ (B.acted (L.take j)).2 < 2 ^ n /\ (B.acted (L.take j)).1.tick = B.tick) from fun j => Pl.acted_good (L.take j) (B, 0) hgood (Nat.pow_pos (by decide)) (fun a ha => ⟨(HA.out a (hLm a (List.mem_of_mem_take ha))).2.1, (HA.out a (hLm a (List.mem_of_mem_take ha))).2.2.1⟩))
         have LM := Ad hLm
         have OL := Ad hOL
         have ML := Ad hmL
         have TK := Ad htick
         have mL9 : mL <= 1000 := by
           have h1 := List.length_filter_le (fun a : Act' => decide (a.tick = (t : Int))) l
           rw [<- hmL, <- hLe]
           unfold Pl.at'
           rw [HN.out] at h1
           omega
         rw [hBe] at HB
         clear hLm hOL hmL htick hgood lk hLe hBe
         go_wp2_with fail
         generalize wr = wC at *
         go_loopw [18, 70] (fun f i wi => ∃ j : Nat, j <= mL /\ i = .int .i64 j /\ ∃ fm : Nat, f = .int .u32 fm /\ ∃ ps', Aside0 ((B.acted (L.take j)).2 = fm /\ BusAt wi w1.heap.size gB A0 c0 q0 ps' (B.acted (L.take j)).1.nodes (B.acted (L.take j)).1.tick /\ St (bfp gB q0 ps) wC wi (bfp gB q0 ps'))) (fun _ i _ => mL - (intOf i).toNat)
         case atStart => exact ⟨0, by omega, rfl, 0, rfl, ps, ⟨rfl, HB.out, St.refl _ _⟩⟩
         case round =>
           obtain ⟨j, hj, rfl, fm, rfl, ps2, HJ⟩ := hrel
           have hbg := HJ.out.2.1.cs.lt
           by_cases hlt2 : j < mL
           · obtain ⟨x, hx⟩ : ∃ x, L[j]? = some x := ⟨_, List.getElem?_eq_getElem (by rw [ML.out]; exact hlt2)⟩
             have hxl := LM.out x (List.mem_of_getElem? hx)
             obtain ⟨hx0, hx1, hx2, hx3⟩ := HA.out x hxl
             have hxw := HWF.out x hxl
             obtain ⟨i, hi⟩ : ∃ i : Nat, x.node = i := ⟨x.node.toNat, by omega⟩
             have hOJ := OL.out.keep HJ.out.2.2.1 (fun y hy hm => by
               have h9 := OL.out
               rw [hy] at h9
               obtain ⟨cur, hc⟩ := h9.blk
               exact HB.out.no55 hc hm)
             obtain ⟨g2, o2, rfl, hrc⟩ := hOJ.rd.cells hx
             have R := Ad (show wr.rangeAt g2 (o2 + j * 15) (Av.enc x) from fun y v hv => hrc y v hv)
             have GJ := Ad (GD.out j)
             have AJ := Ad (show B.acted (L.take (j + 1)) = Pl.Bus.act1 (B.acted (L.take j)) x by rw [List.take_add_one, hx, Option.toList_some, Pl.Bus.acted_snoc])
             generalize B.acted (L.take j) = bc at *
             have k0 : (0 : Int) <= (j : Int) := by omega
             have k1 : (j : Int) < (mL : Int) := by omega
             have DN := Ad (Cs.new wr ([Value.int .i64 0, .int .i64 0, .bool false] ++ zf) 55)
             have CN := Ad ((Ch.refl [] wr).alloc (.cells ([Value.int .i64 0, .int .i64 0, .bool false] ++ zf).toArray 55))
             have P1 := Ad (show ∀ u ∈ Av.enc x, u.oneCell' = true from fun u hu => Av.hone x u hu)
             have XW := Ad hxw
             have XI := Ad hi
             have hin : i < n := by omega
             clear hrc hx hxl hx0 hx1 hx2 hx3 hxw hi hOJ
             go_wp2_with (first | refine wpList_load_mid rfl 55 (.tmp 72) rfl g2 (o2 + j * 15) (by rfl) (Av.enc x) _ R.out Tryz.underlying55 rfl size55 ?_ | refine wpList_store_all rfl 55 (.tmp 20) (.tmp 73) rfl (Av.enc x) (by rfl) (by rfl) DN.out rfl size55 P1.out ?_)
             intro wa ha ca
             have CA := Ad (show Ch [] wr wa from CN.out.trans ca (by simp))
             have BA := Ad (HJ.out.2.1.on CA.out)
             have SA := Ad (HJ.out.2.2.trans (St.of CA.out))
             have a1 : wa.cell? ⟨wr.heap.size, 1, none⟩ = some (.int .i64 i) := by rw [<- XI.out]; exact ha.cell (by rfl)
             have a2 : wa.cell? ⟨wr.heap.size, 2, none⟩ = some (.bool x.fault) := ha.cell (by rfl)
             have hal := ha.lt
             have DA := Ad ha
             have AP := Ad (show ∀ j v, (frc x.f)[j]? = some v -> (Av.enc x)[3 + j]? = some v from fun j v hv => by
               show (Value.int .i64 x.tick :: .int .i64 x.node :: .bool x.fault :: frc x.f)[3 + j]? = some v
               rw [show 3 + j = j + 1 + 1 + 1 by omega, List.getElem?_cons_succ, List.getElem?_cons_succ, List.getElem?_cons_succ]
               exact hv)
             clear ha ca DN CN R P1
             cases hfa : x.fault
             · rw [hfa] at a2
               obtain ⟨xn, hxn⟩ : ∃ xn, bc.1.nodes[i]? = some xn := ⟨_, List.getElem?_eq_getElem (by rw [GJ.out.1.len]; exact hin)⟩
               have A1 := Ad (show B.acted (L.take (j + 1)) = (⟨bc.1.nodes.set i { xn with queue := Pl.pput x.f xn.queue }, bc.1.tick⟩, bc.2) by
                 rw [AJ.out, Pl.Bus.act1, if_neg (by rw [hfa]; decide), XI.out, Int.toNat_natCast]
                 unfold Pl.Bus.put
                 rw [hxn])
               have BP := Ad (bput_calls x.f XW.out i xn BA.out hxn (by rw [GJ.out.1.len]; omega))
               clear hfa hxn AJ
               go_wp2_with (refine wpList_load_Cs rfl 49 (.tmp 84) rfl 3 (frc x.f) (by rfl) DA.out AP.out Tryz.underlying49 rfl size49 ?_)
               refine BP.out.mono ?_
               rintro e w9 ⟨⟨z, rfl⟩, ps3, hB3, hS3⟩
               have R3 := Ad (show (B.acted (L.take (j + 1))).2 = fm /\ BusAt w9 w1.heap.size gB A0 c0 q0 ps3 (B.acted (L.take (j + 1))).1.nodes (B.acted (L.take (j + 1))).1.tick /\ St (bfp gB q0 ps) wC w9 (bfp gB q0 ps3) from by
                 rw [A1.out]
                 exact ⟨HJ.out.1, hB3, SA.out.trans hS3⟩)
               clear hB3 hS3 BP A1 a1 a2 hal DA AP
               go_wp2_with fail
               go_roundw
               case rel => exact ⟨j + 1, by omega, by go_num, fm, rfl, ps3, R3⟩
               case measure => simp [intOf]; omega
             · rw [hfa] at a2
               have hfm := HJ.out.1
               have hp2 : 2 ^ i < 4294967296 := Nat.pow_lt_pow_right (a := 2) (n := 32) (by decide) (by omega)
               have hfl : fm < 4294967296 := by
                 have h1 := GJ.out.2.1
                 rw [hfm] at h1
                 exact Nat.lt_of_lt_of_le h1 (Nat.pow_le_pow_right (n := 2) (by decide) (show n <= 32 by omega))
               have eo : bits BinOp.or IntKind.u32 (fm : Int) ((2 : Int) ^ i % 4294967296) = ((fm ||| 2 ^ i : Nat) : Int) := by
                 rw [show (2 : Int) ^ i % 4294967296 = ((2 ^ i % 4294967296 : Nat) : Int) by simp, Nat.mod_eq_of_lt hp2]
                 exact u32_or_nat fm (2 ^ i) hfl hp2
               have A1 := Ad (show B.acted (L.take (j + 1)) = (bc.1, fm ||| 2 ^ i) by
                 rw [AJ.out, Pl.Bus.act1, if_pos (by rw [hfa]), XI.out, Int.toNat_natCast, hfm])
               have R3 := Ad (show (B.acted (L.take (j + 1))).2 = (fm ||| 2 ^ i) /\ BusAt wa w1.heap.size gB A0 c0 q0 ps2 (B.acted (L.take (j + 1))).1.nodes (B.acted (L.take (j + 1))).1.tick /\ St (bfp gB q0 ps) wC wa (bfp gB q0 ps2) from by
                 rw [A1.out]
                 exact ⟨rfl, BA.out, SA.out⟩)
               clear hfa hfm hp2 hfl AJ A1 DA AP
               go_wp2_with fail
               go_roundw
               case rel => exact ⟨j + 1, by omega, by go_num, _, rfl, ps2, R3⟩
               case measure => simp [intOf]; omega
           · have hjm : j = mL := by omega
             subst hjm
             have e : L.take j = L := List.take_of_length_le (by rw [ML.out]; exact Nat.le_refl _)
             have GJ := Ad (GD.out j)
             rw [e] at HJ GJ
             clear e hlt2 hj
             have hg2 := GJ.out
             have hp : 2 ^ n <= 4294967296 := Nat.pow_le_pow_right (n := 2) (by decide) (show n <= 32 by omega)
             have hfm := HJ.out.1
             have ST := Ad (step_ticked (B.acted L).1 (B.acted L).2 HJ.out.2.1 (by rw [hg2.1.len]; omega) (by rw [hg2.1.len]; exact Nat.div_eq_of_lt hg2.2.1) (by have := hg2.2.1; omega) (by rw [hg2.2.2, TK.out]; omega) (fun x hx => (hg2.1.nodes x hx).fit (by omega)))
             rw [hfm] at ST
             have M1 := Ad (HM.out.1.bus HB.out HJ.out.2.2.1)
             have hb1 := HB.out.fp_ge
             have FG := Ad (show ∀ y, y ∈ bfp gB q0 ps -> w.heap.size <= y from fun y hy => Nat.le_trans S1.out (hb1 y hy))
             have LO1 := Ad (Pl.jn_facts (Pl.Bus.rs l (Pl.Bus.fresh n) t) (fun r hr => by rw [(Pl.rs_all l _ t r hr).2.1]; omega))
             have RT := Ad (Pl.rs_tot l (Pl.Bus.fresh n) t)
             have RL := Ad (Pl.rs_length l (Pl.Bus.fresh n) t)
             have FN := Ad (show Pl.Bus.run (B.acted L).1 0 0 = ((B.acted L).1.force (B.acted L).2 0 0).2.1 from rfl)
             have JN := Ad (show Pl.jn (Pl.Bus.rs l (Pl.Bus.fresh n) (t + 1)) = Pl.bjoin (Pl.jn (Pl.Bus.rs l (Pl.Bus.fresh n) t)) ((B.acted L).1.force (B.acted L).2 0 0).2.1 by rw [RS.out, Pl.jn_snoc])
             have EL := Ad (HLL.out (t + 1))
             rw [ES.out] at EL
             have HF := Ad (show ((B.acted L).1.force (B.acted L).2 0 0).2.2.length = ((B.acted L).1.force fm 0 0).2.2.length by rw [hfm])
             rw [hfm] at FN JN ES AS EL HF
             clear hg2 hfm lk0 RS HF
             go_wp2_with fail
             refine ST.out.mono ?_
             rintro e w4 ⟨A5, c5, q5, ps5, m5, lv, dr, rfl, hrun, ⟨hm5, hO5⟩, hB5, hS5⟩
             have SS := Ad (HJ.out.2.2.trans hS5)
             have B5 := Ad hB5
             have O5 := Ad hO5
             have M5 := Ad hm5
             have RUN := Ad hrun
             rw [FN.out] at RUN
             have hsz5 := (HJ.out.2.2.trans hS5).1.size
             have M4 := Ad (HM.out.1.bus HB.out SS.out.1)
             have CW4 := Ad (HM.out.2.trans SS.out.1 (fun y hy => .inr (FG.out y hy)))
             have O14 := Ad (O1.out.2.keep SS.out.1 (fun y hy hm => by
               have h9 := O1.out.2
               rw [hy] at h9
               obtain ⟨cur, hc⟩ := h9.blk
               exact HB.out.other hc (.inr rfl) hm))
             have O24 := Ad (O2.out.2.keep SS.out.1 (fun y hy hm => by
               have h9 := O2.out.2
               rw [hy] at h9
               obtain ⟨cur, hc⟩ := h9.blk
               exact HB.out.other hc (.inl rfl) hm))
             have BW := Ad (show w.heap.size <= wr.heap.size from Nat.le_trans HM.out.2.size HJ.out.2.2.1.size)
             have DN := Ad (Cs.new w4 [Value.int .i64 0, .int .i64 0, .int .u32 0] 93)
             have CN := Ad ((Ch.refl [] w4).alloc (.cells [Value.int .i64 0, .int .i64 0, .int .u32 0].toArray 93))
             clear hrun hm5 hO5 hB5 hS5 ST
             go_wp2_with (refine wpList_store_all rfl 93 (.tmp 21) (.tmp 92) rfl [Value.int .i64 1, .int .i64 lv, .int .u32 dr] (by rfl) (by rfl) DN.out rfl size93 (by simp [Value.oneCell']) ?_)
             intro w5 hd hc
             have C5 := Ad (CN.out.trans hc (by simp))
             have D5 := Ad hd
             clear hd hc DN CN
             have EA := Ad (show ∀ j v, ([Value.int .i64 1, .int .i64 lv, .int .u32 dr] : List Value)[j]? = some v -> ([Value.int .i64 1, .int .i64 lv, .int .u32 dr] : List Value)[0 + j]? = some v from fun j v hv => by rwa [Nat.zero_add])
             have JC := Ad (join_calls A1 w.heap.size c1 m1 q1 (Pl.jn (Pl.Bus.rs l (Pl.Bus.fresh n) t)) O1.out.1 (by have h1 := LO1.out.2.2; rw [O1.out.1, RL.out] at h1; omega) ⟨1, lv, dr⟩ w5 (O14.out.on C5.out) (Nat.le_trans CW4.out.size C5.out.size) (fun y hy => by
               have h1 := LO1.out.2.1 y (List.mem_of_getLast? hy)
               rw [RT.out] at h1
               refine ⟨by omega, by omega, by show (0 : Int) <= 1; omega, by show (1 : Int) <= 1000000000; omega⟩))
             go_wp2_with (refine wpList_load_Cs rfl 93 (.tmp 21) rfl 0 [Value.int .i64 1, .int .i64 lv, .int .u32 dr] (by rfl) D5.out EA.out Tryz.underlying93 rfl size93 ?_)
             refine JC.out.mono ?_
             rintro e w6 ⟨A6, c6, q6, rfl, hO6, hC6, hq6⟩
             obtain ⟨m6, hm6⟩ : ∃ m6, (Pl.bjoin (Pl.jn (Pl.Bus.rs l (Pl.Bus.fresh n) t)) ⟨1, lv, dr⟩).length = m6 := ⟨_, rfl⟩
             have O6 := Ad (show (Pl.jn (Pl.Bus.rs l (Pl.Bus.fresh n) (t + 1))).length = m6 /\ Ow Rv w6 w.heap.size q6 A6 c6 (Pl.jn (Pl.Bus.rs l (Pl.Bus.fresh n) (t + 1))) from by
               rw [JN.out, RUN.out]
               exact ⟨hm6, hO6⟩)
             have n1 : ∀ {y : Nat}, y ∈ q1.toList -> w.heap.size <= y := fun {y} hy => by rw [Option.mem_toList] at hy; exact (O14.out.size y hy).1
             have C6 := Ad (show Ch q1.toList w4 w6 from C5.out.any.then hC6)
             have n51 : ∀ {b7 c7 : Nat} {A7 : Option Addr} {q7 : Option Nat} {l7 : List Ev}, Ow Evv w4 b7 q7 A7 c7 l7 -> ∀ y, q7 = some y -> y ∉ q1.toList := fun h7 y hy hm => by
               rw [Option.mem_toList] at hm
               have h8 := O14.out
               rw [hm] at h8
               obtain ⟨cur, hc⟩ := h8.blk
               exact h7.ne hc (by decide) hy
             have O26 := Ad (O24.out.keep C6.out (n51 O24.out))
             have O56 := Ad (O5.out.keep C6.out (n51 O5.out))
             have B6 := Ad (B5.out.keep C6.out (fun y hy hm => by
               rw [Option.mem_toList] at hm
               have h8 := O14.out
               rw [hm] at h8
               obtain ⟨cur, hc⟩ := h8.blk
               exact B5.out.other hc (.inr rfl) hy))
             have M6 := Ad (M4.out.keep C6.out (fun hm => by
               obtain ⟨es, arr, cl, h1, _⟩ := M4.out
               rw [Option.mem_toList] at hm
               have h8 := O14.out
               rw [hm] at h8
               obtain ⟨cur, hc⟩ := h8.blk
               rw [h1] at hc
               cases hc) (fun y cur hk hm => by
               rw [Option.mem_toList] at hm
               have h8 := O14.out
               rw [hm] at h8
               obtain ⟨cur', hc⟩ := h8.blk
               rw [hk] at hc
               cases hc))
             have CW6 := Ad (CW4.out.trans C6.out (fun y hy => .inr (n1 hy)))
             rw [hm6]
             have EB : (m2 + m5) * 56 <= 140737488355328 := by
               have h1 := EL.out
               rw [List.length_append, O2.out.1, M5.out] at h1
               have h2 : 4 * n * (t + 1) <= 4 * 32 * 1001 := Nat.mul_le_mul (by omega) (by omega)
               omega
             clear hO6 hC6 hq6 hm6 JC EA n1 n51
             go_wp2_with (at_builtin; go_loud (refine wpList_append_Ow rfl (.tmp 101) (.tmp 102) 42 (by rfl) (by rfl) A5 m5 c5 _ (by rfl) (by rfl) O2.out.1 O26.out O56.out.rd M5.out EB CW6.out.size ?_))
             intro A7 c7 q7 w7 hO hC hq
             have O7 := Ad (show (Pl.Bus.es l (Pl.Bus.fresh n) (t + 1)).length = m2 + m5 /\ Ow Evv w7 w.heap.size q7 A7 c7 (Pl.Bus.es l (Pl.Bus.fresh n) (t + 1)) from by
               rw [ES.out]
               exact ⟨by rw [List.length_append, O2.out.1, M5.out], hO⟩)
             have hk2 : ∀ {y : Nat} {cur : Array Value} {T : TypeId}, w6.heap[y]? = some (.cells cur T (0, 0)) -> T ≠ 51 -> y ∉ q2.toList := fun {y cur T} hy hT hm => by
               rw [Option.mem_toList] at hm
               exact O26.out.ne hy (fun e => hT e.symm) hm
             have O67 := Ad (show Ow Rv w7 w.heap.size q6 A6 c6 (Pl.jn (Pl.Bus.rs l (Pl.Bus.fresh n) (t + 1))) from O6.out.2.keep hC (fun y hy => by
               have h8 := O6.out.2
               rw [hy] at h8
               obtain ⟨cur, hc⟩ := h8.blk
               exact hk2 hc (by decide)))
             have B7 := Ad (B6.out.keep hC (B6.out.apart O26.out))
             have M7 := Ad (M6.out.keep hC (fun hm => by
               obtain ⟨es, arr, cl, h1, _⟩ := M6.out
               rw [Option.mem_toList] at hm
               have h8 := O26.out
               rw [hm] at h8
               obtain ⟨cur, hc⟩ := h8.blk
               rw [h1] at hc
               cases hc) (fun y cur hk => hk2 hk (by decide)))
             have CW7 := Ad (CW6.out.trans hC (fun y hy => by rw [Option.mem_toList] at hy; exact .inr (O26.out.size y hy).1))
             clear hO hC hq hk2 O1 O2 O14 O24 O26 O56 B6 M6 CW6
             go_wp2_with fail
             go_roundw
             case rel => exact ⟨t + 1, by omega, by go_num, ⟨A6, c6, q6, m6, rfl, ⟨O6.out.1, O67.out⟩⟩, ⟨A7, c7, q7, _, rfl, O7⟩, ⟨ps5, ⟨by rw [AS.out]; exact B7.out⟩⟩, ⟨M7.out, CW7.out⟩⟩
             case measure => simp [intOf]; omega
       · have htk : t = ticks := by omega
         subst htk
         clear hlt ht'
         go_wp2_with fail
         refine bodyPost_ret (v := .tuple #[.slice A1 m1 c1, .slice A2 m2 c2, .int .i64 0]) (by simp [results, Tryz.f11, go_sem]) rfl ?_
         exact ⟨A1, c1, q1, m1, A2, c2, q2, m2, rfl, O1.out, O2.out, HM.out.2⟩
end
end Go.Proofs.YtjoehjclaonneaaGreat
