/- A part of the proof of TopReplay (no condition of its own). -/
import Derived.Test.YtjoehjclaonneaaGreatMR
import Derived.Test.YtjoehjclaonneaaGreatMK
import Derived.Test.YtjoehjclaonneaaGreatMN
import Derived.Test.YtjoehjclaonneaaGreatML
import Derived.Test.YtjoehjclaonneaaGreatMI
namespace Go.Proofs.YtjoehjclaonneaaGreat
open Go.RowKit Go.Proofs.YtjoehjclaonneaaGreatW.PrintWords
set_option maxHeartbeats 8000000
set_option linter.unusedVariables false
set_option linter.unusedSimpArgs false
namespace Pl
def kk (l : List Run) : List (Int × Int) := l.map (fun r => (r.bus, r.drv))
theorem kk_bjoin (l : List Run) (r : Run) : kk (Pl.bjoin l r) = if (kk l).getLast? = some (r.bus, r.drv) then kk l else kk l ++ [(r.bus, r.drv)] := by
 unfold Pl.bjoin
 cases hg : l.getLast? with
 | none =>
   have : l = [] := by simpa using hg
   subst this
   simp [kk]
 | some y =>
   have hk : (kk l).getLast? = some (y.bus, y.drv) := by unfold kk; rw [List.getLast?_map, hg]; rfl
   rw [hk]
   by_cases e : y.bus = r.bus /\ y.drv = r.drv
   · have hl : l ≠ [] := by rintro rfl; simp at hg
     have hlen : l.length - 1 < l.length := by have := List.length_pos_iff.2 hl; omega
     have hy : l[l.length - 1]? = some y := by rw [<- List.getLast?_eq_getElem?, hg]
     simp only []
     rw [if_pos e, if_pos (by rw [e.1, e.2])]
     unfold kk
     rw [List.map_set]
     refine List.ext_getElem? (fun i => ?_)
     rw [List.getElem?_set]
     split
     · rename_i h
       subst h
       rw [if_pos (by simpa using hlen), List.getElem?_map, hy]
       rfl
     · rfl
   · simp only []
     rw [if_neg e, if_neg (fun h => e (by simpa using h))]
     simp [kk]
def Ap (ks : List (Int × Int)) : Prop := ∀ i a b, ks[i]? = some a -> ks[i + 1]? = some b -> a ≠ b
theorem ap_snoc {ks : List (Int × Int)} {k : Int × Int} (h : Ap ks) (hk : ks.getLast? ≠ some k) : Ap (ks ++ [k]) := by
 intro i a b ha hb hab
 have hlt : i + 1 < ks.length + 1 := by
   have := (List.getElem?_eq_some_iff.1 hb).1
   simpa using this
 by_cases e : i + 1 < ks.length
 · rw [List.getElem?_append_left (by omega)] at ha
   rw [List.getElem?_append_left e] at hb
   exact h i a b ha hb hab
 · have hi : i = ks.length - 1 := by omega
   have h0 : i + 1 = ks.length := by omega
   rw [List.getElem?_append_left (by omega)] at ha
   rw [h0, List.getElem?_append_right (Nat.le_refl _), Nat.sub_self] at hb
   simp at hb
   rw [hi, <- List.getLast?_eq_getElem?] at ha
   exact hk (by rw [ha, hab, hb])
theorem kk_fold : ∀ (l acc : List Run), Ap (kk acc) -> Ap (kk (l.foldl Pl.bjoin acc)) /\ ∀ a ∈ kk (l.foldl Pl.bjoin acc), a ∈ kk acc ∨ a ∈ kk l
 | [], acc, h => ⟨h, fun a ha => .inl ha⟩
 | r :: l, acc, h => by
   have h1 : Ap (kk (Pl.bjoin acc r)) := by
     rw [kk_bjoin]
     split
     · exact h
     · rename_i hn
       exact ap_snoc h hn
   obtain ⟨h2, h3⟩ := kk_fold l (Pl.bjoin acc r) h1
   refine ⟨h2, fun a ha => ?_⟩
   rcases h3 a ha with h4 | h4
   · rw [kk_bjoin] at h4
     split at h4
     · exact .inl h4
     · rcases List.mem_append.1 h4 with h5 | h5
       · exact .inl h5
       · refine .inr ?_
         have : a = (r.bus, r.drv) := by simpa using h5
         rw [this]
         simp [kk]
   · exact .inr (by simp [kk] at h4 ⊢; exact .inr h4)
theorem jn_apart (l : List Run) : Ap (kk (Pl.jn l)) := (kk_fold l [] (by intro i a b h; simp [kk] at h)).1
theorem jn_mem (l : List Run) : ∀ x ∈ Pl.jn l, ∃ y ∈ l, x.bus = y.bus /\ x.drv = y.drv := fun x hx => by
 have h := (kk_fold l [] (by intro i a b h; simp [kk] at h)).2 (x.bus, x.drv) (by unfold kk; exact List.mem_map.2 ⟨x, hx, rfl⟩)
 rcases h with h | h
 · simp [kk] at h
 · obtain ⟨y, h1, h2⟩ := List.mem_map.1 h
   exact ⟨y, h1, by simpa using (congrArg Prod.fst h2).symm, by simpa using (congrArg Prod.snd h2).symm⟩
theorem len_le_tot : ∀ (l : List Run), (∀ r ∈ l, 1 <= r.n) -> (l.length : Int) <= Pl.tot l
 | [], _ => by simp [Pl.tot]
 | r :: l, h => by
   have h1 := h r (by simp)
   have h2 := len_le_tot l (fun x hx => h x (by simp [hx]))
   simp only [List.length_cons, Pl.tot]
   omega
theorem jn_right {l : List Run} (hr : ∀ r ∈ l, Pl.rgt r) (ht : Pl.tot l <= 1000000) : ∀ r ∈ Pl.jn l, Pl.rgt r := fun r h => by
 obtain ⟨j1, j2, j3⟩ := Pl.jn_facts l (fun x hx => (hr x hx).1)
 obtain ⟨y, hy, e1, e2⟩ := jn_mem l r h
 obtain ⟨-, -, hb⟩ := hr y hy
 exact ⟨(j2 r h).1, by have := (j2 r h).2; omega, by rw [e1, e2]; exact hb⟩
theorem jn_drv {l : List Run} {p : Int -> Prop} (hd : ∀ r ∈ l, p r.drv) : ∀ r ∈ Pl.jn l, p r.drv := fun r h => by
 obtain ⟨y, hy, _, e2⟩ := jn_mem l r h
 rw [e2]
 exact hd y hy
theorem jn_ok {f : Nat} {l : List Run} (hne : 0 < Pl.tot l) (hr : ∀ r ∈ l, Pl.rgt r) (hd : ∀ r ∈ l, 0 <= r.drv /\ r.drv < 4294967296) (ht : Pl.tot l <= 1000) (hf : (f : Int) + Pl.tot l <= 1000000) : Bl.Ok f (Pl.jn l) /\ ((Pl.jn l).length : Int) <= Pl.tot l := by
 obtain ⟨j1, j2, j3⟩ := Pl.jn_facts l (fun x hx => (hr x hx).1)
 have hR := jn_right hr (by omega)
 have hl := len_le_tot (Pl.jn l) (fun r h => (j2 r h).1)
 rw [j1] at hl
 refine ⟨⟨fun e => ?_, by omega, hR, jn_drv (p := fun d => 0 <= d /\ d < 4294967296) hd, by rw [j1]; exact hf, fun i x y hx hy e => ?_⟩, hl⟩
 · rw [e] at j1
   simp [Pl.tot] at j1
   omega
 · have h1 := jn_apart l i (x.bus, x.drv) (y.bus, y.drv) (by unfold kk; rw [List.getElem?_map, hx]; rfl) (by unfold kk; rw [List.getElem?_map, hy]; rfl)
   obtain ⟨-, -, b1⟩ := hR x (List.mem_of_getElem? hx)
   obtain ⟨-, -, b2⟩ := hR y (List.mem_of_getElem? hy)
   exact h1 (by rw [b1, b2, e])
theorem btw_tot2 (fro upto : Int) (hfu : fro <= upto) : ∀ (l : List Run) (a : Int), (∀ r ∈ l, 0 <= r.n) -> Pl.tot (Pl.btw fro upto l a) = max 0 (min (a + Pl.tot l) upto - max a fro)
 | [], a, _ => by simp only [Pl.btw, Pl.tot]; omega
 | r :: l, a, h => by
   have h1 := h r (by simp)
   have h2 := btw_tot2 fro upto hfu l (a + r.n) (fun x hx => h x (by simp [hx]))
   have h3 : 0 <= Pl.tot l := by
     clear h2
     induction l with
     | nil => simp [Pl.tot]
     | cons y l ih =>
       have := h y (by simp)
       have := ih (fun x hx => h x (by simp at hx ⊢; rcases hx with e | e <;> simp [e]))
       simp only [Pl.tot]
       omega
   rw [Pl.btw, Pl.tot_app, h2]
   unfold Pl.part
   split
   · simp only [Pl.tot]
     omega
   · simp only [Pl.tot]
     omega
theorem btw_mem (fro upto : Int) : ∀ (l : List Run) (a : Int) (x : Run), x ∈ Pl.btw fro upto l a -> ∃ y ∈ l, x.bus = y.bus /\ x.drv = y.drv /\ 1 <= x.n /\ x.n <= y.n
 | [], _, x, h => by simp [Pl.btw] at h
 | r :: l, a, x, h => by
   rw [Pl.btw] at h
   rcases List.mem_append.1 h with h | h
   · split at h
     · rename_i hp
       simp at h
       subst h
       refine ⟨r, by simp, rfl, rfl, by show 1 <= Pl.part fro upto a r.n; omega, ?_⟩
       show Pl.part fro upto a r.n <= r.n
       unfold Pl.part
       omega
     · simp at h
   · obtain ⟨y, h1, h2⟩ := btw_mem fro upto l _ x h
     exact ⟨y, by simp [h1], h2⟩
end Pl
section
namespace Lo
def ptB (R : List Run) (e T k : Nat) : List Run := Pl.jn (Pl.jn (Pl.btw ((k * e : Nat) : Int) ((min (k * e + e) T : Nat) : Int) R 0))
def ptsB (R : List Run) (e T N : Nat) : List (List Run) := (List.range N).map (ptB R e T)
structure Rec (R : List Run) (e T N : Nat) : Prop where
 rgt : ∀ r ∈ R, Pl.rgt r
 drv : ∀ r ∈ R, 0 <= r.drv /\ r.drv < 4294967296
 tot : Pl.tot R = T
 T9 : T <= 1000
 e1 : 1 <= e
 e9 : e <= 1000
 lo : ∀ k, k < N -> k * e < T
 hi : T <= N * e
section
variable {R : List Run} {e T N : Nat}
theorem Rec.part (h : Rec R e T N) {k : Nat} (hk : k < N) : (∀ r ∈ Pl.btw ((k * e : Nat) : Int) ((min (k * e + e) T : Nat) : Int) R 0, Pl.rgt r) /\ (∀ r ∈ Pl.btw ((k * e : Nat) : Int) ((min (k * e + e) T : Nat) : Int) R 0, 0 <= r.drv /\ r.drv < 4294967296) /\ Pl.tot (Pl.btw ((k * e : Nat) : Int) ((min (k * e + e) T : Nat) : Int) R 0) = ((min (k * e + e) T - k * e : Nat) : Int) := by
 have hlo := h.lo k hk
 have he := h.e1
 refine ⟨fun r hr => ?_, fun r hr => ?_, ?_⟩
 · obtain ⟨y, h1, h2, h3, h4, h5⟩ := Pl.btw_mem _ _ _ _ r hr
   obtain ⟨_, g2, g3⟩ := h.rgt y h1
   exact ⟨h4, by omega, by rw [h2, h3]; exact g3⟩
 · obtain ⟨y, h1, h2, h3, _⟩ := Pl.btw_mem _ _ _ _ r hr
   rw [h3]
   exact h.drv y h1
 · rw [Pl.btw_tot2 _ _ (by omega) R 0 (fun r hr => by have := (h.rgt r hr).1; omega), h.tot]
   generalize k * e = p at *
   omega
theorem Rec.ptot (h : Rec R e T N) {k : Nat} (hk : k < N) : Pl.tot (ptB R e T k) = ((min (k * e + e) T - k * e : Nat) : Int) := by
 obtain ⟨h1, h2, h3⟩ := h.part hk
 have hT := h.T9
 have j1 := Pl.jn_facts _ (fun r hr => (h1 r hr).1)
 have j2 := Pl.jn_facts _ (fun r hr => (j1.2.1 r hr).1)
 unfold ptB
 rw [j2.1, j1.1, h3]
theorem ptsB_get {k : Nat} (h : k < N) : (ptsB R e T N)[k]? = some (ptB R e T k) := by
 unfold ptsB
 rw [List.getElem?_map, List.getElem?_range h]
 rfl
theorem Rec.offT (h : Rec R e T N) : ∀ k, k <= N -> offT (ptsB R e T N) k = min (k * e) T
 | 0, _ => by simp [Lo.offT, sumT]
 | k + 1, hk => by
   have h1 := h.offT k (by omega)
   have h2 := h.lo k (by omega)
   rw [offT_succ (ptsB_get (by omega)), h1, h.ptot (by omega), Int.toNat_natCast, Nat.add_mul, Nat.one_mul]
   generalize k * e = p at *
   omega
theorem Rec.ok (h : Rec R e T N) {k : Nat} (hk : k < N) : Bl.Ok (Lo.offT (ptsB R e T N) k) (ptB R e T k) /\ (ptB R e T k).length <= 1000 := by
 obtain ⟨h1, h2, h3⟩ := h.part hk
 have hT := h.T9
 have hlo := h.lo k hk
 have he := h.e1
 have hr := Pl.jn_right h1 (by rw [h3]; omega)
 have hd := Pl.jn_drv (p := fun d => 0 <= d /\ d < 4294967296) h2
 have j1 := (Pl.jn_facts _ (fun r hr => (h1 r hr).1)).1
 have hoff := h.offT k (by omega)
 obtain ⟨a, b⟩ := Pl.jn_ok (f := Lo.offT (ptsB R e T N) k) (by rw [j1, h3]; omega) hr hd (by rw [j1, h3]; omega) (by rw [j1, h3, hoff]; omega)
 refine ⟨a, ?_⟩
 have : ((ptB R e T k).length : Int) <= _ := b
 rw [j1, h3] at this
 omega
end
end Lo
end
section
namespace Pl
theorem bjoin_snoc (l : List Run) (y r : Run) : bjoin (l ++ [y]) r = if y.bus = r.bus /\ y.drv = r.drv then l ++ [⟨y.n + r.n, y.bus, y.drv⟩] else l ++ [y] ++ [r] := by
 unfold bjoin
 rw [List.getLast?_concat]
 simp only []
 split
 · rw [List.length_append, List.length_singleton, Nat.add_sub_cancel, List.set_append_right _ _ (Nat.le_refl _), Nat.sub_self, List.set_cons_zero]
 · rfl
theorem nil_or_snoc (l : List Run) : l = [] ∨ ∃ l' y, l = l' ++ [y] := by
 by_cases h : l = []
 · exact .inl h
 · exact .inr ⟨l.dropLast, l.getLast h, (List.dropLast_concat_getLast h).symm⟩
theorem bjoin_bjoin (acc : List Run) (b d p q : Int) : bjoin (bjoin acc ⟨p, b, d⟩) ⟨q, b, d⟩ = bjoin acc ⟨p + q, b, d⟩ := by
 rcases nil_or_snoc acc with rfl | ⟨l, y, rfl⟩
 · have := bjoin_snoc [] ⟨p, b, d⟩ ⟨q, b, d⟩
   rw [if_pos ⟨rfl, rfl⟩] at this
   exact this
 · rw [bjoin_snoc, bjoin_snoc]
   by_cases h : y.bus = b /\ y.drv = d
   · rw [if_pos h, if_pos h, bjoin_snoc, if_pos h, Int.add_assoc]
   · rw [if_neg h, if_neg h, bjoin_snoc, if_pos ⟨rfl, rfl⟩]
theorem bjoin_rep (acc : List Run) (b d : Int) : ∀ n : Nat, (List.replicate (n + 1) (⟨1, b, d⟩ : Run)).foldl bjoin acc = bjoin acc ⟨((n + 1 : Nat) : Int), b, d⟩
 | 0 => rfl
 | n + 1 => by
   rw [List.replicate_succ', List.foldl_append, bjoin_rep acc b d n, List.foldl_cons, List.foldl_nil, bjoin_bjoin]
   rfl
theorem fold_ex : ∀ (l acc : List Run), (∀ r ∈ l, 1 <= r.n) -> (ex l).foldl bjoin acc = l.foldl bjoin acc
 | [], _, _ => rfl
 | r :: l, acc, h => by
   have h1 := h r (by simp)
   obtain ⟨m, hm⟩ : ∃ m : Nat, r.n = ((m + 1 : Nat) : Int) := ⟨r.n.toNat - 1, by omega⟩
   rw [ex, List.foldl_append, List.foldl_cons, fold_ex l _ (fun x hx => h x (by simp [hx])), hm, Int.toNat_natCast, bjoin_rep, <- hm]
theorem jn_ex (l : List Run) (h : ∀ r ∈ l, 1 <= r.n) : jn (ex l) = jn l := fold_ex l [] h
theorem ex_bjoin (l : List Run) (r : Run) (hl : ∀ x ∈ l, 1 <= x.n) (hr : 1 <= r.n) : ex (bjoin l r) = ex l ++ ex [r] := by
 rcases nil_or_snoc l with rfl | ⟨l, y, rfl⟩
 · rfl
 · have hy := hl y (by simp)
   rw [bjoin_snoc]
   by_cases h : y.bus = r.bus /\ y.drv = r.drv
   · rw [if_pos h, ex_app, ex_app, List.append_assoc]
     congr 1
     simp only [ex, List.append_nil]
     rw [show (y.n + r.n).toNat = y.n.toNat + r.n.toNat by omega, <- List.replicate_append_replicate, h.1, h.2]
   · rw [if_neg h, ex_app]
theorem ex_fold : ∀ (l acc : List Run), (∀ x ∈ acc, 1 <= x.n) -> (∀ x ∈ l, 1 <= x.n) -> ex (l.foldl bjoin acc) = ex acc ++ ex l
 | [], acc, _, _ => by simp [ex]
 | r :: l, acc, ha, hl => by
   rw [List.foldl_cons, ex_fold l _ (bjoin_pos acc r ha (hl r (by simp))) (fun x hx => hl x (by simp [hx])), ex_bjoin acc r ha (hl r (by simp)), List.append_assoc, <- ex_app]
   rfl
theorem ex_jn (l : List Run) (h : ∀ x ∈ l, 1 <= x.n) : ex (jn l) = ex l := by
 have := ex_fold l [] (by simp) h
 exact this
theorem jn_jn (l : List Run) (h : ∀ x ∈ l, 1 <= x.n) : jn (jn l) = jn l := by
 have h1 := jn_ex (jn l) (fun r hr => ((jn_facts l h).2.1 r hr).1)
 rw [<- h1, ex_jn l h, jn_ex l h]
theorem ex_ones : ∀ l : List Run, (∀ r ∈ l, r.n = 1) -> ex l = l
 | [], _ => rfl
 | r :: l, h => by
   have h1 := h r (by simp)
   rw [ex, ex_ones l (fun x hx => h x (by simp [hx])), h1]
   obtain ⟨n, b, d⟩ := r
   simp only at h1
   subst h1
   rfl
theorem ex_btw (f u : Int) (hfu : f <= u) : ∀ (l : List Run) (a : Int), (∀ r ∈ l, 0 <= r.n) -> ex (btw f u l a) = ((ex l).take (u - a).toNat).drop (f - a).toNat
 | [], a, _ => by simp [btw, ex]
 | r :: l, a, h => by
   have hr := h r (by simp)
   rw [btw, ex_app, ex_btw f u hfu l (a + r.n) (fun x hx => h x (by simp [hx])), ex, List.take_append, List.drop_append, List.length_take, List.length_replicate, List.take_replicate, List.drop_replicate]
   congr 1
   · by_cases hp : 0 < part f u a r.n
     · rw [if_pos hp]
       simp only [ex, List.append_nil]
       unfold part at *
       congr 1
       omega
     · rw [if_neg hp]
       simp only [ex]
       unfold part at hp
       rw [show min (u - a).toNat r.n.toNat - (f - a).toNat = 0 by omega]
       rfl
   · by_cases e : r.n <= u - a
     · rw [show (u - a).toNat - r.n.toNat = (u - (a + r.n)).toNat by omega, show (f - a).toNat - min (u - a).toNat r.n.toNat = (f - (a + r.n)).toNat by omega]
     · rw [show (u - a).toNat - r.n.toNat = 0 by omega, show (u - (a + r.n)).toNat = 0 by omega]
       simp
end Pl
namespace Lo
variable {R : List Run} {e T N : Nat}
theorem Rec.expart (h : Rec R e T N) {k : Nat} (hk : k < N) : Pl.ex (ptB R e T k) = ((Pl.ex R).take (min (k * e + e) T)).drop (k * e) /\ ∀ r ∈ ptB R e T k, 1 <= r.n := by
 obtain ⟨h1, h2, h3⟩ := h.part hk
 have hlo := h.lo k hk
 have j1 := Pl.jn_facts _ (fun r hr => (h1 r hr).1)
 have j2 := Pl.jn_facts _ (fun r hr => (j1.2.1 r hr).1)
 refine ⟨?_, fun r hr => (j2.2.1 r hr).1⟩
 unfold ptB
 rw [Pl.ex_jn _ (fun r hr => (j1.2.1 r hr).1), Pl.ex_jn _ (fun r hr => (h1 r hr).1), Pl.ex_btw _ _ (by omega) R 0 (fun r hr => by have := (h.rgt r hr).1; omega)]
 simp only [Int.sub_zero, Int.toNat_natCast]
theorem Rec.wr (h : Rec R e T N) : ∀ k, k <= N -> Pl.ex (wrB (ptsB R e T N) k) = (Pl.ex R).take (min (k * e) T) /\ (∀ r ∈ wrB (ptsB R e T N) k, 1 <= r.n) /\ Pl.jn (wrB (ptsB R e T N) k) = wrB (ptsB R e T N) k
 | 0, _ => by simp [wrB, Pl.ex, Pl.jn]
 | k + 1, hk => by
   obtain ⟨h1, h2, h3⟩ := h.wr k (by omega)
   obtain ⟨g1, g2⟩ := h.expart (show k < N by omega)
   have hlo := h.lo k (by omega)
   have hp : ∀ r ∈ wrB (ptsB R e T N) k ++ ptB R e T k, 1 <= r.n := fun r hr => (List.mem_append.1 hr).elim (h2 r) (g2 r)
   rw [wrB_succ (ptsB_get (by omega))]
   refine ⟨?_, fun r hr => ((Pl.jn_facts _ hp).2.1 r hr).1, Pl.jn_jn _ hp⟩
   rw [Pl.ex_jn _ hp, Pl.ex_app, h1, g1, show min (k * e) T = k * e by omega, show (Pl.ex R).take (k * e) = ((Pl.ex R).take (min (k * e + e) T)).take (k * e) by rw [List.take_take, show min (k * e) (min (k * e + e) T) = k * e by omega], List.take_append_drop, Nat.add_mul, Nat.one_mul]
theorem Rec.same (h : Rec R e T N) (hj : Pl.jn R = R) : wrB (ptsB R e T N) (ptsB R e T N).length = R := by
 have hl : (ptsB R e T N).length = N := by simp [ptsB]
 rw [hl]
 obtain ⟨h1, h2, h3⟩ := h.wr N (Nat.le_refl _)
 have hn : ∀ r ∈ R, 0 <= r.n := fun r hr => by have := (h.rgt r hr).1; omega
 have hx := Pl.ex_len R hn
 rw [h.tot] at hx
 have hhi := h.hi
 rw [<- h3, <- Pl.jn_ex _ h2, h1, List.take_of_length_le (by omega), Pl.jn_ex _ (fun r hr => (h.rgt r hr).1), hj]
end Lo
namespace Pl
theorem rs_ex (l : List Act') (b : Bus) (t : Nat) : ex (jn (Bus.rs l b t)) = Bus.rs l b t := by
 have h := rs_all l b t
 rw [ex_jn _ (fun r hr => by have := (h r hr).2.1; omega), ex_ones _ (fun r hr => (h r hr).2.1)]
theorem rs_jj (l : List Act') (b : Bus) (t : Nat) : jn (jn (Bus.rs l b t)) = jn (Bus.rs l b t) := jn_jn _ (fun r hr => by have := (rs_all l b t r hr).2.1; omega)
theorem rs_rec (l : List Act') (b : Bus) (T e N : Nat) (hT : T <= 1000) (he : 1 <= e) (he9 : e <= 1000) (lo : ∀ k, k < N -> k * e < T) (hi : T <= N * e) : Lo.Rec (jn (Bus.rs l b T)) e T N := by
 have h := rs_all l b T
 have ht := rs_tot l b T
 refine ⟨jn_right (fun r hr => (h r hr).1) (by rw [ht]; omega), jn_drv (p := fun d => 0 <= d /\ d < 4294967296) (fun r hr => ?_), ?_, hT, he, he9, lo, hi⟩
 · obtain ⟨d, h1, h2⟩ := (h r hr).2.2
   rw [h1]
   omega
 · rw [(jn_facts _ (fun r hr => (h r hr).1.1)).1, ht]
theorem bks_le : ∀ (B : List (List Run)) (f : Nat), (∀ k l, B[k]? = some l -> Bl.Ok (f + Lo.offT B k) l) -> (∀ l ∈ B, ∀ r ∈ l, rgt r) -> f + Lo.sumT B < 1000000 -> (Lo.bks f B).length <= 20 * Lo.sumT B + 34 * B.length
 | [], _, _, _, _ => by simp [Lo.bks]
 | l :: B, f, h, hr, hs => by
   have h0 := h 0 l rfl
   rw [Lo.sumT] at hs
   have ih := bks_le B (f + (tot l).toNat) (fun k m hm => by
     have := h (k + 1) m (by simpa using hm)
     rw [show Lo.offT (l :: B) (k + 1) = (tot l).toNat + Lo.offT B k from rfl] at this
     rwa [show f + (tot l).toNat + Lo.offT B k = f + ((tot l).toNat + Lo.offT B k) by omega]) (fun m hm => hr m (by simp [hm])) (by omega)
   have hl := len_le_tot l (fun r hx => (hr l (by simp) r hx).1)
   rw [show Lo.offT (l :: B) 0 = 0 from rfl, Nat.add_zero] at h0
   have r1 := Bl.row_le (f := f) (m := l.length) (l := l) (by omega) (by omega) (hr l (by simp)) h0.drv
   have r2 := Vr.put_ten (show (Vr.Pl.row (Bl.nums f l.length l)).length < 18446744073709551616 by omega)
   rw [Lo.bks, List.length_append, Lo.sumT, List.length_cons]
   have r3 : (Bl.bytes f l).length <= 20 * l.length + 34 := by
     rw [Bl.bytes, Sm.Pl.sealed_len, List.length_append]
     omega
   omega
end Pl
end
namespace Pl
structure Lk (mask : Nat) (b c : Bus) : Prop where
 tick : c.tick = b.tick
 len : c.nodes.length = b.nodes.length
 get : ∀ k, mask.testBit k = false -> c.nodes[k]? = b.nodes[k]?
def Lr (mask i : Nat) (xs ys : List Nd) : Prop := ys.length = xs.length /\ ∀ k, mask.testBit (i + k) = false -> ys[k]? = xs[k]?
theorem Lr.cons {mask i : Nat} {x y : Nd} {xs ys : List Nd} (h : Lr mask i (x :: xs) (y :: ys)) : Lr mask (i + 1) xs ys /\ (mask.testBit i = false -> y = x) := by
 refine ⟨⟨by simpa using h.1, fun k hk => ?_⟩, fun hk => ?_⟩
 · have := h.2 (k + 1) (by rw [show i + (k + 1) = i + 1 + k by omega]; exact hk)
   simpa using this
 · have := h.2 0 hk
   simpa using this
theorem put_set (b : Bus) (i : Nat) (f : Fr) (k : Nat) : (b.put i f).nodes[k]? = if i = k then (b.nodes[i]?).map (fun x => { x with queue := pput f x.queue }) else b.nodes[k]? := by
 unfold Bus.put
 cases hx : b.nodes[i]? with
 | none =>
   simp only []
   split
   · rename_i e; subst e; rw [hx]; rfl
   · rfl
 | some x =>
   simp only []
   rw [List.getElem?_set]
   split
   · rename_i e
     subst e
     rw [if_pos (List.getElem?_eq_some_iff.1 hx).1]
     rfl
   · rfl
theorem put_len (b : Bus) (i : Nat) (f : Fr) : (b.put i f).nodes.length = b.nodes.length := by
 unfold Bus.put
 split
 · simp
 · rfl
theorem acts_lk (mask : Nat) (t : Int) : ∀ (l : List Act') (c d : Bus × Nat), Lk mask c.1 d.1 -> (∀ k, mask.testBit k = false -> d.2.testBit k = c.2.testBit k) ->
   Lk mask ((at' l t).foldl Bus.act1 c).1 ((at' (live mask l) t).foldl Bus.act1 d).1 /\ ∀ k, mask.testBit k = false -> ((at' (live mask l) t).foldl Bus.act1 d).2.testBit k = ((at' l t).foldl Bus.act1 c).2.testBit k
 | [], _, _, h, hf => ⟨h, hf⟩
 | a :: l, c, d, h, hf => by
   have hE : live mask (a :: l) = if mask.testBit a.node.toNat then live mask l else a :: live mask l := by
     unfold live
     rw [List.filter_cons]
     cases mask.testBit a.node.toNat <;> rfl
   rw [hE]
   by_cases ht : a.tick = t
   · have e1 : at' (a :: l) t = a :: at' l t := by unfold at'; rw [List.filter_cons, if_pos (decide_eq_true ht)]
     rw [e1, List.foldl_cons]
     by_cases hm : mask.testBit a.node.toNat = true
     · rw [if_pos hm]
       refine acts_lk mask t l _ d ?_ ?_
       · unfold Bus.act1
         split
         · exact h
         · refine ⟨by rw [h.tick]; exact (put_tick _ _ _).symm, by rw [h.len, put_len], fun k hk => ?_⟩
           rw [put_set, if_neg (fun e => by rw [e, hk] at hm; cases hm)]
           exact h.get k hk
       · intro k hk
         unfold Bus.act1
         split
         · rw [Nat.testBit_or, Nat.testBit_two_pow, decide_eq_false (fun e => by rw [e, hk] at hm; cases hm), Bool.or_false]
           exact hf k hk
         · exact hf k hk
     · have hm' : mask.testBit a.node.toNat = false := by simpa using hm
       rw [if_neg hm]
       have e2 : at' (a :: live mask l) t = a :: at' (live mask l) t := by unfold at'; rw [List.filter_cons, if_pos (decide_eq_true ht)]
       rw [e2, List.foldl_cons]
       refine acts_lk mask t l _ _ ?_ ?_
       · unfold Bus.act1
         split
         · exact h
         · refine ⟨by rw [put_tick, put_tick]; exact h.tick, by rw [put_len, put_len]; exact h.len, fun k hk => ?_⟩
           rw [put_set, put_set, h.get _ hm', h.get k hk]
       · intro k hk
         unfold Bus.act1
         split
         · rw [Nat.testBit_or, Nat.testBit_or, hf k hk]
         · exact hf k hk
   · have e1 : ∀ m : List Act', at' (a :: m) t = at' m t := fun m => by unfold at'; rw [List.filter_cons, if_neg (by simpa using ht)]
     have e2 : at' (if mask.testBit a.node.toNat then live mask l else a :: live mask l) t = at' (live mask l) t := by
       split
       · rfl
       · exact e1 _
     rw [e1, e2]
     exact acts_lk mask t l c d h hf
theorem clr_bit (m i j : Nat) (hi : i < 32) (hm : m < 4294967296) : (clr m i).testBit j = (m.testBit j && decide (j ≠ i)) := by
 unfold clr
 rw [Nat.testBit_and]
 by_cases hj : j < 32
 · have h1 := Nat.testBit_two_pow_sub_succ (x := 2 ^ i) (n := 32) (Nat.pow_lt_pow_right (by decide) hi) j
   have e : 4294967295 - 2 ^ i = 2 ^ 32 - (2 ^ i + 1) := by omega
   rw [e, h1, Nat.testBit_two_pow, decide_eq_true hj, Bool.true_and]
   congr 1
   by_cases he : i = j
   · subst he; simp
   · simp [he, show ¬ j = i from fun x => he x.symm]
 · have : m.testBit j = false := Nat.testBit_lt_two_pow (Nat.lt_of_lt_of_le hm (show 4294967296 <= 2 ^ j from Nat.pow_le_pow_right (n := 2) (by decide) (show 32 <= j by omega)))
   rw [this]
   rfl
theorem clr_lt (m i : Nat) (hm : m < 4294967296) : clr m i < 4294967296 := Nat.lt_of_le_of_lt Nat.and_le_left hm
theorem lvls_bit (mask drive : Nat) : ∀ (xs : List Nd) (i m : Nat), i + xs.length <= 32 -> m < 4294967296 -> ∀ j, (lvls mask drive xs i m).testBit j = if i <= j then (match xs[j - i]? with | some x => m.testBit j && !dom mask drive j x | none => m.testBit j) else m.testBit j
 | [], i, m, _, _, j => by simp [lvls]
 | x :: xs, i, m, hl, hm, j => by
   simp only [List.length_cons] at hl
   rw [lvls, lvls_bit mask drive xs (i + 1) _ (by omega) (by split <;> first | exact clr_lt m i hm | exact hm) j]
   have hb : (if dom mask drive i x then clr m i else m).testBit j = (m.testBit j && !(decide (j = i) && dom mask drive i x)) := by
     split
     · rename_i hd
       rw [clr_bit m i j (by omega) hm, hd, Bool.and_true]
       by_cases e : j = i <;> simp [e]
     · rename_i hd
       simp [hd]
   rw [hb]
   by_cases h1 : i + 1 <= j
   · rw [if_pos h1, if_pos (by omega), show j - i = (j - (i + 1)) + 1 by omega, List.getElem?_cons_succ, decide_eq_false (by omega)]
     simp only [Bool.false_and, Bool.not_false, Bool.and_true]
   · rw [if_neg h1]
     by_cases h2 : i = j
     · subst h2
       rw [if_pos (Nat.le_refl _), Nat.sub_self, List.getElem?_cons_zero]
       simp
     · rw [if_neg (by omega), decide_eq_false (fun e => h2 e.symm)]
       simp
theorem lvls_lk (mask drive m : Nat) : ∀ (xs ys : List Nd) (i m' : Nat), Lr mask i xs ys -> (∀ k x, xs[k]? = some x -> drive.testBit (i + k) = !dom 0 m (i + k) x) -> lvls mask drive ys i m' = lvls 0 m xs i m'
 | [], ys, i, m', h, _ => by
   have : ys = [] := List.eq_nil_of_length_eq_zero (by simpa using h.1)
   subst this
   rfl
 | x :: xs, [], i, m', h, _ => by have := h.1; simp at this
 | x :: xs, y :: ys, i, m', h, hd => by
   obtain ⟨h1, h2⟩ := h.cons
   have hk : dom mask drive i y = dom 0 m i x := by
     have h0 := hd 0 x rfl
     rw [Nat.add_zero] at h0
     cases hb : mask.testBit i
     · rw [h2 hb]
       unfold dom
       rw [hb, Nat.zero_testBit]
       rfl
     · unfold dom at *
       rw [hb, if_pos rfl, h0, Bool.not_not]
   rw [lvls, lvls, hk]
   exact lvls_lk mask drive m xs ys (i + 1) _ h1 (fun k z hz => by
     have := hd (k + 1) z (by simpa using hz)
     rwa [show i + 1 + k = i + (k + 1) by omega])
theorem steps_lk (mask f g : Nat) (lv tick : Int) (hf : ∀ k, mask.testBit k = false -> g.testBit k = f.testBit k) : ∀ (xs ys : List Nd) (i : Nat), Lr mask i xs ys ->
   Lr mask i (stepsN f 0 lv xs i) (stepsN g mask lv ys i) /\ stepsE g mask lv tick ys i = (stepsE f 0 lv tick xs i).filter (fun e => !mask.testBit e.node.toNat)
 | [], ys, i, h => by
   have : ys = [] := List.eq_nil_of_length_eq_zero (by simpa using h.1)
   subst this
   exact ⟨⟨rfl, fun _ _ => rfl⟩, rfl⟩
 | x :: xs, [], i, h => by have := h.1; simp at this
 | x :: xs, y :: ys, i, h => by
   obtain ⟨h1, h2⟩ := h.cons
   obtain ⟨g1, g2⟩ := steps_lk mask f g lv tick hf xs ys (i + 1) h1
   refine ⟨⟨by simp [stepsN, g1.1], fun k hk => ?_⟩, ?_⟩
   · cases k with
     | zero =>
       rw [Nat.add_zero] at hk
       rw [stepsN, stepsN, List.getElem?_cons_zero, List.getElem?_cons_zero, hk, Nat.zero_testBit, h2 hk]
       unfold sees
       rw [hf i hk]
     | succ k =>
       rw [stepsN, stepsN, List.getElem?_cons_succ, List.getElem?_cons_succ]
       exact g1.2 k (by rwa [show i + 1 + k = i + (k + 1) by omega])
   · rw [stepsE, stepsE, List.filter_append, g2]
     congr 1
     rw [Nat.zero_testBit]
     simp only [Bool.false_eq_true, if_false]
     cases hb : mask.testBit i
     · rw [h2 hb]
       unfold sees
       rw [hf i hb]
       simp only [Bool.false_eq_true, if_false]
       refine (List.filter_eq_self.2 (fun e he => ?_)).symm
       obtain ⟨z, _, rfl⟩ := List.mem_map.1 he
       show (!mask.testBit ((i : Nat) : Int).toNat) = true
       rw [Int.toNat_natCast, hb]
       rfl
     · rw [if_pos rfl]
       refine (List.filter_eq_nil_iff.2 (fun e he => ?_)).symm
       obtain ⟨z, _, rfl⟩ := List.mem_map.1 he
       show ¬ (!mask.testBit ((i : Nat) : Int).toNat) = true
       rw [Int.toNat_natCast, hb]
       simp
theorem force_lk {mask : Nat} {b c : Bus} (h : Lk mask b c) (h32 : b.nodes.length <= 32) (f g : Nat) (hf : ∀ k, mask.testBit k = false -> g.testBit k = f.testBit k) (drive : Nat) (hd : drive = lvls 0 0 b.nodes 0 4294967295) :
   Lk mask (b.force f 0 0).1 (c.force g mask drive).1 /\ (c.force g mask drive).2.1 = (b.force f 0 0).2.1 /\ (c.force g mask drive).2.2 = (b.force f 0 0).2.2.filter (fun e => !mask.testBit e.node.toNat) := by
 have hr : Lr mask 0 b.nodes c.nodes := ⟨h.len, fun k hk => h.get k (by rwa [Nat.zero_add] at hk)⟩
 have hL : lvls mask drive c.nodes 0 4294967295 = lvls 0 0 b.nodes 0 4294967295 := lvls_lk mask drive 0 b.nodes c.nodes 0 _ hr (fun k x hx => by
   have hk := (List.getElem?_eq_some_iff.1 hx).1
   rw [hd, lvls_bit 0 0 b.nodes 0 4294967295 (by omega) (by decide), if_pos (Nat.zero_le _), Nat.zero_add, Nat.sub_zero, hx]
   simp only []
   rw [show (4294967295 : Nat) = 2 ^ 32 - 1 by rfl, Nat.testBit_two_pow_sub_one, decide_eq_true (by omega), Bool.true_and])
 have hR : c.run mask drive = b.run 0 0 := by unfold Bus.run; rw [hL]
 obtain ⟨s1, s2⟩ := steps_lk mask f g (b.run 0 0).bus b.tick hf b.nodes c.nodes 0 hr
 refine ⟨⟨?_, ?_, fun k hk => ?_⟩, hR, ?_⟩
 · show c.tick + 1 = b.tick + 1
   rw [h.tick]
 · show (stepsN _ _ _ _ _).length = (stepsN _ _ _ _ _).length
   rw [stepsN_length, stepsN_length, h.len]
 · show (stepsN g mask (c.run mask drive).bus c.nodes 0)[k]? = (stepsN f 0 (b.run 0 0).bus b.nodes 0)[k]?
   rw [hR]
   exact s1.2 k (by rwa [Nat.zero_add])
 · show stepsE g mask (c.run mask drive).bus c.tick c.nodes 0 = _
   rw [hR, h.tick]
   exact s2
theorem rs_get (l : List Act') (b : Bus) (t : Nat) : ∀ T, t < T -> (Bus.rs l b T)[t]? = some (Bus.tick1 l (Bus.after l b t)).2.1
 | 0, h => by omega
 | T + 1, h => by
   rw [Bus.rs]
   by_cases e : t < T
   · rw [List.getElem?_append_left (by rw [rs_length]; exact e)]
     exact rs_get l b t T e
   · have : t = T := by omega
     subst this
     rw [List.getElem?_append_right (by rw [rs_length]; exact Nat.le_refl _), rs_length, Nat.sub_self]
     rfl
theorem res_lk {n : Nat} {l : List Act'} (hl : ∀ a ∈ l, 0 <= a.node /\ a.node < n) (h32 : n <= 32) (mask T : Nat) : ∀ t, t <= T ->
   Lk mask (Bus.after l (Bus.fresh n) t) (Bus.res (live mask l) mask (jn (Bus.rs l (Bus.fresh n) T)) (Bus.fresh n) (List.range t)).1 /\
   (Bus.res (live mask l) mask (jn (Bus.rs l (Bus.fresh n) T)) (Bus.fresh n) (List.range t)).2.1 = Bus.rs l (Bus.fresh n) t /\
   (Bus.res (live mask l) mask (jn (Bus.rs l (Bus.fresh n) T)) (Bus.fresh n) (List.range t)).2.2 = (Bus.es l (Bus.fresh n) t).filter (fun e => !mask.testBit e.node.toNat)
 | 0, _ => ⟨⟨rfl, rfl, fun _ _ => rfl⟩, rfl, rfl⟩
 | t + 1, ht => by
   obtain ⟨h1, h2, h3⟩ := res_lk hl h32 mask T t (by omega)
   obtain ⟨ga, gt⟩ := after_good (fresh_good n) hl t
   rw [List.range_succ, Bus.res_snoc, Bus.re]
   generalize hs : Bus.res (live mask l) mask (jn (Bus.rs l (Bus.fresh n) T)) (Bus.fresh n) (List.range t) = s at *
   have hbt : (Bus.after l (Bus.fresh n) t).tick = (t : Int) := by rw [gt]; simp [Bus.fresh]
   have hA := acts_lk mask t l (Bus.after l (Bus.fresh n) t, 0) (s.1, 0) h1 (fun _ _ => rfl)
   obtain ⟨a1, a2, a3⟩ := acted_good (at' l t) (Bus.after l (Bus.fresh n) t, 0) ga (Nat.pow_pos (by decide)) (fun a ha => hl a (at_mem ha))
   have hdr : (tk (jn (Bus.rs l (Bus.fresh n) T)) t).drv.toNat = lvls 0 0 ((at' l t).foldl Bus.act1 (Bus.after l (Bus.fresh n) t, 0)).1.nodes 0 4294967295 := by
     unfold tk
     rw [rs_ex, List.getD_eq_getElem?_getD]
     have hg : (Bus.rs l (Bus.fresh n) T)[t]? = some (Bus.tick1 l (Bus.after l (Bus.fresh n) t)).2.1 := rs_get l (Bus.fresh n) t T (by omega)
     rw [hg]
     show ((Bus.tick1 l (Bus.after l (Bus.fresh n) t)).2.1.drv).toNat = _
     unfold Bus.tick1
     rw [hbt]
     show (((lvls 0 0 _ 0 4294967295 : Nat) : Int)).toNat = _
     rw [Int.toNat_natCast]
     rfl
   obtain ⟨f1, f2, f3⟩ := force_lk hA.1 (by rw [a1.len]; exact h32) _ _ hA.2 _ hdr
   have e1 : Bus.tick1 l (Bus.after l (Bus.fresh n) t) = (((at' l t).foldl Bus.act1 (Bus.after l (Bus.fresh n) t, 0)).1).force ((at' l t).foldl Bus.act1 (Bus.after l (Bus.fresh n) t, 0)).2 0 0 := by
     unfold Bus.tick1
     rw [hbt]
     rfl
   rw [Bus.after, Bus.rs, Bus.es, e1, List.filter_append]
   refine ⟨f1, ?_, ?_⟩
   · show s.2.1 ++ [_] = _
     rw [h2]
     exact congrArg (fun z => Bus.rs l (Bus.fresh n) t ++ [z]) f2
   · show s.2.2 ++ _ = _
     rw [h3]
     exact congrArg (fun z => List.filter _ (Bus.es l (Bus.fresh n) t) ++ z) f3
end Pl
section
namespace Lo
structure InW (B : List (List Run)) (w : World) (b g pf : Nat) (most : Int) (F0 : List Nat) (k : Nat) (wt : List Run) (W : World) : Prop where
 ex : ∃ q1 q2 q3 qf Af cf nf sf, LogAt W b g pf q1 q2 q3 (wrB B k) (esB B k) wt /\ FileAt W b pf qf Af cf nf (bks 0 (B.take k)) sf most /\ ∀ j ∈ lfp g q1 q2 q3 ++ ffp pf qf, j ∈ F0 ∨ w.heap.size <= j
 ch : Ch F0 w W
theorem bks_take_succ {B : List (List Run)} {k : Nat} {l : List Run} (h : B[k]? = some l) : bks 0 (B.take (k + 1)) = bks 0 (B.take k) ++ Bl.bytes (offT B k) l := by
 rw [take_succ h, bks_app]
 simp [bks, offT]
theorem InW.keep {B : List (List Run)} {w : World} {b g pf : Nat} {most : Int} {F0 : List Nat} {k : Nat} {wt : List Run} {W W' : World} (h : InW B w b g pf most F0 k wt W) (hc : Ch [] W W') : InW B w b g pf most F0 k wt W' := by
 obtain ⟨⟨q1, q2, q3, qf, Af, cf, nf, sf, h1, h2, h3⟩, h4⟩ := h
 exact ⟨⟨q1, q2, q3, qf, Af, cf, nf, sf, h1.on hc, h2.on hc, h3⟩, h4.then hc.any⟩
section
variable {R : List Run} {e T N : Nat} {w W : World} {b g pf : Nat} {most : Int} {F0 : List Nat} {k : Nat}
theorem InW.append (hR : Rec R e T N) (h : InW (ptsB R e T N) w b g pf most F0 k [] W) (hk : k < N)
   (X : Option Addr) (cx mx : Nat) (hmx : (Pl.jn (Pl.btw ((k * e : Nat) : Int) ((min (k * e + e) T : Nat) : Int) R 0)).length = mx) (hX : Rd Rv W X cx (Pl.jn (Pl.btw ((k * e : Nat) : Int) ((min (k * e + e) T : Nat) : Int) R 0))) :
   Calls Tryz.prog 47 #[.pointer (some ⟨g, 0, none⟩), .slice X mx cx] W fun e' w1 => e' = .returned (.int .i64 0) /\ InW (ptsB R e T N) w b g pf most F0 k (ptB R e T k) w1 := by
 obtain ⟨⟨q1, q2, q3, qf, Af, cf, nf, sf, h1, h2, h3⟩, h4⟩ := h
 obtain ⟨p1, p2, p3⟩ := hR.part hk
 have hT := hR.T9
 have he := hR.e1
 have hlo := hR.lo k hk
 have hoff := hR.offT k (by omega)
 have j1 := Pl.jn_facts _ (fun r hr => (p1 r hr).1)
 have hr := Pl.jn_right p1 (by rw [p3]; omega)
 have hlen := Pl.len_le_tot _ (fun r hr' => (hr r hr').1)
 rw [j1.1, p3, hmx] at hlen
 have hpos : 0 < mx := by
   rcases Nat.eq_zero_or_pos mx with h0 | h0
   · rw [h0] at hmx
     have := List.eq_nil_of_length_eq_zero hmx
     have h9 := j1.1
     rw [this, p3] at h9
     simp [Pl.tot] at h9
     omega
   · exact h0
 refine (append_calls b g pf q1 q2 q3 _ [] _ X cx mx _ hmx hpos hr (by simp) ?_ ?_ (by simp; omega) W h1 hX).mono ?_
 · rw [lastE_esB]
   simp
 · rw [lastE_esB, j1.1, p3]
   simp only [Pl.tot, hoff]
   omega
 · rintro e' w1 ⟨rfl, q3', hL, hC, hq⟩
   have npf : pf ∉ [g] := fun hm => by
     have h9 := h2.blk
     rw [List.mem_singleton.1 hm] at h9
     exact h1.noT h9 (by decide) (by simp [lfp])
   refine ⟨rfl, ⟨q1, q2, q3', qf, Af, cf, nf, sf, hL, h2.keep hC npf (fun j hj hm => ?_), fun j hj => ?_⟩, h4.trans hC (fun j hj => ?_)⟩
   · have h9 := h2.row
     rw [hj] at h9
     obtain ⟨cur, hb⟩ := h9.blk
     rw [List.mem_singleton.1 hm] at hb
     exact h1.noT hb (by decide) (by simp [lfp])
   · simp [lfp] at hj
     rcases hj with hj | hj | hj | hj | hj
     · exact h3 j (by simp [lfp, hj])
     · exact h3 j (by simp [lfp, hj])
     · exact h3 j (by simp [lfp, hj])
     · have := hq j hj
       have := h4.size
       exact .inr (by omega)
     · exact h3 j (by simp [hj])
   · rw [List.mem_singleton.1 hj]
     exact h3 g (by simp [lfp])
theorem InW.flush (hR : Rec R e T N) (h : InW (ptsB R e T N) w b g pf most F0 k (ptB R e T k) W) (hk : k < N) (hN : N <= 90) (hmost : most <= 67108864) (hfit : ((bks 0 (ptsB R e T N)).length : Int) <= most) :
   Calls Tryz.prog 48 #[.pointer (some ⟨g, 0, none⟩)] W fun e' w1 => e' = .returned (.int .i64 0) /\ InW (ptsB R e T N) w b g pf most F0 (k + 1) [] w1 := by
 obtain ⟨⟨q1, q2, q3, qf, Af, cf, nf, sf, h1, h2, h3⟩, h4⟩ := h
 obtain ⟨ok1, ok2⟩ := hR.ok hk
 have hl := ptsB_get (R := R) (e := e) (T := T) hk
 have hle := offB_le hl
 have hso := offB_succ hl
 have hsT := offT_succ hl
 have hBL : (ptsB R e T N).length = N := by simp [ptsB]
 have hok : OkB (ptsB R e T N) := ⟨fun i l hi => by
   have hi2 : i < N := by rw [<- hBL]; exact (List.getElem?_eq_some_iff.1 hi).1
   rw [ptsB_get hi2] at hi
   cases hi
   exact hR.ok hi2, by omega⟩
 obtain ⟨f1, f2, f3⟩ := wrB_facts hok k (by rw [hBL]; omega)
 have hnf : nf = offB (ptsB R e T N) k := by rw [<- h2.len]; rfl
 have t0 : 0 <= Pl.tot (ptB R e T k) := by rw [hR.ptot hk]; omega
 refine (flush_calls b g pf q1 q2 q3 _ _ _ qf Af cf nf _ sf most (offT (ptsB R e T N) k) (Bl.bytes (offT (ptsB R e T N) k) (ptB R e T k)).length (offB (ptsB R e T N) k : Nat) rfl (by rw [lastE_esB]) (by rw [lastE_esB]) (by omega) ok1 (by omega) (by omega) (by simp [esB]; omega)
   (fun r hr => (List.mem_append.1 hr).elim (f1 r) (fun h => (ok1.rgt r h).1)) (by rw [Pl.tot_app, f2]; exact ok1.ends) W h1 h2).mono ?_
 rintro e' w1 ⟨rfl, q1', q2', qf', Af', cf', hL, hF, hC, hfr⟩
 have h4s := h4.size
 have sub : ∀ j, j ∈ lfp g q1 q2 none ++ ffp pf qf -> j ∈ F0 ∨ w.heap.size <= j := fun j hj => h3 j (by
   simp [lfp] at hj ⊢
   rcases hj with h | h | h | h <;> simp [h])
 rw [<- bks_take_succ hl] at hF
 refine ⟨rfl, ⟨q1', q2', none, qf', Af', cf', _, _, ?_, hF, fun j hj => ?_⟩, h4.trans hC (fun j hj => sub j hj)⟩
 · rw [wrB_succ hl, esB_succ, hso, hsT, Int.natCast_add, Int.natCast_add, Int.toNat_of_nonneg t0]
   exact hL
 · rcases hfr j hj with h | h
   · exact sub j h
   · exact .inr (by omega)
end
end Lo
end
namespace Lo
set_option maxRecDepth 100000 in
theorem bwrite_calls {R : List Run} {e T N : Nat} (hR : Rec R e T N) (hN : N <= 90) (b g pf gt : Nat) (most : Int) (hmost : most <= 67108864) (hfit : ((bks 0 (ptsB R e T N)).length : Int) <= most) (F0 : List Nat) (cs : List Value) (hcs : cs[0]? = some (.pointer (some ⟨g, 0, none⟩)))
   (A : Option Addr) (c m : Nat) (hm : R.length = m) (hm9 : m <= 1000000) (w : World) (hW : InW (ptsB R e T N) w b g pf most F0 0 [] w) (hT : Cs w gt 74 cs) (hgt : gt ∉ F0) (hX : Rd Rv w A c R) (hA : ∀ g' o s, A = some ⟨g', o, s⟩ -> g' ∉ F0) :
   Calls Tryz.prog 21 #[.pointer (some ⟨gt, 0, none⟩), .slice A m c, .int .i64 T, .int .i64 e] w fun e' w' => e' = .returned (.int .i64 0) /\ InW (ptsB R e T N) w b g pf most F0 N [] w' := by
 have hT9 := hR.T9
 have he1 := hR.e1
 have he9 := hR.e9
 have HR := Ad hR
 have HM := Ad hm
 have HW := Ad hW
 have HT := Ad hT
 have HX := Ad hX
 have HA := Ad hA
 have HG := Ad hgt
 have HC := Ad hcs
 have HF := Ad (And.intro hN (And.intro hmost hfit))
 clear hR hm hW hT hX hA hgt hcs hfit hN hmost
 go_enter Tryz.func21, Tryz.ntmps21
 go_wp2
 go_loopw [9] (fun fr wr => ∃ k : Nat, k <= N /\ fr = .int .i64 (k * e : Nat) /\ Aside0 (InW (ptsB R e T N) w b g pf most F0 k [] wr)) (fun fr _ => T + 1 - (intOf fr).toNat)
 case atStart => exact ⟨0, by omega, by simp, HW⟩
 case round =>
   obtain ⟨k, hk, rfl, HI⟩ := hrel
   by_cases hlt : k < N
   · have hlo := HR.out.lo k hlt
     have T0 := HT.out.keep HI.out.ch HG.out
     have x0 : wr.cell? ⟨gt, 0, none⟩ = some (.pointer (some ⟨g, 0, none⟩)) := T0.cell HC.out
     have lx := T0.lt
     have X0 := Ad (HX.out.keep HI.out.ch HA.out)
     have TC := Ad (fun (W : World) (hc : Ch [] wr W) => cut_calls A c m R HM.out hm9 HR.out.rgt (by rw [HR.out.tot]; omega) ((k * e : Nat) : Int) ((min (k * e + e) T : Nat) : Int) (by omega) (by omega) (by rw [HR.out.tot]; omega) W (X0.out.on hc))
     have KS := Ad (show (k + 1) * e = k * e + e from by rw [Nat.add_mul, Nat.one_mul])
     have AP := Ad (fun (W : World) (X : Option Addr) (cx mx : Nat) (hi : InW (ptsB R e T N) w b g pf most F0 k [] W) (hmx : (Pl.jn (Pl.btw ((k * e : Nat) : Int) ((min (k * e + e) T : Nat) : Int) R 0)).length = mx) (hX : Rd Rv W X cx (Pl.jn (Pl.btw ((k * e : Nat) : Int) ((min (k * e + e) T : Nat) : Int) R 0))) => hi.append HR.out hlt X cx mx hmx hX)
     have FL := Ad (fun (W : World) (hi : InW (ptsB R e T N) w b g pf most F0 k (ptB R e T k) W) => hi.flush HR.out hlt HF.out.1 HF.out.2.1 HF.out.2.2)
     have TX := Ad T0
     clear T0
     generalize hp : k * e = p at *
     clear hp
     rcases Decidable.em (p + e <= T) with hmn | hmn
     case' inl =>
       have em : ((min (p + e) T : Nat) : Int) = (p : Int) + e := by omega
       have h0 : (p : Int) + e <= T := by omega
       rw [em] at TC AP
       clear em
     case' inr =>
       have em : ((min (p + e) T : Nat) : Int) = T := by omega
       have h0 : ¬ (p : Int) + e <= T := by omega
       rw [em] at TC AP
       clear em
     all_goals
       go_wp2_with fail
       refine (TC.out wr (Ch.refl _ _)).mono ?_
       rintro ee w2 ⟨A2, c2, q2, m2, rfl, ⟨hm2, hO2⟩, hC2⟩
       have I2 := Ad (HI.out.keep hC2)
       have O2 := Ad hO2
       have M2 := Ad hm2
       have x2 := hC2.cell x0 (by simp)
       have lx2 := Nat.lt_of_lt_of_le lx hC2.size
       clear hO2 hm2 hC2 x0 lx TC
       go_wp2_with fail
       refine (AP.out w2 A2 c2 m2 I2.out M2.out O2.out.rd).mono ?_
       rintro ee w3 ⟨rfl, hI3⟩
       have I3 := Ad hI3
       have T3 := HT.out.keep hI3.ch HG.out
       have x3 : w3.cell? ⟨gt, 0, none⟩ = some (.pointer (some ⟨g, 0, none⟩)) := T3.cell HC.out
       have lx3 := T3.lt
       clear hI3 T3 x2 lx2 AP
       go_wp2_with fail
       refine (FL.out w3 I3.out).mono ?_
       rintro ee w4 ⟨rfl, hI4⟩
       have I4 := Ad hI4
       clear hI4 x3 lx3 FL I3
       go_wp2
       go_roundw
       case rel => exact ⟨k + 1, by omega, by rw [KS.out]; go_num, I4⟩
       case measure => simp [intOf]; omega
   · have hkn : k = N := by omega
     subst hkn
     have hhi := HR.out.hi
     generalize hp : k * e = p at *
     clear hp
     have hge : ¬ (p : Int) < T := by omega
     go_wp2
     go_ret
     exact ⟨rfl, HI.out⟩
end Lo
theorem Rd.keep2 {α : Type} {E : El α} {w w' : World} {A : Option Addr} {c : Nat} {l : List α} (h : Rd E w A c l) {F : List Nat} (hc : Ch F w w') (hF : 0 < l.length -> ∀ g o s, A = some ⟨g, o, s⟩ -> g ∉ F) : Rd E w' A c l := by
 by_cases h0 : 0 < l.length
 · exact h.keep hc (hF h0)
 · have e : l = [] := List.eq_nil_of_length_eq_zero (by omega)
   subst e
   exact ⟨h.cap, h.big, fun hl => absurd hl h0⟩
namespace Lo
set_option maxRecDepth 100000 in
theorem record_calls (n T e N : Nat) (l : List Act') (A : Option Addr) (c m : Nat) (hm : l.length = m) (hm1 : m <= 1000) (hwf : ∀ a ∈ l, a.f.wf) (hchk : Pl.chk n l = 0) (he9 : e <= 1000)
   (hR : Rec (Pl.jn (Pl.Bus.rs l (Pl.Bus.fresh n) T)) e T N) (hN : N <= 90) (b pf : Nat) (qf : Option Nat) (Af : Option Addr) (cf sf : Nat) (most : Int) (hmost : most <= 67108864) (hfit : ((bks 0 (ptsB (Pl.jn (Pl.Bus.rs l (Pl.Bus.fresh n) T)) e T N)).length : Int) <= most)
   (w : World) (hF : FileAt w b pf qf Af cf 0 [] sf most) (h : Rd Av w A c l) (hA : 0 < l.length -> ∀ g' o s, A = some ⟨g', o, s⟩ -> g' ∉ ffp pf qf) :
   Calls Tryz.prog 7 #[.pointer (some ⟨pf, 0, none⟩), .int .i64 n, .int .i64 T, .int .i64 e, .slice A m c] w fun e' w' => ∃ gt g Aa ca Ae ce me qe Ab cb nb qf' Af' cf' sf', e' = .returned (.tuple #[.pointer (some ⟨gt, 0, none⟩), .int .i64 0]) /\
     Cs w' gt 74 [.pointer (some ⟨g, 0, none⟩), .int .i64 n, .slice Aa m ca, .slice Ae me ce, .slice Ab nb cb] /\ ((Pl.Bus.es l (Pl.Bus.fresh n) T).length = me /\ Ow Evv w' w.heap.size qe Ae ce (Pl.Bus.es l (Pl.Bus.fresh n) T)) /\
     FileAt w' b pf qf' Af' cf' nb (bks 0 (ptsB (Pl.jn (Pl.Bus.rs l (Pl.Bus.fresh n) T)) e T N)) sf' most /\ Ch (ffp pf qf) w w' := by
 have BC := bcheck_calls n A c m l hm hwf w h
 rw [hchk] at BC
 have hT9 := hR.T9
 have he1 := hR.e1
 have OB : OkB [] := ⟨by simp, by simp [bks]⟩
 have OC := Ad (fun (W : World) (hc : Ch [] w W) => open_calls [] OB (by simp) b pf qf Af cf 0 sf most W (hF.on hc))
 have PC := Ad (fun (W : World) (hX : Rd Av W A c l) => play_calls n T A c m l hm hm1 hwf hchk hT9 W hX)
 have CC := Ad (fun (W : World) (hX : Rd Av W A c l) => clone_act A c m l hm (by omega) W hX)
 have H := Ad h
 have HF := Ad hF
 have HA := Ad hA
 have HR := Ad hR
 have HS := Ad (And.intro hN (And.intro hmost hfit))
 have BCH := Ad BC
 clear BC hR hF h hA hwf hchk hN hmost hfit OB hm
 have f1 : ¬ (T : Int) < 0 := by omega
 have f2 : ¬ (1048576 : Int) < T := by omega
 have f3 : ¬ (e : Int) < 1 := by omega
 have f4 : ¬ (4096 : Int) < e := by omega
 go_enter Tryz.func7, Tryz.ntmps7
 go_wp2_with fail
 refine BCH.out.mono ?_
 rintro ee w2 ⟨rfl, hC⟩
 have C2 := Ad hC
 clear hC BCH
 go_wp2_with fail
 refine (OC.out w2 C2.out).mono ?_
 rintro ee w3 ⟨g, q1, q2, rfl, hL, hF3, hC3, hge⟩
 have L3 := Ad hL
 have F3 := Ad hF3
 have C3 := Ad hC3
 have GE := Ad hge
 clear hL hF3 hC3 hge OC
 go_wp2_with fail
 have LT := Ad (lticks_calls b g pf q1 q2 none (wrB [] 0) [] (esB [] 0) (by simp) (by simp [Pl.tot]) (by simp [Pl.tot]) (by rw [lastE_esB]; simp [offT, sumT]) w3 L3.out)
 rw [show (lastE (esB [] 0)).ticks + Pl.tot [] = 0 from by rw [lastE_esB]; simp [offT, sumT, Pl.tot]] at LT
 refine LT.out.mono ?_
 rintro ee w4 ⟨rfl, hC4⟩
 have C4 := Ad hC4
 have FP := Ad (show ∀ j, j ∈ ffp pf qf -> j < w.heap.size from fun j hj => (HF.out.fp_ge j hj).2)
 have R4 := Ad (((H.out.on C2.out).keep2 C3.out (fun h0 g' o s e hm => HA.out h0 g' o s e (by rw [List.mem_singleton.1 hm]; simp [ffp]))).on hC4)
 have L4 := Ad (L3.out.on hC4)
 have F4 := Ad (F3.out.on hC4)
 have W4 := Ad (show Ch [pf] w w4 from (C2.out.any.then C3.out).then hC4.any)
 clear hC4 LT L3 F3 f1 f2 f3 f4
 go_wp2_with fail
 refine (PC.out w4 R4.out).mono ?_
 rintro ee w5 ⟨A5, c5, q5, m5, A6, c6, q6, m6, rfl, ⟨hm5, hO5⟩, ⟨hm6, hO6⟩, hC5⟩
 have O5 := Ad hO5
 have O6 := Ad hO6
 have M5 := Ad hm5
 have M6 := Ad hm6
 have C5 := Ad hC5
 clear hO5 hO6 hm5 hm6 hC5 PC
 go_wp2_with fail
 refine (CC.out w5 (R4.out.on C5.out)).mono ?_
 rintro ee w6 ⟨A7, c7, q7, rfl, hO7, hC7⟩
 have C7 := Ad hC7
 clear hC7 hO7 CC
 go_wp2_with fail
 have CA := Ad ((Ch.refl [] w6).alloc (.cells #[Value.pointer (some ⟨g, 0, none⟩), .int .i64 n, .slice A7 m c7, .slice A6 m6 c6, .slice none 0 0] 74))
 have DT := Ad (Cs.new w6 [Value.pointer (some ⟨g, 0, none⟩), .int .i64 n, .slice A7 m c7, .slice A6 m6 c6, .slice none 0 0] 74)
 have C47 := Ad (((C5.out.then C7.out).then CA.out))
 have F0L := Ad (show ∀ j, j ∈ lfp g q1 q2 none ++ ffp pf qf -> j < w4.heap.size from fun j hj => by
   rcases List.mem_append.1 hj with hj | hj
   · obtain ⟨-, cur, T', h1, -⟩ := L4.out.kinds j hj
     exact blk_lt h1
   · have := FP.out j hj
     have := W4.out.size
     omega)
 have S45 := Ad (C5.out.then C7.out).size
 have IW := Ad (show InW (ptsB (Pl.jn (Pl.Bus.rs l (Pl.Bus.fresh n) T)) e T N) (w6.alloc (.cells #[Value.pointer (some ⟨g, 0, none⟩), .int .i64 n, .slice A7 m c7, .slice A6 m6 c6, .slice none 0 0] 74)) b g pf most (lfp g q1 q2 none ++ ffp pf qf) 0 [] (w6.alloc (.cells #[Value.pointer (some ⟨g, 0, none⟩), .int .i64 n, .slice A7 m c7, .slice A6 m6 c6, .slice none 0 0] 74)) from
   ⟨⟨q1, q2, none, qf, Af, 0, 0, sf, L4.out.on C47.out, F4.out.on C47.out, fun j hj => .inl hj⟩, Ch.refl _ _⟩)
 have m59 : m5 <= 1000000 := by
   rw [<- M5.out]
   have h1 := Pl.len_le_tot _ (fun r hr => (HR.out.rgt r hr).1)
   rw [HR.out.tot] at h1
   omega
 refine (bwrite_calls HR.out HS.out.1 b g pf w6.heap.size most HS.out.2.1 HS.out.2.2 (lfp g q1 q2 none ++ ffp pf qf) [Value.pointer (some ⟨g, 0, none⟩), .int .i64 n, .slice A7 m c7, .slice A6 m6 c6, .slice none 0 0] rfl A5 c5 m5 M5.out m59 _ IW.out DT.out (fun hm => by have := F0L.out _ hm; have := S45.out; omega) (((O5.out.on C7.out).on CA.out).rd) (fun g' o s ea hm => by
   have h1 := F0L.out _ hm
   rcases O5.out.addr with ⟨h2, _⟩ | ⟨g9, h2, h3⟩
   · rw [h2] at ea; cases ea
   · rw [h2] at ea
     obtain rfl : g9 = g' := by cases ea; rfl
     have := (O5.out.size g9 h3).1
     omega)).mono ?_
 rintro ee w8 ⟨rfl, hI⟩
 obtain ⟨⟨q1', q2', q3', qf', Af', cf', nf', sf', hL8, hF8, hfr⟩, hch⟩ := hI
 have F8 := Ad hF8
 have C8 := Ad hch
 have nF : ∀ j, w4.heap.size <= j -> j ∉ lfp g q1 q2 none ++ ffp pf qf := fun j hj hm => by have := F0L.out j hm; omega
 have D8 := Ad (DT.out.keep hch (nF _ S45.out))
 have E8 := Ad (((O6.out.on C7.out).on CA.out).keep hch (fun j hj => nF j (O6.out.size j hj).1))
 have y0 := hF8.cells.1
 have lp := hF8.blk.lt
 have ld := D8.out.lt
 clear hL8 hF8 hfr hch nF IW
 go_wp2_with fail
 refine (Fl.bytes_calls pf Af' cf' nf' _ F8.out.len (by have := F8.out.fits; have := F8.out.rng; omega) w8 y0 F8.out.row.rd).mono ?_
 rintro ee w9 ⟨A9, c9, q9, rfl, hO9, hC9⟩
 have C9 := Ad hC9
 have D9 := Ad (D8.out.on hC9)
 have F9 := Ad (F8.out.on hC9)
 have E9 := Ad (E8.out.on hC9)
 have ld9 := D9.out.lt
 clear hC9 hO9 y0 lp ld
 go_wp2_with (refine wpList_put_Cs rfl 64 (.tmp 88) (.tmp 85) rfl 4 (.slice A9 nf' c9) (by rfl) (by rfl) size64 rfl D9.out (show 4 < 5 by decide) ?_)
 intro w10 hd hc
 go_wp2
 go_ret2
 have BT : (ptsB (Pl.jn (Pl.Bus.rs l (Pl.Bus.fresh n) T)) e T N).take N = ptsB (Pl.jn (Pl.Bus.rs l (Pl.Bus.fresh n) T)) e T N := List.take_of_length_le (by simp [ptsB])
 have FZ := F9.out.keep hc (fun hm => F9.out.noT D9.out (by decide) (by rw [<- List.mem_singleton.1 hm]; simp [ffp])) (fun j hj hm => F9.out.noT D9.out (by decide) (by rw [<- List.mem_singleton.1 hm]; simp [ffp, hj]))
 rw [BT] at FZ
 have z1 := W4.out.size
 have z2 := C2.out.size
 have z3 := S45.out
 refine ⟨w6.heap.size, g, A7, c7, A6, c6, m6, q6, A9, c9, nf', qf', Af', cf', sf', rfl, hd, ⟨M6.out, (E9.out.keep hc (fun j hj hm => by rw [List.mem_singleton.1 hm] at hj; exact E9.out.ne D9.out (by decide) hj)).less z1⟩, FZ, ?_⟩
 have s1 : Ch (ffp pf qf) w w4 := W4.out.sub (fun j hj => by simp [ffp] at hj ⊢; exact .inl hj)
 have s2 := (s1.then C47.out.any).trans C8.out (fun j hj => by
   rcases List.mem_append.1 hj with h | h
   · have := GE.out j h
     exact .inr (by omega)
   · exact .inl h)
 exact (s2.then C9.out.any).trans hc (fun j hj => by rw [List.mem_singleton.1 hj]; exact .inr (by omega))
end Lo
def Pl.dlv (node : Int) (l : List Ev) : List Pl.Fr := (l.filter (fun x => decide (x.node = node /\ x.kind = 2))).map (·.f)
theorem Pl.dlv_snoc (node : Int) (l : List Ev) (x : Ev) : Pl.dlv node (l ++ [x]) = Pl.dlv node l ++ if x.node = node /\ x.kind = 2 then [x.f] else [] := by
 unfold Pl.dlv
 rw [List.filter_append, List.map_append]
 congr 1
 by_cases h : x.node = node /\ x.kind = 2
 · simp [h]
 · rw [if_neg h]
   simp [h]
namespace Lo
set_option maxRecDepth 100000 in
theorem delivered_calls (gt n node : Nat) (hn : node < n) (hn9 : n <= 1000) (v0 v2 v4 : Value) (A : Option Addr) (c m : Nat) (l : List Ev) (hm : l.length = m) (hm9 : m <= 1000000) (w : World) (hT : Cs w gt 74 [v0, .int .i64 n, v2, .slice A m c, v4]) (h : Rd Evv w A c l) :
   Calls Tryz.prog 18 #[.pointer (some ⟨gt, 0, none⟩), .int .i64 node] w fun e w' => ∃ A' c' q' m', e = .returned (.tuple #[.slice A' m' c', .int .i64 0]) /\ ((Pl.dlv node l).length = m' /\ Ow Fv w' w.heap.size q' A' c' (Pl.dlv node l)) /\ Ch [] w w' := by
 have x1 : w.cell? ⟨gt, 1, none⟩ = some (.int .i64 n) := hT.cell rfl
 have x3 : w.cell? ⟨gt, 3, none⟩ = some (.slice A m c) := hT.cell rfl
 have f1 : ¬ (node : Int) < 0 := by omega
 have f2 : ¬ (n : Int) <= node := by omega
 have hlen := h.len63 hm
 have H := Ad h
 have HM := Ad hm
 have NO := Ad (Ow.nil Fv w w.heap.size)
 clear hT h hm
 go_enter Tryz.func18, Tryz.ntmps18
 go_wp2
 clear x1 x3
 go_loopw [6, 30] (fun v i wr => ∃ k : Nat, k <= m /\ i = .int .i64 k /\ (∃ A' c' q' m', v = .slice A' m' c' /\ Aside0 ((Pl.dlv node (l.take k)).length = m' /\ m' <= k /\ Ow Fv wr w.heap.size q' A' c' (Pl.dlv node (l.take k)))) /\ Aside0 (Ch [] w wr)) (fun _ i _ => m - (intOf i).toNat)
 case atStart => exact ⟨0, by omega, rfl, ⟨none, 0, none, 0, rfl, ⟨rfl, Nat.le_refl _, NO.out⟩⟩, ⟨Ch.refl _ _⟩⟩
 case round =>
   obtain ⟨k, hk, rfl, ⟨A1, c1, q1, m1, rfl, OW⟩, CW⟩ := hrel
   by_cases hlt : k < m
   · obtain ⟨x, hx⟩ : ∃ x, l[k]? = some x := ⟨_, List.getElem?_eq_getElem (by rw [HM.out]; exact hlt)⟩
     obtain ⟨g, o, rfl, hrc⟩ := (H.out.on CW.out).cells hx
     have R := Ad (show wr.rangeAt g (o + k * 15) (Evv.enc x) from fun j v hv => hrc j v hv)
     have DS := Ad (show Pl.dlv node (l.take (k + 1)) = Pl.dlv node (l.take k) ++ (if x.node = (node : Int) /\ x.kind = 2 then [x.f] else []) from by rw [List.take_add_one, hx, Option.toList_some]; exact Pl.dlv_snoc node (l.take k) x)
     have k0 : (0 : Int) <= (k : Int) := by omega
     have k1 : (k : Int) < (m : Int) := by omega
     have DN := Ad (Cs.new wr ([Value.int .i64 0, .int .i64 0, .int .i64 0] ++ zf) 51)
     have CN := Ad ((Ch.refl [] wr).alloc (.cells ([Value.int .i64 0, .int .i64 0, .int .i64 0] ++ zf).toArray 51))
     have P1 := Ad (show ∀ u ∈ Evv.enc x, u.oneCell' = true from fun u hu => Evv.hone x u hu)
     clear hrc hx
     go_wp2_with (first | refine wpList_load_mid rfl 51 (.tmp 32) rfl g (o + k * 15) (by rfl) (Evv.enc x) _ R.out Tryz.underlying51 rfl size51 ?_ | refine wpList_store_all rfl 51 (.tmp 8) (.tmp 33) rfl (Evv.enc x) (by rfl) (by rfl) DN.out rfl size51 P1.out ?_)
     intro wa ha ca
     have CA := Ad (show Ch [] wr wa from CN.out.trans ca (by simp))
     have DA := Ad ha
     have a1 : wa.cell? ⟨wr.heap.size, 1, none⟩ = some (.int .i64 x.node) := ha.cell (by rfl)
     have a2 : wa.cell? ⟨wr.heap.size, 2, none⟩ = some (.int .i64 x.kind) := ha.cell (by rfl)
     have hal := ha.lt
     have OA := Ad (OW.out.2.2.on CA.out)
     have AP := Ad (show ∀ j v, (frc x.f)[j]? = some v -> (Evv.enc x)[3 + j]? = some v from fun j v hv => by
       show (Value.int .i64 x.tick :: .int .i64 x.node :: .int .i64 x.kind :: frc x.f)[3 + j]? = some v
       rw [show 3 + j = j + 1 + 1 + 1 by omega, List.getElem?_cons_succ, List.getElem?_cons_succ, List.getElem?_cons_succ]
       exact hv)
     have hm1 : m1 <= k := OW.out.2.1
     clear ha ca DN CN R P1
     by_cases hnd : x.node = (node : Int) /\ x.kind = 2
     · have t1 : (x.node == (node : Int)) = true := by rw [beq_iff_eq]; exact hnd.1
       have t2 : (x.kind == 2) = true := by rw [beq_iff_eq]; exact hnd.2
       have DS2 := Ad (show Pl.dlv node (l.take (k + 1)) = Pl.dlv node (l.take k) ++ [x.f] from by rw [DS.out, if_pos hnd])
       have CB := Ad ((Ch.refl [] wa).alloc (.cells #[Value.int .i64 x.f.id, .bool x.f.ext, .bool x.f.rtr, .int .i64 x.f.len, .int .u8 x.f.d0, .int .u8 x.f.d1, .int .u8 x.f.d2, .int .u8 x.f.d3, .int .u8 x.f.d4, .int .u8 x.f.d5, .int .u8 x.f.d6, .int .u8 x.f.d7] 49))
       have YW := Ad (Ow.lit Fv wa [x.f] #[Value.int .i64 x.f.id, .bool x.f.ext, .bool x.f.rtr, .int .i64 x.f.len, .int .u8 x.f.d0, .int .u8 x.f.d1, .int .u8 x.f.d2, .int .u8 x.f.d3, .int .u8 x.f.d4, .int .u8 x.f.d5, .int .u8 x.f.d6, .int .u8 x.f.d7] (by rfl) (by decide : 1 <= maxLen)).rd
       have OB := Ad (OA.out.on CB.out)
       have BW := Ad (Nat.le_trans CW.out.size (Nat.le_trans CA.out.size CB.out.size))
       have e1 : x.node = (node : Int) := hnd.1
       have e2 : x.kind = 2 := hnd.2
       rw [e1] at a1
       rw [e2] at a2
       clear hnd DS e1 e2 t1 t2
       go_upto_region 10 with (fail)
       go_wp2_with (first | (at_builtin; refine wpList_append_Ow rfl (.tmp 43) (.tmp 46) 60 (by rfl) (by rfl) (some ⟨wa.heap.size, 0, none⟩) 1 1 [x.f] (by rfl) (by rfl) OW.out.1 OB.out YW.out rfl (by show (m1 + 1) * 32 <= _; omega) BW.out ?_) | refine wpList_load_Cs rfl 49 (.tmp 44) rfl 3 [Value.int .i64 x.f.id, .bool x.f.ext, .bool x.f.rtr, .int .i64 x.f.len, .int .u8 x.f.d0, .int .u8 x.f.d1, .int .u8 x.f.d2, .int .u8 x.f.d3, .int .u8 x.f.d4, .int .u8 x.f.d5, .int .u8 x.f.d6, .int .u8 x.f.d7] (by rfl) DA.out AP.out Tryz.underlying49 rfl size49 ?_)
       intro A5 c5 q5 w5 hO5 hC5 hq5
       have O5 := Ad (show (Pl.dlv node (l.take (k + 1))).length = m1 + 1 /\ m1 + 1 <= k + 1 /\ Ow Fv w5 w.heap.size q5 A5 c5 (Pl.dlv node (l.take (k + 1))) from by
         rw [DS2.out]
         exact ⟨by rw [List.length_append, OW.out.1]; rfl, by omega, hO5⟩)
       have C5 := Ad (show Ch [] w w5 from (((CW.out.then CA.out).then CB.out)).trans hC5 (fun y hy => by rw [Option.mem_toList] at hy; exact .inr (OB.out.size y hy).1))
       clear hO5 hC5 hq5 a1 a2 hal
       go_wp2_with fail
       go_roundw
       case rel => exact ⟨k + 1, by omega, by go_num, ⟨A5, c5, q5, m1 + 1, rfl, O5⟩, C5⟩
       case measure => simp [intOf]; omega
     · have O5 := Ad (show (Pl.dlv node (l.take (k + 1))).length = m1 /\ m1 <= k + 1 /\ Ow Fv wa w.heap.size q1 A1 c1 (Pl.dlv node (l.take (k + 1))) from by
         rw [DS.out, if_neg hnd, List.append_nil]
         exact ⟨OW.out.1, by omega, OA.out⟩)
       have C5 := Ad (CW.out.then CA.out)
       by_cases h1 : x.node = (node : Int)
       · have t2 : (x.kind == 2) = false := by rw [beq_eq_false_iff_ne]; exact fun h2 => hnd ⟨h1, h2⟩
         have n2 : ¬ x.kind = 2 := fun h2 => hnd ⟨h1, h2⟩
         rw [h1] at a1
         clear hnd h1 DS
         go_wp2_with fail
         go_roundw
         case rel => exact ⟨k + 1, by omega, by go_num, ⟨A1, c1, q1, m1, rfl, O5⟩, C5⟩
         case measure => simp [intOf]; omega
       · have t1 : (x.node == (node : Int)) = false := by rw [beq_eq_false_iff_ne]; exact h1
         clear hnd DS
         go_wp2_with fail
         go_roundw
         case rel => exact ⟨k + 1, by omega, by go_num, ⟨A1, c1, q1, m1, rfl, O5⟩, C5⟩
         case measure => simp [intOf]; omega
   · have hkm : k = m := by omega
     subst hkm
     have e : l.take k = l := List.take_of_length_le (by rw [HM.out]; exact Nat.le_refl _)
     rw [e] at OW
     go_wp2_with fail
     go_ret2
     exact ⟨A1, c1, q1, m1, rfl, ⟨OW.out.1, OW.out.2.2⟩, CW.out⟩
end Lo
namespace Lo
theorem Rec.okB {R : List Run} {e T N : Nat} (h : Rec R e T N) (hN : N <= 1000) : OkB (ptsB R e T N) /\ (bks 0 (ptsB R e T N)).length <= 20 * T + 34 * N := by
 have hl : (ptsB R e T N).length = N := by simp [ptsB]
 have ok : ∀ k l, (ptsB R e T N)[k]? = some l -> Bl.Ok (Lo.offT (ptsB R e T N) k) l /\ l.length <= 1000 := fun k l hk => by
   have hkN : k < N := by have := (List.getElem?_eq_some_iff.1 hk).1; rwa [hl] at this
   rw [ptsB_get hkN] at hk
   cases hk
   exact h.ok hkN
 have hs : sumT (ptsB R e T N) = T := by
   have h1 := h.offT N (Nat.le_refl _)
   unfold Lo.offT at h1
   rw [List.take_of_length_le (by rw [hl]; exact Nat.le_refl _)] at h1
   have := h.hi
   omega
 have hT := h.T9
 have hb := Pl.bks_le (ptsB R e T N) 0 (fun k l hk => by rw [Nat.zero_add]; exact (ok k l hk).1) (fun l hm r hr => by
   obtain ⟨k, hk⟩ := List.getElem?_of_mem hm
   exact (ok k l hk).1.rgt r hr) (by rw [hs]; omega)
 rw [hs, hl] at hb
 exact ⟨⟨ok, by omega⟩, hb⟩
end Lo
namespace Pl
def F5 : Fr := ⟨5, false, false, 0, 0, 0, 0, 0, 0, 0, 0, 0⟩
def F4 : Fr := ⟨4, false, false, 0, 0, 0, 0, 0, 0, 0, 0, 0⟩
def AL : List Act' := [⟨0, 0, false, F5⟩, ⟨0, 1, false, F4⟩]
set_option maxRecDepth 100000 in
theorem al_dlv : dlv 2 (Bus.es AL (Bus.fresh 3) 200) = [F4, F5] := by decide +kernel
set_option maxRecDepth 100000 in
theorem al_frs : frs (Wt.all ((Bus.rs AL (Bus.fresh 3) 200).map (·.bus))).2 = [F4, F5] := by decide +kernel
theorem al_chk : chk 3 AL = 0 := by decide +kernel
theorem al_wf : ∀ a ∈ AL, a.f.wf := by
 intro a ha
 simp only [AL, List.mem_cons, List.not_mem_nil, or_false] at ha
 rcases ha with rfl | rfl <;> (intro x hx; simp only [F4, F5, Fr.data, List.mem_cons, List.not_mem_nil, or_false] at hx; omega)
theorem lv_eq (l : List Act') (b : Bus) (T : Nat) : (List.range T).map (fun i => (tk (jn (Bus.rs l b T)) i).bus) = (Bus.rs l b T).map (·.bus) := by
 refine List.ext_getElem? (fun i => ?_)
 rw [List.getElem?_map, List.getElem?_map]
 by_cases h : i < T
 · rw [List.getElem?_range h, rs_get l b i T h]
   unfold tk
   rw [rs_ex, Option.map_some, Option.map_some, List.getD_eq_getElem?_getD, rs_get l b i T h]
   rfl
 · rw [List.getElem?_eq_none (by simp; omega), List.getElem?_eq_none (by rw [rs_length]; omega)]
   rfl
theorem bus_lv (l : List Act') (b : Bus) (T : Nat) : ∀ y ∈ (Bus.rs l b T).map (·.bus), y = 0 ∨ y = 1 := by
 intro y hy
 obtain ⟨r, hr, rfl⟩ := List.mem_map.1 hy
 obtain ⟨-, -, h⟩ := (rs_all l b T r hr).1
 rw [h]
 split
 · exact .inr rfl
 · exact .inl rfl
end Pl
end Go.Proofs.YtjoehjclaonneaaGreat
