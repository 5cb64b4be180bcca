/- TopReplay: a run that is recorded, read again from its file's bytes, and run again with any nodes replaced by what the log has of them, is the same at every tick, and the nodes that are left tell the same events. No condition beyond the row's own. -/
import Derived.ProofKit
import Derived.OpenShut
import Derived.ShutString
import Derived.ChangeOld
import Derived.Laws.IdiomArrays
import Derived.Lib.SmallJoins
import Derived.Deep.Slices
import Derived.Test.YtjoehjclaonneaaGreatMT
import Derived.Test.YtjoehjclaonneaaGreatRows
namespace Go.Proofs.YtjoehjclaonneaaGreat
open Go.RowKit Go.Proofs.YtjoehjclaonneaaGreatW.PrintWords
set_option maxHeartbeats 8000000
set_option linter.unusedVariables false
set_option linter.unusedSimpArgs false
section
open Go.Deep Go.ChangeShapes Go.WideShapes Go.ChangeAt Go.RowKit Go.Proofs.YtjoehjclaonneaaGreatW.PrintWords
theorem own : ownKnob Tryz.prog.godebug = none := by kernel_rfl
theorem laidOut : laidOutB Tryz.prog = true := by kernel_rfl
theorem byte_of {x : Int} (h : (Lit.int .u8 x).wf = true) : 0 <= x /\ x < 256 := by
 have hmin : IntKind.u8.min = 0 := rfl
 have hmax : IntKind.u8.max = 255 := rfl
 simp only [Lit.wf, Bool.and_eq_true, decide_eq_true_eq, hmin, hmax] at h
 omega
theorem word_of {x : Int} (h : (Lit.int .u32 x).wf = true) : 0 <= x /\ x < 4294967296 := by
 have hmin : IntKind.u32.min = 0 := rfl
 have hmax : IntKind.u32.max = 4294967295 := rfl
 simp only [Lit.wf, Bool.and_eq_true, decide_eq_true_eq, hmin, hmax] at h
 omega
theorem int_of {x : Int} (h : (Lit.int .i64 x).wf = true) : -9223372036854775808 <= x /\ x <= 9223372036854775807 := by
 have hmin : IntKind.i64.min = -9223372036854775808 := rfl
 have hmax : IntKind.i64.max = 9223372036854775807 := rfl
 simp only [Lit.wf, Bool.and_eq_true, decide_eq_true_eq, hmin, hmax] at h
 omega
section
variable {H : Type} {enc : TypeId × Value -> H} {w : World} {base : Nat} {spare : Nat -> Bool} {held : Bool} {fuel : Nat}
set_option maxRecDepth 100000 in
theorem bytes8_of {cs : List Value} {x : DataW H × List MemPlace} (h : DataW.trod enc Tryz.prog w base spare held fuel 47 cs = some x) (hl : cs.length = 8) :
   ∃ a0 a1 a2 a3 a4 a5 a6 a7 : Int, cs = [.int .u8 a0, .int .u8 a1, .int .u8 a2, .int .u8 a3, .int .u8 a4, .int .u8 a5, .int .u8 a6, .int .u8 a7] /\ ∀ x ∈ [a0, a1, a2, a3, a4, a5, a6, a7], 0 <= x /\ x < 256 := by
 obtain ⟨xs, n, _, _, _, hlen, hx⟩ := DataW.trod_array Tryz.underlying47 h
 have e5 : Tryz.prog.cellsOf 5 = 1 := by kernel_rfl
 rw [e5] at hx
 match xs, hlen, cs, hl with
 | [y0, y1, y2, y3, y4, y5, y6, y7], _, [c0, c1, c2, c3, c4, c5, c6, c7], _ =>
   have h0 := hx 0 (by decide)
   have h1 := hx 1 (by decide)
   have h2 := hx 2 (by decide)
   have h3 := hx 3 (by decide)
   have h4 := hx 4 (by decide)
   have h5 := hx 5 (by decide)
   have h6 := hx 6 (by decide)
   have h7 := hx 7 (by decide)
   obtain ⟨a0, k0, -, w0⟩ := DataW.trod_int Tryz.underlying5 (show DataW.trod enc Tryz.prog w base spare held n 5 [c0] = some y0 from h0)
   obtain ⟨a1, k1, -, w1⟩ := DataW.trod_int Tryz.underlying5 (show DataW.trod enc Tryz.prog w base spare held n 5 [c1] = some y1 from h1)
   obtain ⟨a2, k2, -, w2⟩ := DataW.trod_int Tryz.underlying5 (show DataW.trod enc Tryz.prog w base spare held n 5 [c2] = some y2 from h2)
   obtain ⟨a3, k3, -, w3⟩ := DataW.trod_int Tryz.underlying5 (show DataW.trod enc Tryz.prog w base spare held n 5 [c3] = some y3 from h3)
   obtain ⟨a4, k4, -, w4⟩ := DataW.trod_int Tryz.underlying5 (show DataW.trod enc Tryz.prog w base spare held n 5 [c4] = some y4 from h4)
   obtain ⟨a5, k5, -, w5⟩ := DataW.trod_int Tryz.underlying5 (show DataW.trod enc Tryz.prog w base spare held n 5 [c5] = some y5 from h5)
   obtain ⟨a6, k6, -, w6⟩ := DataW.trod_int Tryz.underlying5 (show DataW.trod enc Tryz.prog w base spare held n 5 [c6] = some y6 from h6)
   obtain ⟨a7, k7, -, w7⟩ := DataW.trod_int Tryz.underlying5 (show DataW.trod enc Tryz.prog w base spare held n 5 [c7] = some y7 from h7)
   simp only [List.cons.injEq, and_true] at k0 k1 k2 k3 k4 k5 k6 k7
   subst k0 k1 k2 k3 k4 k5 k6 k7
   refine ⟨a0, a1, a2, a3, a4, a5, a6, a7, rfl, fun x hx => ?_⟩
   simp only [List.mem_cons, List.not_mem_nil, or_false] at hx
   rcases hx with rfl | rfl | rfl | rfl | rfl | rfl | rfl | rfl <;> (apply byte_of; assumption)
set_option maxRecDepth 100000 in
theorem frame_of {cs : List Value} {x : DataW H × List MemPlace} (h : DataW.trod enc Tryz.prog w base spare held fuel 49 cs = some x) (hl : cs.length = 12) :
   ∃ f : Pl.Fr, cs = frc f /\ f.wf := by
 obtain ⟨xs, n, _, _, _, hlen, hx⟩ := DataW.trod_struct Tryz.underlying49 h
 have e3 : Tryz.prog.cellsOf 3 = 1 := by kernel_rfl
 have e4 : Tryz.prog.cellsOf 4 = 1 := by kernel_rfl
 have e47 : Tryz.prog.cellsOf 47 = 8 := by kernel_rfl
 have h0 := hx 0 _ rfl
 have h1 := hx 1 _ rfl
 have h2 := hx 2 _ rfl
 have h3 := hx 3 _ rfl
 have h4 := hx 4 _ rfl
 match xs, hlen, cs, hl with
 | [y0, y1, y2, y3, y4], _, [c0, c1, c2, c3, c4, c5, c6, c7, c8, c9, c10, c11], _ =>
   change DataW.trod enc Tryz.prog w base spare held n 3 (List.take (Tryz.prog.cellsOf 3) [c0, c1, c2, c3, c4, c5, c6, c7, c8, c9, c10, c11]) = some y0 at h0
   change DataW.trod enc Tryz.prog w base spare held n 4 (List.take (Tryz.prog.cellsOf 4) [c1, c2, c3, c4, c5, c6, c7, c8, c9, c10, c11]) = some y1 at h1
   change DataW.trod enc Tryz.prog w base spare held n 4 (List.take (Tryz.prog.cellsOf 4) [c2, c3, c4, c5, c6, c7, c8, c9, c10, c11]) = some y2 at h2
   change DataW.trod enc Tryz.prog w base spare held n 3 (List.take (Tryz.prog.cellsOf 3) [c3, c4, c5, c6, c7, c8, c9, c10, c11]) = some y3 at h3
   change DataW.trod enc Tryz.prog w base spare held n 47 (List.take (Tryz.prog.cellsOf 47) [c4, c5, c6, c7, c8, c9, c10, c11]) = some y4 at h4
   rw [e3] at h0 h3
   rw [e4] at h1 h2
   rw [e47] at h4
   obtain ⟨n0, k0, -, -⟩ := DataW.trod_int Tryz.underlying3 h0
   obtain ⟨b1, k1, -⟩ := DataW.trod_bool Tryz.underlying4 h1
   obtain ⟨b2, k2, -⟩ := DataW.trod_bool Tryz.underlying4 h2
   obtain ⟨n3, k3, -, -⟩ := DataW.trod_int Tryz.underlying3 h3
   obtain ⟨a0, a1, a2, a3, a4, a5, a6, a7, k4, hw⟩ := bytes8_of h4 rfl
   simp only [List.take_succ_cons, List.take_zero, List.cons.injEq, and_true] at k0 k1 k2 k3 k4
   obtain ⟨rfl, rfl, rfl, rfl, rfl, rfl, rfl, rfl⟩ := k4
   subst k0 k1 k2 k3
   exact ⟨⟨n0, b1, b2, n3, a0, a1, a2, a3, a4, a5, a6, a7⟩, rfl, hw⟩
set_option maxRecDepth 100000 in
theorem act_of {cs : List Value} {x : DataW H × List MemPlace} (h : DataW.trod enc Tryz.prog w base spare held fuel 55 cs = some x) (hl : cs.length = 15) :
   ∃ a : Act', cs = Av.enc a /\ a.f.wf := by
 obtain ⟨xs, n, _, _, _, hlen, hx⟩ := DataW.trod_struct Tryz.underlying55 h
 have e3 : Tryz.prog.cellsOf 3 = 1 := by kernel_rfl
 have e4 : Tryz.prog.cellsOf 4 = 1 := by kernel_rfl
 have e49 : Tryz.prog.cellsOf 49 = 12 := by kernel_rfl
 have h0 := hx 0 _ rfl
 have h1 := hx 1 _ rfl
 have h2 := hx 2 _ rfl
 have h3 := hx 3 _ rfl
 match xs, hlen, cs, hl with
 | [y0, y1, y2, y3], _, c0 :: c1 :: c2 :: cs, hl =>
   change DataW.trod enc Tryz.prog w base spare held n 3 (List.take (Tryz.prog.cellsOf 3) (c0 :: c1 :: c2 :: cs)) = some y0 at h0
   change DataW.trod enc Tryz.prog w base spare held n 3 (List.take (Tryz.prog.cellsOf 3) (c1 :: c2 :: cs)) = some y1 at h1
   change DataW.trod enc Tryz.prog w base spare held n 4 (List.take (Tryz.prog.cellsOf 4) (c2 :: cs)) = some y2 at h2
   change DataW.trod enc Tryz.prog w base spare held n 49 (List.take (Tryz.prog.cellsOf 49) cs) = some y3 at h3
   have hl' : cs.length = 12 := by simpa using hl
   rw [e3] at h0 h1
   rw [e4] at h2
   rw [e49, List.take_of_length_le (by omega)] at h3
   obtain ⟨n0, k0, -, -⟩ := DataW.trod_int Tryz.underlying3 h0
   obtain ⟨n1, k1, -, -⟩ := DataW.trod_int Tryz.underlying3 h1
   obtain ⟨b2, k2, -⟩ := DataW.trod_bool Tryz.underlying4 h2
   obtain ⟨f, rfl, hw⟩ := frame_of h3 hl'
   simp only [List.take_succ_cons, List.take_zero, List.cons.injEq, and_true] at k0 k1 k2
   subst k0 k1 k2
   exact ⟨⟨n0, n1, b2, f⟩, rfl, hw⟩
set_option maxRecDepth 100000 in
theorem acts_of {r : Reach} {b0 : Nat} {v : Value} {d : DataW H} {p : List MemPlace} (hv : Value.okWide Tryz.prog w r b0 22 v) (h : DataW.Trod enc Tryz.prog w base spare held 22 v d p) :
   ∃ (A : Option Addr) (c : Nat) (l : List Act'), v = .slice A l.length c /\ Rd Av w A c l /\ ∀ a ∈ l, a.f.wf := by
 obtain ⟨A, n, c, rfl⟩ := okWide_slice Tryz.underlying22 hv
 obtain ⟨fuel, hf⟩ := h
 rcases open_slice Tryz.underlying22 hf with ⟨e, _⟩ | ⟨a, len, cap, m, n', D, PL9, e, _, hl, hmax, hm, _, hx⟩
 · simp [Value.cells] at e
   obtain ⟨rfl, rfl, rfl⟩ := e
   exact ⟨none, 0, [], rfl, Rd.nil _ _ _ _, by simp⟩
 · simp [Value.cells] at e
   obtain ⟨rfl, rfl, rfl⟩ := e
   have hc : ∀ i, i < n -> ∃ y : Act', (∀ j v, (Av.enc y)[j]? = some v -> w.cell? ((a.add (i * 15)).add j) = some v) /\ y.f.wf := fun i hi => by
     obtain ⟨cs, h1, h2⟩ := hx i (by rw [hm]; split <;> omega)
     rw [show Tryz.prog.cellsOf 55 = 15 from by kernel_rfl] at h1
     obtain ⟨_, hlen, hcell⟩ := World.cells?_some h1
     obtain ⟨y, rfl, hw⟩ := act_of h2 hlen
     refine ⟨y, fun j v hv => ?_, hw⟩
     have hj : j < 15 := by have := (List.getElem?_eq_some_iff.1 hv).1; rwa [hlen] at this
     rw [hcell j hj, hv]
   have sk : ∃ F : Nat -> Act', ∀ i, i < n -> (∀ j v, (Av.enc (F i))[j]? = some v -> w.cell? ((a.add (i * 15)).add j) = some v) /\ (F i).f.wf :=
     ⟨fun i => if h : i < n then Classical.choose (hc i h) else ⟨0, 0, false, Pl.Fr.zero⟩, fun i hi => by
       simp only [dif_pos hi]
       exact Classical.choose_spec (hc i hi)⟩
   obtain ⟨F, hF⟩ := sk
   have hlen : ((List.range n).map F).length = n := by simp
   refine ⟨some a, c, (List.range n).map F, by rw [hlen], ⟨by rw [hlen]; exact hl, by rw [hlen]; omega, fun h0 => ?_⟩, fun y hy => ?_⟩
   · rw [hlen] at h0
     have hs : a.spot = none := by
       have h1 := (hF 0 h0).1 0 _ rfl
       rw [show (a.add (0 * 15)).add 0 = a from rfl] at h1
       unfold World.cell? at h1
       split at h1
       · cases hsp : a.spot with
         | none => rfl
         | some s => rw [hsp] at h1; simp at h1
       · simp at h1
     obtain ⟨g, o, s⟩ := a
     simp only at hs
     subst hs
     refine ⟨g, o, rfl, fun k x hk j v hv => ?_⟩
     have hkn : k < n := by have := (List.getElem?_eq_some_iff.1 hk).1; rwa [hlen] at this
     rw [List.getElem?_map, List.getElem?_range hkn] at hk
     cases hk
     have h1 := (hF k hkn).1 j v hv
     have e1 : ((⟨g, o, none⟩ : Addr).add (k * 15)).add j = ⟨g, o + k * 15 + j, none⟩ := by
       unfold Addr.add
       by_cases hk0 : k * 15 = 0
       · by_cases hj0 : j = 0
         · simp [hk0, hj0]
         · simp [hk0, hj0]
       · by_cases hj0 : j = 0
         · simp [hk0, hj0]
         · simp [hk0, hj0]
     rw [e1] at h1
     exact h1
   · obtain ⟨i, hi, rfl⟩ := List.mem_map.1 hy
     exact (hF i (List.mem_range.1 hi)).2
set_option maxRecDepth 100000 in
theorem size_of {r : Reach} {b0 : Nat} {v : Value} {d : DataW H} {p : List MemPlace} (hv : Value.okWide Tryz.prog w r b0 24 v) (h : DataW.Trod enc Tryz.prog w base spare held 24 v d p) :
   ∃ n T : Int, v = .agg #[.int .i64 n, .int .i64 T] /\ ((-9223372036854775808 <= n /\ n <= 9223372036854775807) /\ (-9223372036854775808 <= T /\ T <= 9223372036854775807)) := by
 obtain ⟨cs, rfl, hsz, _⟩ : ∃ cs, v = .agg cs /\ cs.size = Tryz.prog.cellsOf 24 /\ Row.okWide Tryz.prog w r b0 24 cs := by
   simpa [Value.okWide, Tryz.underlying24] using hv
 rw [show Tryz.prog.cellsOf 24 = 2 from by kernel_rfl] at hsz
 obtain ⟨c0, c1, rfl⟩ := Joins.array2 hsz
 obtain ⟨fuel, hf⟩ := h
 obtain ⟨xs, n, _, _, _, hlen, hx⟩ := DataW.trod_struct Tryz.underlying24 hf
 have h0 := hx 0 _ rfl
 have h1 := hx 1 _ rfl
 match xs, hlen with
 | [y0, y1], _ =>
   have e3 : Tryz.prog.cellsOf 3 = 1 := by kernel_rfl
   change DataW.trod enc Tryz.prog w base spare held n 3 (List.take (Tryz.prog.cellsOf 3) [c0, c1]) = some y0 at h0
   change DataW.trod enc Tryz.prog w base spare held n 3 (List.take (Tryz.prog.cellsOf 3) [c1]) = some y1 at h1
   rw [e3] at h0 h1
   obtain ⟨n0, k0, -, w0⟩ := DataW.trod_int Tryz.underlying3 h0
   obtain ⟨n1, k1, -, w1⟩ := DataW.trod_int Tryz.underlying3 h1
   simp only [List.take_succ_cons, List.take_zero, List.cons.injEq, and_true] at k0 k1
   subst k0 k1
   exact ⟨n0, n1, rfl, int_of w0, int_of w1⟩
end
theorem top_calls (A : Option Addr) (c : Nat) (l : List Act') (n T : Int) (rep : Int) (w : World) (h : Rd Av w A c l) (hwf : ∀ a ∈ l, a.f.wf) (hnT : (-9223372036854775808 <= n /\ n <= 9223372036854775807) /\ (-9223372036854775808 <= T /\ T <= 9223372036854775807)) (hr : (Lit.int .u32 rep).wf = true) :
   Calls Tryz.prog 3 #[.slice A l.length c, .agg #[.int .i64 n, .int .i64 T], .int .u32 rep] w fun e w' => e = .returned (.bool true) /\ Below w.heap.size w w' := by
 obtain ⟨r, rfl⟩ : ∃ r : Nat, rep = r := ⟨rep.toNat, by have := word_of hr; omega⟩
 have hr2 := word_of hr
 have K : Calls Tryz.prog 3 #[.slice A l.length c, .agg #[.int .i64 n, .int .i64 T], .int .u32 (r : Int)] w (fun e w' => e = .returned (.bool true) /\ Ch [] w w') := by
   by_cases hG : l.length <= 30 /\ n <= 8 /\ 0 <= T /\ T <= 300 /\ Pl.chk n l = 0
   · obtain ⟨g1, g2, g3, g4, g5⟩ := hG
     obtain ⟨⟨hn1, -⟩, -⟩ := Pl.chk_zero g5
     obtain ⟨nn, rfl⟩ : ∃ nn : Nat, n = nn := ⟨n.toNat, by omega⟩
     obtain ⟨tt, rfl⟩ : ∃ tt : Nat, T = tt := ⟨T.toNat, by omega⟩
     exact top_main nn tt r (by omega) A c l.length l rfl hwf w h g1 (by omega) (by omega) g5
   · exact top_else n T hnT.1 hnT.2 r A c l.length l rfl hwf w h hG
 exact K.mono (fun e w' hp => ⟨hp.1, hp.2.below (Nat.le_refl _) (by simp)⟩)
end
namespace topReplay
open Go.ChangeShapes Go.WideShapes Go.ChangeAt Go.RowKit Go.Proofs.YtjoehjclaonneaaGreat
set_option linter.unusedVariables false
set_option maxRecDepth 100000 in
theorem lifted (os : Os) (started : os.Started) (H : Type) (enc : TypeId × Value -> H) :
   ReturnsInHanded {} Tryz.checked os 3 .any (Rows.topReplaySpec.pre6 enc Tryz.prog Tryz.f3 Rows.topReplayRow.domain false) (Rows.topReplaySpec.post enc Tryz.prog Tryz.f3 false true false false) := by
 refine returnsInHanded_of_change (C := Tryz.checked) own started (by kernel_rfl) Tryz.func3
   (ChangeSpec.witness6 (enc := enc) (C := Tryz.checked) false ⟨#[], #[.slice none 0 0, .agg #[.int .i64 0, .int .i64 0], .int .u32 0], []⟩ 8 (by kernel_rfl) (by kernel_rfl) (by kernel_rfl) (by kernel_rfl)) ?_
 intro W base args ds gs before hval0 hW hcnd _
 have hval : ∀ (j : Nat) t v, Tryz.f3.params[j]? = some t -> args[j]? = some v -> Value.okWide Tryz.prog W .any base t v := hval0
 have hW' := hW
 obtain ⟨p, q, hA0, hV, rfl, hfz, hnd⟩ := hW
 have hA : DataW.TrodAll enc Tryz.prog W 0 (fun _ => true) true Tryz.f3.params.toList args.toList ds p := hA0
 rw [Tryz.params3] at hA hval
 obtain ⟨v0, vs0, d0, ds0, p0, q0, hargs, rfl, rfl, h0, r0⟩ := trodAll_cons hA
 obtain ⟨v1, vs1, d1, ds1, p1, q1, rfl, rfl, rfl, h1, r1⟩ := trodAll_cons r0
 obtain ⟨v2, vs2, d2, ds2, p2, q2, rfl, rfl, rfl, h2, r2⟩ := trodAll_cons r1
 obtain ⟨rfl, rfl, rfl⟩ := trodAll_nil r2
 obtain rfl : args = #[v0, v1, v2] := by cases args; simp_all
 obtain ⟨rfl, rfl⟩ := trodVars_none hV
 have k0 := h0
 have lt0 : ∀ x ∈ p0, x.block < W.heap.size := by obtain ⟨m, hm⟩ := k0; exact DataW.trod_lt m _ _ _ hm
 obtain ⟨A, c, l, rfl, hR, hwf⟩ := acts_of (hval 0 22 v0 rfl rfl) h0
 have k1 := h1
 have lt1 : ∀ x ∈ p1, x.block < W.heap.size := by obtain ⟨m, hm⟩ := k1; exact DataW.trod_lt m _ _ _ hm
 obtain ⟨n, T, rfl, hnT⟩ := size_of (hval 1 24 v1 rfl rfl) h1
 have k2 := h2
 have lt2 : ∀ x ∈ p2, x.block < W.heap.size := by obtain ⟨m, hm⟩ := k2; exact DataW.trod_lt m _ _ _ hm
 obtain ⟨n2, rfl, e2, g2, w2⟩ := open_int Tryz.underlying25 (hval 2 25 v2 rfl rfl) h2
 clear hA0 hval0
 refine (top_calls A c l n T n2 W hR hwf hnT w2).mono fun e W' ⟨he, bel⟩ => ?_
 subst he
 exact ⟨_, rfl, _, _, _, [], _, [], hW', trodAll_mk1 (shut_bool Tryz.underlying4 _), (trodAll_cons_mk (Below.trod laidOut (by kernel_rfl) (of_decide_eq_true (by kernel_rfl)) k0 bel lt0) (trodAll_cons_mk (Below.trod laidOut (by kernel_rfl) (of_decide_eq_true (by kernel_rfl)) k1 bel lt1) (trodAll_cons_mk (Below.trod laidOut (by kernel_rfl) (of_decide_eq_true (by kernel_rfl)) k2 bel lt2) trodAll_mk0))), rfl, bel.frame _, fun h => by cases h⟩
theorem over : Rows.topReplayRow.holds Tryz.pinned (OpenSpec.ofChange Rows.topReplaySpec) :=
 OpenClaim.holds_of_wide 3 Tryz.f3 rfl rfl rfl rfl rfl rfl rfl ⟨rfl, rfl, rfl, rfl, rfl⟩ rfl rfl rfl rfl rfl (by kernel_rfl) Tryz.func3 (by kernel_rfl)
   (of_decide_eq_true (by kernel_rfl)) (by unfold Func.isWrapper; first | (rw [if_pos (by decide +kernel)]; kernel_rfl) | (rw [if_neg (by decide +kernel)]; exact ⟨rfl, rfl⟩))
   (fun os started H enc _ => lifted os started H enc)
theorem proved : Rows.TopReplaySaid := over
#print axioms proved
end topReplay
end Go.Proofs.YtjoehjclaonneaaGreat
