/- A part of the proof of TopReplay (no condition of its own). -/
import Derived.Test.YtjoehjclaonneaaGreatMA
namespace Go.Proofs.YtjoehjclaonneaaGreat
open Go.RowKit Go.Proofs.YtjoehjclaonneaaGreatW.PrintWords
set_option maxHeartbeats 8000000
set_option linter.unusedVariables false
set_option linter.unusedSimpArgs false
theorem sum_calls (x r : Bool) (ctrl data size s : Nat) (hs : Pl.Hd.sum ⟨x, r, ctrl, data, size⟩ = s) (hd : data <= 1000) (hz : size <= 1000) (w : World) :
   Calls Tryz.prog 134 #[.agg #[.bool x, .bool r, .int .i64 ctrl, .int .i64 data, .int .i64 size]] w fun e w' => e = .returned (.int .i64 s) /\ w' = w.alloc (.cells #[.bool x, .bool r, .int .i64 ctrl, .int .i64 data, .int .i64 size] 212) := by
 unfold Pl.Hd.sum at hs
 simp only [] at hs
 have HS := Ad hs
 clear hs
 cases r
 · rw [if_neg (by decide)] at HS
   go_enter Tryz.func134, Tryz.ntmps134
   go_wp2
   go_ret
   exact ⟨ret_int (by rw [<- HS.out]; simp), rfl⟩
 · rw [if_pos rfl] at HS
   go_enter Tryz.func134, Tryz.ntmps134
   go_wp2
   go_ret
   exact ⟨ret_int (by rw [<- HS.out]), rfl⟩
theorem ret3_eq {k1 k2 k3 : IntKind} {a a' b b' c c' : Int} (h1 : a = a') (h2 : b = b') (h3 : c = c') : Ending.returned (.tuple #[.int k1 a, .int k2 b, .int k3 c]) = .returned (.tuple #[.int k1 a', .int k2 b', .int k3 c']) := by rw [h1, h2, h3]
def fv (x : Nat × Nat × Nat) : Value := .tuple #[.int .i64 x.1, .int .i64 x.2.1, .int .i64 x.2.2]
theorem next_early (A : Option Addr) (c n : Nat) (l : List Int) (hn : l.length = n) (h13 : n <= 13) (w : World) (h : Ls w A c l) :
   Calls Tryz.prog 110 #[.slice A n c] w fun e w' => e = .returned (fv (Pl.next l)) /\ Ch [] w w' := by
 have hlen := h.rds.len63 hn
 have H := Ad h
 have HN := Ad hn
 have RC := Ad (read_calls A c n l hn)
 obtain ⟨⟨⟨x, r, ctrl, data, size⟩, wh⟩, hr⟩ : ∃ q, Pl.read l = q := ⟨_, rfl⟩
 rw [hr] at RC
 unfold hv at RC
 have HR := Ad hr
 have n3 := Ad (show Pl.next l = if l.length = 0 then (0, 0, 0) else (1, l.length - 1, 0) by unfold Pl.next; split; rfl; rw [if_pos (by omega)])
 clear hr hn h
 by_cases h0 : n = 0
 · have NX := Ad (show fv (Pl.next l) = .tuple #[.int .i64 0, .int .i64 0, .int .i64 0] by rw [n3.out, if_pos (by rw [HN.out, h0])]; rfl)
   subst h0
   go_enter Tryz.func110, Tryz.ntmps110
   go_wp2_with fail
   refine (check_calls A c _ l HN.out _ H.out).mono ?_
   rintro e w' ⟨rfl, rfl⟩
   go_wp2_with fail
   refine (RC.out _ H.out).mono ?_
   rintro e w' ⟨rfl, hc1⟩
   have C1 := Ad hc1
   clear hc1
   go_wp2_with fail
   go_ret3
   exact ⟨by rw [NX.out]; rfl, C1.out.alloc _⟩
 · have NX := Ad (show fv (Pl.next l) = .tuple #[.int .i64 1, .int .i64 ((n : Int) - 1), .int .i64 0] by
     rw [n3.out, if_neg (by rw [HN.out]; exact h0), HN.out]
     unfold fv
     simp only []
     rw [show ((n - 1 : Nat) : Int) = (n : Int) - 1 by omega]; rfl)
   have i0 : ((n : Int) == 0) = false := by simp; omega
   have i1 : (1 : Int) <= n := by omega
   clear h0
   go_enter Tryz.func110, Tryz.ntmps110
   go_wp2_with fail
   refine (check_calls A c _ l HN.out _ H.out).mono ?_
   rintro e w' ⟨rfl, rfl⟩
   go_wp2_with fail
   refine (RC.out _ H.out).mono ?_
   rintro e w' ⟨rfl, hc1⟩
   have C1 := Ad hc1
   clear hc1
   go_wp2_with fail
   go_ret3
   exact ⟨by rw [NX.out]; rfl, C1.out.alloc _⟩
theorem next_ext (A : Option Addr) (c n : Nat) (l : List Int) (hn : l.length = n) (h13 : 13 < n) (h32 : n <= 32) (hx : (Pl.read l).1.ext = true) (w : World) (h : Ls w A c l) :
   Calls Tryz.prog 110 #[.slice A n c] w fun e w' => e = .returned (fv (Pl.next l)) /\ Ch [] w w' := by
 have hlen := h.rds.len63 hn
 have H := Ad h
 have HN := Ad hn
 have RC := Ad (read_calls A c n l hn)
 have n3 := Ad (show Pl.next l = (1, l.length - 1, 0) by unfold Pl.next; rw [if_neg (by omega), if_neg (by omega), if_pos ⟨hx, by omega⟩])
 obtain ⟨⟨⟨x, r, ctrl, data, size⟩, wh⟩, hr⟩ : ∃ q, Pl.read l = q := ⟨_, rfl⟩
 rw [hr] at RC hx
 obtain rfl : x = true := hx
 unfold hv at RC
 have HR := Ad hr
 have NX := Ad (show fv (Pl.next l) = .tuple #[.int .i64 1, .int .i64 ((n : Int) - 1), .int .i64 0] by
     rw [n3.out, HN.out]
     unfold fv
     simp only []
     rw [show ((n - 1 : Nat) : Int) = (n : Int) - 1 by omega]; rfl)
 clear hr hn h
 have i0 : ((n : Int) == 0) = false := by simp; omega
 have i1 : (1 : Int) <= n := by omega
 go_enter Tryz.func110, Tryz.ntmps110
 go_wp2_with fail
 refine (check_calls A c _ l HN.out _ H.out).mono ?_
 rintro e w' ⟨rfl, rfl⟩
 go_wp2_with fail
 refine (RC.out _ H.out).mono ?_
 rintro e w' ⟨rfl, hc1⟩
 have C1 := Ad hc1
 clear hc1
 go_wp2_with fail
 go_ret3
 exact ⟨by rw [NX.out]; rfl, C1.out.alloc _⟩
theorem read_ctrl (l : List Int) (h : 13 < l.length) : (Pl.read l).1.ctrl = if (Pl.read l).1.ext = true then 33 else 14 := by
 unfold Pl.read
 rw [if_neg (by omega)]
 split <;> split <;> rfl
theorem next_ctrl (A : Option Addr) (c n : Nat) (l : List Int) (hn : l.length = n) (h13 : 13 < n) (h32 : ¬ ((Pl.read l).1.ext = true /\ n <= 32)) (hw : (Pl.read l).2 = false) (w : World) (h : Ls w A c l) :
   Calls Tryz.prog 110 #[.slice A n c] w fun e w' => e = .returned (fv (Pl.next l)) /\ Ch [] w w' := by
 have hlen := h.rds.len63 hn
 have H := Ad h
 have HN := Ad hn
 have RC := Ad (read_calls A c n l hn)
 have n3 := Ad (show Pl.next l = (2, l.length - (Pl.read l).1.ctrl, 0) by unfold Pl.next; rw [if_neg (by omega), if_neg (by omega), if_neg (by rw [hn]; exact h32), if_pos hw])
 have hct := read_ctrl l (by omega)
 obtain ⟨⟨⟨x, r, ctrl, data, size⟩, wh⟩, hr⟩ : ∃ q, Pl.read l = q := ⟨_, rfl⟩
 rw [hr] at RC n3 h32 hw hct
 simp only [] at hct h32 n3 hw
 subst hw
 unfold hv at RC
 have hle : ctrl <= n := by
   rw [hct]
   split
   · rename_i h; have : ¬ n <= 32 := fun h' => h32 ⟨h, h'⟩; omega
   · omega
 have NX := Ad (show fv (Pl.next l) = .tuple #[.int .i64 2, .int .i64 ((n : Int) - ctrl), .int .i64 0] by
     rw [n3.out, HN.out]
     unfold fv
     simp only []
     rw [show ((n - ctrl : Nat) : Int) = (n : Int) - ctrl by omega]; rfl)
 clear hr hn h
 have i0 : ((n : Int) == 0) = false := by simp; omega
 have i1 : (1 : Int) <= n := by omega
 have i2 : (ctrl : Int) <= n := by omega
 have hx : x = true -> (32 : Int) < n := fun hx => by
   have : ¬ n <= 32 := fun h' => h32 ⟨hx, h'⟩
   omega
 clear h32 hct
 rcases x with _ | _
 all_goals
   try have hx32 := hx rfl
   clear hx
   go_enter Tryz.func110, Tryz.ntmps110
   go_wp2_with fail
   refine (check_calls A c _ l HN.out _ H.out).mono ?_
   rintro e w' ⟨rfl, rfl⟩
   go_wp2_with fail
   refine (RC.out _ H.out).mono ?_
   rintro e w' ⟨rfl, hc1⟩
   have C1 := Ad hc1
   clear hc1
   go_wp2_with fail
   all_goals
     go_quiet (fail)
     go_wp2_with fail
     go_ret3
     exact ⟨by rw [NX.out]; rfl, (C1.out.alloc _).drewN _⟩
theorem widths0 (x : Value) (w : World) : (Instr.index 231 (.agg #[.int .i64 0, .int .i64 0, .int .i64 0, x, .int .i64 15, .int .i64 1, .int .i64 1, .int .i64 1, .int .i64 7]) (.int .i64 0)).run Tryz.prog w = .ok (.int .i64 0) w := by kernel_rfl
theorem widths1 (x : Value) (w : World) : (Instr.index 231 (.agg #[.int .i64 0, .int .i64 0, .int .i64 0, x, .int .i64 15, .int .i64 1, .int .i64 1, .int .i64 1, .int .i64 7]) (.int .i64 1)).run Tryz.prog w = .ok (.int .i64 0) w := by kernel_rfl
theorem widths2 (x : Value) (w : World) : (Instr.index 231 (.agg #[.int .i64 0, .int .i64 0, .int .i64 0, x, .int .i64 15, .int .i64 1, .int .i64 1, .int .i64 1, .int .i64 7]) (.int .i64 2)).run Tryz.prog w = .ok (.int .i64 0) w := by kernel_rfl
theorem widths3 (x : Value) (w : World) : (Instr.index 231 (.agg #[.int .i64 0, .int .i64 0, .int .i64 0, x, .int .i64 15, .int .i64 1, .int .i64 1, .int .i64 1, .int .i64 7]) (.int .i64 3)).run Tryz.prog w = .ok x w := by kernel_rfl
theorem widths4 (x : Value) (w : World) : (Instr.index 231 (.agg #[.int .i64 0, .int .i64 0, .int .i64 0, x, .int .i64 15, .int .i64 1, .int .i64 1, .int .i64 1, .int .i64 7]) (.int .i64 4)).run Tryz.prog w = .ok (.int .i64 15) w := by kernel_rfl
theorem widths5 (x : Value) (w : World) : (Instr.index 231 (.agg #[.int .i64 0, .int .i64 0, .int .i64 0, x, .int .i64 15, .int .i64 1, .int .i64 1, .int .i64 1, .int .i64 7]) (.int .i64 5)).run Tryz.prog w = .ok (.int .i64 1) w := by kernel_rfl
theorem widths6 (x : Value) (w : World) : (Instr.index 231 (.agg #[.int .i64 0, .int .i64 0, .int .i64 0, x, .int .i64 15, .int .i64 1, .int .i64 1, .int .i64 1, .int .i64 7]) (.int .i64 6)).run Tryz.prog w = .ok (.int .i64 1) w := by kernel_rfl
theorem widths7 (x : Value) (w : World) : (Instr.index 231 (.agg #[.int .i64 0, .int .i64 0, .int .i64 0, x, .int .i64 15, .int .i64 1, .int .i64 1, .int .i64 1, .int .i64 7]) (.int .i64 7)).run Tryz.prog w = .ok (.int .i64 1) w := by kernel_rfl
theorem widths8 (x : Value) (w : World) : (Instr.index 231 (.agg #[.int .i64 0, .int .i64 0, .int .i64 0, x, .int .i64 15, .int .i64 1, .int .i64 1, .int .i64 1, .int .i64 7]) (.int .i64 8)).run Tryz.prog w = .ok (.int .i64 7) w := by kernel_rfl
set_option maxRecDepth 100000 in
theorem next_d (A : Option Addr) (c n s : Nat) (l : List Int) (hn : l.length = n) (h13 : 13 < n) (h32 : ¬ ((Pl.read l).1.ext = true /\ n <= 32)) (hw : (Pl.read l).2 = true) (hs : (Pl.read l).1.sum = s) (hc : n < s) (w : World) (h : Ls w A c l) :
   Calls Tryz.prog 110 #[.slice A n c] w fun e w' => e = .returned (fv (Pl.next l)) /\ Ch [] w w' := by
 have hlen := h.rds.len63 hn
 have H := Ad h
 have HN := Ad hn
 have RC := Ad (read_calls A c n l hn)
 obtain ⟨d1, d2, d3, d4, d5, d6⟩ := Pl.read_data l hw
 have n3 : Pl.next l = Pl.field l.length (Pl.read l).1.data (Pl.read l).1.sum := by unfold Pl.next; rw [if_neg (by omega), if_neg (by omega), if_neg (by rw [hn]; exact h32), if_neg (by rw [hw]; decide)]
 obtain ⟨⟨⟨x, r, ctrl, data, size⟩, wh⟩, hr⟩ : ∃ q, Pl.read l = q := ⟨_, rfl⟩
 rw [hr] at RC n3 h32 hw hs d1 d2 d3 d4 d5 d6
 simp only [] at h32 n3 hw hs d1 d2 d3 d4 d5 d6
 rw [hs] at n3 d5 d6
 rw [hn] at n3 d1
 have SC := Ad (sum_calls x r ctrl data size s hs (by omega) (by omega))
 have NX := Ad (show fv (Pl.next l) = .tuple #[.int .i64 3, .int .i64 ((n : Int) - data), .int .i64 0] by
   rw [n3]
   unfold Pl.field fv
   rw [if_pos (by omega)]
   simp only []
   refine congrArg Value.tuple ?_
   rw [show ((n - data : Nat) : Int) = (n : Int) - data by omega]; rfl)
 subst hw
 unfold hv at RC
 clear hr hn h hs n3
 have i0 : ((n : Int) == 0) = false := by simp; omega
 have hx : x = true -> (32 : Int) < n := fun hx => by
   have : ¬ n <= 32 := fun h' => h32 ⟨hx, h'⟩
   omega
 clear h32
 have HC := Ad hc
 rcases x with _ | _
 · try have hx32 := hx rfl
   clear hx
   go_enter Tryz.func110, Tryz.ntmps110
   go_wp2_with fail
   refine (check_calls A c _ l HN.out _ H.out).mono ?_
   rintro e w' ⟨rfl, rfl⟩
   go_wp2_with fail
   refine (RC.out _ H.out).mono ?_
   rintro e w' ⟨rfl, hc1⟩
   have C1 := Ad hc1
   clear hc1
   go_wp2_with fail
   go_region_held3 (fun W => W.cell? ⟨w'.heap.size, 0, none⟩ = some (.bool false) /\ W.cell? ⟨w'.heap.size, 1, none⟩ = some (.bool r) /\ W.cell? ⟨w'.heap.size, 2, none⟩ = some (.int .i64 ctrl) /\ W.cell? ⟨w'.heap.size, 3, none⟩ = some (.int .i64 data) /\ W.cell? ⟨w'.heap.size, 4, none⟩ = some (.int .i64 size)) (go_keep)
     ((go_at_call 134; refine (SC.out _).mono ?_; rintro e w2 ⟨rfl, rfl⟩))
   rename _ /\ _ => hHeld
   clear hHeld
   go_wp2_with fail
   have x0 := widths0
   have x1 := widths1
   have x2 := widths2
   have x3 := widths3
   have x4 := widths4
   have x5 := widths5
   have x6 := widths6
   have x7 := widths7
   have x8 := widths8
   refine wp_loop_rounds 10 ?_
   rw [rounds_succ]
   go_wp2
   rw [rounds_succ]
   go_wp2
   rw [rounds_succ]
   go_wp2
   rw [rounds_succ]
   go_wp2
   go_ret3
   refine ⟨?_, (((C1.out.alloc _).alloc _).drew)⟩
   rw [NX.out]
   refine ret3_eq rfl ?_ rfl
   have := HC.out
   first | rfl | omega | (simp; done)
 · try have hx32 := hx rfl
   clear hx
   go_enter Tryz.func110, Tryz.ntmps110
   go_wp2_with fail
   refine (check_calls A c _ l HN.out _ H.out).mono ?_
   rintro e w' ⟨rfl, rfl⟩
   go_wp2_with fail
   refine (RC.out _ H.out).mono ?_
   rintro e w' ⟨rfl, hc1⟩
   have C1 := Ad hc1
   clear hc1
   go_wp2_with fail
   go_region_held3 (fun W => W.cell? ⟨w'.heap.size, 0, none⟩ = some (.bool true) /\ W.cell? ⟨w'.heap.size, 1, none⟩ = some (.bool r) /\ W.cell? ⟨w'.heap.size, 2, none⟩ = some (.int .i64 ctrl) /\ W.cell? ⟨w'.heap.size, 3, none⟩ = some (.int .i64 data) /\ W.cell? ⟨w'.heap.size, 4, none⟩ = some (.int .i64 size)) (go_keep)
     ((go_at_call 134; refine (SC.out _).mono ?_; rintro e w2 ⟨rfl, rfl⟩))
   rename _ /\ _ => hHeld
   clear hHeld
   go_wp2_with fail
   have x0 := widths0
   have x1 := widths1
   have x2 := widths2
   have x3 := widths3
   have x4 := widths4
   have x5 := widths5
   have x6 := widths6
   have x7 := widths7
   have x8 := widths8
   refine wp_loop_rounds 10 ?_
   rw [rounds_succ]
   go_wp2
   rw [rounds_succ]
   go_wp2
   rw [rounds_succ]
   go_wp2
   rw [rounds_succ]
   go_wp2
   go_ret3
   refine ⟨?_, (((C1.out.alloc _).alloc _).drew)⟩
   rw [NX.out]
   refine ret3_eq rfl ?_ rfl
   have := HC.out
   first | rfl | omega | (simp; done)
set_option maxRecDepth 100000 in
theorem next_s (A : Option Addr) (c n s : Nat) (l : List Int) (hn : l.length = n) (h13 : 13 < n) (h32 : ¬ ((Pl.read l).1.ext = true /\ n <= 32)) (hw : (Pl.read l).2 = true) (hs : (Pl.read l).1.sum = s) (hc : s <= n) (hc2 : n < s + 15) (w : World) (h : Ls w A c l) :
   Calls Tryz.prog 110 #[.slice A n c] w fun e w' => e = .returned (fv (Pl.next l)) /\ Ch [] w w' := by
 have hlen := h.rds.len63 hn
 have H := Ad h
 have HN := Ad hn
 have RC := Ad (read_calls A c n l hn)
 obtain ⟨d1, d2, d3, d4, d5, d6⟩ := Pl.read_data l hw
 have n3 : Pl.next l = Pl.field l.length (Pl.read l).1.data (Pl.read l).1.sum := by unfold Pl.next; rw [if_neg (by omega), if_neg (by omega), if_neg (by rw [hn]; exact h32), if_neg (by rw [hw]; decide)]
 obtain ⟨⟨⟨x, r, ctrl, data, size⟩, wh⟩, hr⟩ : ∃ q, Pl.read l = q := ⟨_, rfl⟩
 rw [hr] at RC n3 h32 hw hs d1 d2 d3 d4 d5 d6
 simp only [] at h32 n3 hw hs d1 d2 d3 d4 d5 d6
 rw [hs] at n3 d5 d6
 rw [hn] at n3 d1
 have SC := Ad (sum_calls x r ctrl data size s hs (by omega) (by omega))
 have NX := Ad (show fv (Pl.next l) = .tuple #[.int .i64 4, .int .i64 ((n : Int) - s), .int .i64 0] by
   rw [n3]
   unfold Pl.field fv
   rw [if_neg (by omega), if_pos (by omega)]
   simp only []
   refine congrArg Value.tuple ?_
   rw [show ((n - s : Nat) : Int) = (n : Int) - s by omega]; rfl)
 subst hw
 unfold hv at RC
 clear hr hn h hs n3
 have i0 : ((n : Int) == 0) = false := by simp; omega
 have hx : x = true -> (32 : Int) < n := fun hx => by
   have : ¬ n <= 32 := fun h' => h32 ⟨hx, h'⟩
   omega
 clear h32
 have HC := Ad hc
 rcases x with _ | _
 · try have hx32 := hx rfl
   clear hx
   go_enter Tryz.func110, Tryz.ntmps110
   go_wp2_with fail
   refine (check_calls A c _ l HN.out _ H.out).mono ?_
   rintro e w' ⟨rfl, rfl⟩
   go_wp2_with fail
   refine (RC.out _ H.out).mono ?_
   rintro e w' ⟨rfl, hc1⟩
   have C1 := Ad hc1
   clear hc1
   go_wp2_with fail
   go_region_held3 (fun W => W.cell? ⟨w'.heap.size, 0, none⟩ = some (.bool false) /\ W.cell? ⟨w'.heap.size, 1, none⟩ = some (.bool r) /\ W.cell? ⟨w'.heap.size, 2, none⟩ = some (.int .i64 ctrl) /\ W.cell? ⟨w'.heap.size, 3, none⟩ = some (.int .i64 data) /\ W.cell? ⟨w'.heap.size, 4, none⟩ = some (.int .i64 size)) (go_keep)
     ((go_at_call 134; refine (SC.out _).mono ?_; rintro e w2 ⟨rfl, rfl⟩))
   rename _ /\ _ => hHeld
   clear hHeld
   go_wp2_with fail
   have x0 := widths0
   have x1 := widths1
   have x2 := widths2
   have x3 := widths3
   have x4 := widths4
   have x5 := widths5
   have x6 := widths6
   have x7 := widths7
   have x8 := widths8
   refine wp_loop_rounds 10 ?_
   rw [rounds_succ]
   go_wp2
   rw [rounds_succ]
   go_wp2
   rw [rounds_succ]
   go_wp2
   rw [rounds_succ]
   go_wp2
   rw [rounds_succ]
   go_wp2
   go_ret3
   refine ⟨?_, (((C1.out.alloc _).alloc _).drew)⟩
   rw [NX.out]
   refine ret3_eq rfl ?_ rfl
   have := HC.out
   first | rfl | omega | (simp; done)
 · try have hx32 := hx rfl
   clear hx
   go_enter Tryz.func110, Tryz.ntmps110
   go_wp2_with fail
   refine (check_calls A c _ l HN.out _ H.out).mono ?_
   rintro e w' ⟨rfl, rfl⟩
   go_wp2_with fail
   refine (RC.out _ H.out).mono ?_
   rintro e w' ⟨rfl, hc1⟩
   have C1 := Ad hc1
   clear hc1
   go_wp2_with fail
   go_region_held3 (fun W => W.cell? ⟨w'.heap.size, 0, none⟩ = some (.bool true) /\ W.cell? ⟨w'.heap.size, 1, none⟩ = some (.bool r) /\ W.cell? ⟨w'.heap.size, 2, none⟩ = some (.int .i64 ctrl) /\ W.cell? ⟨w'.heap.size, 3, none⟩ = some (.int .i64 data) /\ W.cell? ⟨w'.heap.size, 4, none⟩ = some (.int .i64 size)) (go_keep)
     ((go_at_call 134; refine (SC.out _).mono ?_; rintro e w2 ⟨rfl, rfl⟩))
   rename _ /\ _ => hHeld
   clear hHeld
   go_wp2_with fail
   have x0 := widths0
   have x1 := widths1
   have x2 := widths2
   have x3 := widths3
   have x4 := widths4
   have x5 := widths5
   have x6 := widths6
   have x7 := widths7
   have x8 := widths8
   refine wp_loop_rounds 10 ?_
   rw [rounds_succ]
   go_wp2
   rw [rounds_succ]
   go_wp2
   rw [rounds_succ]
   go_wp2
   rw [rounds_succ]
   go_wp2
   rw [rounds_succ]
   go_wp2
   go_ret3
   refine ⟨?_, (((C1.out.alloc _).alloc _).drew)⟩
   rw [NX.out]
   refine ret3_eq rfl ?_ rfl
   have := HC.out
   first | rfl | omega | (simp; done)
set_option maxRecDepth 100000 in
theorem next_l (A : Option Addr) (c n s : Nat) (l : List Int) (hn : l.length = n) (h13 : 13 < n) (h32 : ¬ ((Pl.read l).1.ext = true /\ n <= 32)) (hw : (Pl.read l).2 = true) (hs : (Pl.read l).1.sum = s) (hc : n = s + 15) (w : World) (h : Ls w A c l) :
   Calls Tryz.prog 110 #[.slice A n c] w fun e w' => e = .returned (fv (Pl.next l)) /\ Ch [] w w' := by
 have hlen := h.rds.len63 hn
 have H := Ad h
 have HN := Ad hn
 have RC := Ad (read_calls A c n l hn)
 obtain ⟨d1, d2, d3, d4, d5, d6⟩ := Pl.read_data l hw
 have n3 : Pl.next l = Pl.field l.length (Pl.read l).1.data (Pl.read l).1.sum := by unfold Pl.next; rw [if_neg (by omega), if_neg (by omega), if_neg (by rw [hn]; exact h32), if_neg (by rw [hw]; decide)]
 obtain ⟨⟨⟨x, r, ctrl, data, size⟩, wh⟩, hr⟩ : ∃ q, Pl.read l = q := ⟨_, rfl⟩
 rw [hr] at RC n3 h32 hw hs d1 d2 d3 d4 d5 d6
 simp only [] at h32 n3 hw hs d1 d2 d3 d4 d5 d6
 rw [hs] at n3 d5 d6
 rw [hn] at n3 d1
 have SC := Ad (sum_calls x r ctrl data size s hs (by omega) (by omega))
 have NX := Ad (show fv (Pl.next l) = .tuple #[.int .i64 5, .int .i64 (0), .int .i64 0] by
   rw [n3]
   unfold Pl.field fv
   rw [if_neg (by omega), if_neg (by omega), if_pos (by omega)]
   simp only []
   refine congrArg Value.tuple ?_
   rw [show ((n - (s + 15) : Nat) : Int) = 0 by omega]; rfl)
 subst hw
 unfold hv at RC
 clear hr hn h hs n3
 have i0 : ((n : Int) == 0) = false := by simp; omega
 have hx : x = true -> (32 : Int) < n := fun hx => by
   have : ¬ n <= 32 := fun h' => h32 ⟨hx, h'⟩
   omega
 clear h32
 have HC := Ad hc
 have hca : (n : Int) <= s + 15 := by omega
 have hcb : (s : Int) + 15 <= n := by omega
 clear hc
 rcases x with _ | _
 · try have hx32 := hx rfl
   clear hx
   go_enter Tryz.func110, Tryz.ntmps110
   go_wp2_with fail
   refine (check_calls A c _ l HN.out _ H.out).mono ?_
   rintro e w' ⟨rfl, rfl⟩
   go_wp2_with fail
   refine (RC.out _ H.out).mono ?_
   rintro e w' ⟨rfl, hc1⟩
   have C1 := Ad hc1
   clear hc1
   go_wp2_with fail
   go_region_held3 (fun W => W.cell? ⟨w'.heap.size, 0, none⟩ = some (.bool false) /\ W.cell? ⟨w'.heap.size, 1, none⟩ = some (.bool r) /\ W.cell? ⟨w'.heap.size, 2, none⟩ = some (.int .i64 ctrl) /\ W.cell? ⟨w'.heap.size, 3, none⟩ = some (.int .i64 data) /\ W.cell? ⟨w'.heap.size, 4, none⟩ = some (.int .i64 size)) (go_keep)
     ((go_at_call 134; refine (SC.out _).mono ?_; rintro e w2 ⟨rfl, rfl⟩))
   rename _ /\ _ => hHeld
   clear hHeld
   go_wp2_with fail
   have x0 := widths0
   have x1 := widths1
   have x2 := widths2
   have x3 := widths3
   have x4 := widths4
   have x5 := widths5
   have x6 := widths6
   have x7 := widths7
   have x8 := widths8
   refine wp_loop_rounds 10 ?_
   rw [rounds_succ]
   go_wp2
   rw [rounds_succ]
   go_wp2
   rw [rounds_succ]
   go_wp2
   rw [rounds_succ]
   go_wp2
   rw [rounds_succ]
   go_wp2
   rw [rounds_succ]
   go_wp2
   go_ret3
   refine ⟨?_, (((C1.out.alloc _).alloc _).drew)⟩
   rw [NX.out]
   refine ret3_eq rfl ?_ rfl
   have := HC.out
   first | rfl | omega | (simp; done)
 · try have hx32 := hx rfl
   clear hx
   go_enter Tryz.func110, Tryz.ntmps110
   go_wp2_with fail
   refine (check_calls A c _ l HN.out _ H.out).mono ?_
   rintro e w' ⟨rfl, rfl⟩
   go_wp2_with fail
   refine (RC.out _ H.out).mono ?_
   rintro e w' ⟨rfl, hc1⟩
   have C1 := Ad hc1
   clear hc1
   go_wp2_with fail
   go_region_held3 (fun W => W.cell? ⟨w'.heap.size, 0, none⟩ = some (.bool true) /\ W.cell? ⟨w'.heap.size, 1, none⟩ = some (.bool r) /\ W.cell? ⟨w'.heap.size, 2, none⟩ = some (.int .i64 ctrl) /\ W.cell? ⟨w'.heap.size, 3, none⟩ = some (.int .i64 data) /\ W.cell? ⟨w'.heap.size, 4, none⟩ = some (.int .i64 size)) (go_keep)
     ((go_at_call 134; refine (SC.out _).mono ?_; rintro e w2 ⟨rfl, rfl⟩))
   rename _ /\ _ => hHeld
   clear hHeld
   go_wp2_with fail
   have x0 := widths0
   have x1 := widths1
   have x2 := widths2
   have x3 := widths3
   have x4 := widths4
   have x5 := widths5
   have x6 := widths6
   have x7 := widths7
   have x8 := widths8
   refine wp_loop_rounds 10 ?_
   rw [rounds_succ]
   go_wp2
   rw [rounds_succ]
   go_wp2
   rw [rounds_succ]
   go_wp2
   rw [rounds_succ]
   go_wp2
   rw [rounds_succ]
   go_wp2
   rw [rounds_succ]
   go_wp2
   go_ret3
   refine ⟨?_, (((C1.out.alloc _).alloc _).drew)⟩
   rw [NX.out]
   refine ret3_eq rfl ?_ rfl
   have := HC.out
   first | rfl | omega | (simp; done)
set_option maxRecDepth 100000 in
theorem next_k (A : Option Addr) (c n s : Nat) (l : List Int) (hn : l.length = n) (h13 : 13 < n) (h32 : ¬ ((Pl.read l).1.ext = true /\ n <= 32)) (hw : (Pl.read l).2 = true) (hs : (Pl.read l).1.sum = s) (hc : n = s + 16) (w : World) (h : Ls w A c l) :
   Calls Tryz.prog 110 #[.slice A n c] w fun e w' => e = .returned (fv (Pl.next l)) /\ Ch [] w w' := by
 have hlen := h.rds.len63 hn
 have H := Ad h
 have HN := Ad hn
 have RC := Ad (read_calls A c n l hn)
 obtain ⟨d1, d2, d3, d4, d5, d6⟩ := Pl.read_data l hw
 have n3 : Pl.next l = Pl.field l.length (Pl.read l).1.data (Pl.read l).1.sum := by unfold Pl.next; rw [if_neg (by omega), if_neg (by omega), if_neg (by rw [hn]; exact h32), if_neg (by rw [hw]; decide)]
 obtain ⟨⟨⟨x, r, ctrl, data, size⟩, wh⟩, hr⟩ : ∃ q, Pl.read l = q := ⟨_, rfl⟩
 rw [hr] at RC n3 h32 hw hs d1 d2 d3 d4 d5 d6
 simp only [] at h32 n3 hw hs d1 d2 d3 d4 d5 d6
 rw [hs] at n3 d5 d6
 rw [hn] at n3 d1
 have SC := Ad (sum_calls x r ctrl data size s hs (by omega) (by omega))
 have NX := Ad (show fv (Pl.next l) = .tuple #[.int .i64 6, .int .i64 (0), .int .i64 0] by
   rw [n3]
   unfold Pl.field fv
   rw [if_neg (by omega), if_neg (by omega), if_neg (by omega), if_pos (by omega)]
   simp only []
   refine congrArg Value.tuple ?_
   rw [show ((n - (s + 16) : Nat) : Int) = 0 by omega]; rfl)
 subst hw
 unfold hv at RC
 clear hr hn h hs n3
 have i0 : ((n : Int) == 0) = false := by simp; omega
 have hx : x = true -> (32 : Int) < n := fun hx => by
   have : ¬ n <= 32 := fun h' => h32 ⟨hx, h'⟩
   omega
 clear h32
 have HC := Ad hc
 have hca : (n : Int) <= s + 16 := by omega
 have hcb : (s : Int) + 16 <= n := by omega
 clear hc
 rcases x with _ | _
 · try have hx32 := hx rfl
   clear hx
   go_enter Tryz.func110, Tryz.ntmps110
   go_wp2_with fail
   refine (check_calls A c _ l HN.out _ H.out).mono ?_
   rintro e w' ⟨rfl, rfl⟩
   go_wp2_with fail
   refine (RC.out _ H.out).mono ?_
   rintro e w' ⟨rfl, hc1⟩
   have C1 := Ad hc1
   clear hc1
   go_wp2_with fail
   go_region_held3 (fun W => W.cell? ⟨w'.heap.size, 0, none⟩ = some (.bool false) /\ W.cell? ⟨w'.heap.size, 1, none⟩ = some (.bool r) /\ W.cell? ⟨w'.heap.size, 2, none⟩ = some (.int .i64 ctrl) /\ W.cell? ⟨w'.heap.size, 3, none⟩ = some (.int .i64 data) /\ W.cell? ⟨w'.heap.size, 4, none⟩ = some (.int .i64 size)) (go_keep)
     ((go_at_call 134; refine (SC.out _).mono ?_; rintro e w2 ⟨rfl, rfl⟩))
   rename _ /\ _ => hHeld
   clear hHeld
   go_wp2_with fail
   have x0 := widths0
   have x1 := widths1
   have x2 := widths2
   have x3 := widths3
   have x4 := widths4
   have x5 := widths5
   have x6 := widths6
   have x7 := widths7
   have x8 := widths8
   refine wp_loop_rounds 10 ?_
   rw [rounds_succ]
   go_wp2
   rw [rounds_succ]
   go_wp2
   rw [rounds_succ]
   go_wp2
   rw [rounds_succ]
   go_wp2
   rw [rounds_succ]
   go_wp2
   rw [rounds_succ]
   go_wp2
   rw [rounds_succ]
   go_wp2
   go_ret3
   refine ⟨?_, (((C1.out.alloc _).alloc _).drew)⟩
   rw [NX.out]
   refine ret3_eq rfl ?_ rfl
   have := HC.out
   first | rfl | omega | (simp; done)
 · try have hx32 := hx rfl
   clear hx
   go_enter Tryz.func110, Tryz.ntmps110
   go_wp2_with fail
   refine (check_calls A c _ l HN.out _ H.out).mono ?_
   rintro e w' ⟨rfl, rfl⟩
   go_wp2_with fail
   refine (RC.out _ H.out).mono ?_
   rintro e w' ⟨rfl, hc1⟩
   have C1 := Ad hc1
   clear hc1
   go_wp2_with fail
   go_region_held3 (fun W => W.cell? ⟨w'.heap.size, 0, none⟩ = some (.bool true) /\ W.cell? ⟨w'.heap.size, 1, none⟩ = some (.bool r) /\ W.cell? ⟨w'.heap.size, 2, none⟩ = some (.int .i64 ctrl) /\ W.cell? ⟨w'.heap.size, 3, none⟩ = some (.int .i64 data) /\ W.cell? ⟨w'.heap.size, 4, none⟩ = some (.int .i64 size)) (go_keep)
     ((go_at_call 134; refine (SC.out _).mono ?_; rintro e w2 ⟨rfl, rfl⟩))
   rename _ /\ _ => hHeld
   clear hHeld
   go_wp2_with fail
   have x0 := widths0
   have x1 := widths1
   have x2 := widths2
   have x3 := widths3
   have x4 := widths4
   have x5 := widths5
   have x6 := widths6
   have x7 := widths7
   have x8 := widths8
   refine wp_loop_rounds 10 ?_
   rw [rounds_succ]
   go_wp2
   rw [rounds_succ]
   go_wp2
   rw [rounds_succ]
   go_wp2
   rw [rounds_succ]
   go_wp2
   rw [rounds_succ]
   go_wp2
   rw [rounds_succ]
   go_wp2
   rw [rounds_succ]
   go_wp2
   go_ret3
   refine ⟨?_, (((C1.out.alloc _).alloc _).drew)⟩
   rw [NX.out]
   refine ret3_eq rfl ?_ rfl
   have := HC.out
   first | rfl | omega | (simp; done)
set_option maxRecDepth 100000 in
theorem next_a (A : Option Addr) (c n s : Nat) (l : List Int) (hn : l.length = n) (h13 : 13 < n) (h32 : ¬ ((Pl.read l).1.ext = true /\ n <= 32)) (hw : (Pl.read l).2 = true) (hs : (Pl.read l).1.sum = s) (hc : n = s + 17) (w : World) (h : Ls w A c l) :
   Calls Tryz.prog 110 #[.slice A n c] w fun e w' => e = .returned (fv (Pl.next l)) /\ Ch [] w w' := by
 have hlen := h.rds.len63 hn
 have H := Ad h
 have HN := Ad hn
 have RC := Ad (read_calls A c n l hn)
 obtain ⟨d1, d2, d3, d4, d5, d6⟩ := Pl.read_data l hw
 have n3 : Pl.next l = Pl.field l.length (Pl.read l).1.data (Pl.read l).1.sum := by unfold Pl.next; rw [if_neg (by omega), if_neg (by omega), if_neg (by rw [hn]; exact h32), if_neg (by rw [hw]; decide)]
 obtain ⟨⟨⟨x, r, ctrl, data, size⟩, wh⟩, hr⟩ : ∃ q, Pl.read l = q := ⟨_, rfl⟩
 rw [hr] at RC n3 h32 hw hs d1 d2 d3 d4 d5 d6
 simp only [] at h32 n3 hw hs d1 d2 d3 d4 d5 d6
 rw [hs] at n3 d5 d6
 rw [hn] at n3 d1
 have SC := Ad (sum_calls x r ctrl data size s hs (by omega) (by omega))
 have NX := Ad (show fv (Pl.next l) = .tuple #[.int .i64 7, .int .i64 (0), .int .i64 0] by
   rw [n3]
   unfold Pl.field fv
   rw [if_neg (by omega), if_neg (by omega), if_neg (by omega), if_neg (by omega), if_pos (by omega)]
   simp only []
   refine congrArg Value.tuple ?_
   rw [show ((n - (s + 17) : Nat) : Int) = 0 by omega]; rfl)
 subst hw
 unfold hv at RC
 clear hr hn h hs n3
 have i0 : ((n : Int) == 0) = false := by simp; omega
 have hx : x = true -> (32 : Int) < n := fun hx => by
   have : ¬ n <= 32 := fun h' => h32 ⟨hx, h'⟩
   omega
 clear h32
 have HC := Ad hc
 have hca : (n : Int) <= s + 17 := by omega
 have hcb : (s : Int) + 17 <= n := by omega
 clear hc
 rcases x with _ | _
 · try have hx32 := hx rfl
   clear hx
   go_enter Tryz.func110, Tryz.ntmps110
   go_wp2_with fail
   refine (check_calls A c _ l HN.out _ H.out).mono ?_
   rintro e w' ⟨rfl, rfl⟩
   go_wp2_with fail
   refine (RC.out _ H.out).mono ?_
   rintro e w' ⟨rfl, hc1⟩
   have C1 := Ad hc1
   clear hc1
   go_wp2_with fail
   go_region_held3 (fun W => W.cell? ⟨w'.heap.size, 0, none⟩ = some (.bool false) /\ W.cell? ⟨w'.heap.size, 1, none⟩ = some (.bool r) /\ W.cell? ⟨w'.heap.size, 2, none⟩ = some (.int .i64 ctrl) /\ W.cell? ⟨w'.heap.size, 3, none⟩ = some (.int .i64 data) /\ W.cell? ⟨w'.heap.size, 4, none⟩ = some (.int .i64 size)) (go_keep)
     ((go_at_call 134; refine (SC.out _).mono ?_; rintro e w2 ⟨rfl, rfl⟩))
   rename _ /\ _ => hHeld
   clear hHeld
   go_wp2_with fail
   have x0 := widths0
   have x1 := widths1
   have x2 := widths2
   have x3 := widths3
   have x4 := widths4
   have x5 := widths5
   have x6 := widths6
   have x7 := widths7
   have x8 := widths8
   refine wp_loop_rounds 10 ?_
   rw [rounds_succ]
   go_wp2
   rw [rounds_succ]
   go_wp2
   rw [rounds_succ]
   go_wp2
   rw [rounds_succ]
   go_wp2
   rw [rounds_succ]
   go_wp2
   rw [rounds_succ]
   go_wp2
   rw [rounds_succ]
   go_wp2
   rw [rounds_succ]
   go_wp2
   go_ret3
   refine ⟨?_, (((C1.out.alloc _).alloc _).drew)⟩
   rw [NX.out]
   refine ret3_eq rfl ?_ rfl
   have := HC.out
   first | rfl | omega | (simp; done)
 · try have hx32 := hx rfl
   clear hx
   go_enter Tryz.func110, Tryz.ntmps110
   go_wp2_with fail
   refine (check_calls A c _ l HN.out _ H.out).mono ?_
   rintro e w' ⟨rfl, rfl⟩
   go_wp2_with fail
   refine (RC.out _ H.out).mono ?_
   rintro e w' ⟨rfl, hc1⟩
   have C1 := Ad hc1
   clear hc1
   go_wp2_with fail
   go_region_held3 (fun W => W.cell? ⟨w'.heap.size, 0, none⟩ = some (.bool true) /\ W.cell? ⟨w'.heap.size, 1, none⟩ = some (.bool r) /\ W.cell? ⟨w'.heap.size, 2, none⟩ = some (.int .i64 ctrl) /\ W.cell? ⟨w'.heap.size, 3, none⟩ = some (.int .i64 data) /\ W.cell? ⟨w'.heap.size, 4, none⟩ = some (.int .i64 size)) (go_keep)
     ((go_at_call 134; refine (SC.out _).mono ?_; rintro e w2 ⟨rfl, rfl⟩))
   rename _ /\ _ => hHeld
   clear hHeld
   go_wp2_with fail
   have x0 := widths0
   have x1 := widths1
   have x2 := widths2
   have x3 := widths3
   have x4 := widths4
   have x5 := widths5
   have x6 := widths6
   have x7 := widths7
   have x8 := widths8
   refine wp_loop_rounds 10 ?_
   rw [rounds_succ]
   go_wp2
   rw [rounds_succ]
   go_wp2
   rw [rounds_succ]
   go_wp2
   rw [rounds_succ]
   go_wp2
   rw [rounds_succ]
   go_wp2
   rw [rounds_succ]
   go_wp2
   rw [rounds_succ]
   go_wp2
   rw [rounds_succ]
   go_wp2
   go_ret3
   refine ⟨?_, (((C1.out.alloc _).alloc _).drew)⟩
   rw [NX.out]
   refine ret3_eq rfl ?_ rfl
   have := HC.out
   first | rfl | omega | (simp; done)
set_option maxRecDepth 100000 in
theorem next_e (A : Option Addr) (c n s : Nat) (l : List Int) (hn : l.length = n) (h13 : 13 < n) (h32 : ¬ ((Pl.read l).1.ext = true /\ n <= 32)) (hw : (Pl.read l).2 = true) (hs : (Pl.read l).1.sum = s) (hc : s + 18 <= n) (hc2 : n < s + 25) (w : World) (h : Ls w A c l) :
   Calls Tryz.prog 110 #[.slice A n c] w fun e w' => e = .returned (fv (Pl.next l)) /\ Ch [] w w' := by
 have hlen := h.rds.len63 hn
 have H := Ad h
 have HN := Ad hn
 have RC := Ad (read_calls A c n l hn)
 obtain ⟨d1, d2, d3, d4, d5, d6⟩ := Pl.read_data l hw
 have n3 : Pl.next l = Pl.field l.length (Pl.read l).1.data (Pl.read l).1.sum := by unfold Pl.next; rw [if_neg (by omega), if_neg (by omega), if_neg (by rw [hn]; exact h32), if_neg (by rw [hw]; decide)]
 obtain ⟨⟨⟨x, r, ctrl, data, size⟩, wh⟩, hr⟩ : ∃ q, Pl.read l = q := ⟨_, rfl⟩
 rw [hr] at RC n3 h32 hw hs d1 d2 d3 d4 d5 d6
 simp only [] at h32 n3 hw hs d1 d2 d3 d4 d5 d6
 rw [hs] at n3 d5 d6
 rw [hn] at n3 d1
 have SC := Ad (sum_calls x r ctrl data size s hs (by omega) (by omega))
 have NX := Ad (show fv (Pl.next l) = .tuple #[.int .i64 8, .int .i64 ((n : Int) - (s + 18)), .int .i64 0] by
   rw [n3]
   unfold Pl.field fv
   rw [if_neg (by omega), if_neg (by omega), if_neg (by omega), if_neg (by omega), if_neg (by omega), if_pos (by omega)]
   simp only []
   refine congrArg Value.tuple ?_
   rw [show ((n - (s + 18) : Nat) : Int) = (n : Int) - (s + 18) by omega]; rfl)
 subst hw
 unfold hv at RC
 clear hr hn h hs n3
 have i0 : ((n : Int) == 0) = false := by simp; omega
 have hx : x = true -> (32 : Int) < n := fun hx => by
   have : ¬ n <= 32 := fun h' => h32 ⟨hx, h'⟩
   omega
 clear h32
 have HC := Ad hc
 rcases x with _ | _
 · try have hx32 := hx rfl
   clear hx
   go_enter Tryz.func110, Tryz.ntmps110
   go_wp2_with fail
   refine (check_calls A c _ l HN.out _ H.out).mono ?_
   rintro e w' ⟨rfl, rfl⟩
   go_wp2_with fail
   refine (RC.out _ H.out).mono ?_
   rintro e w' ⟨rfl, hc1⟩
   have C1 := Ad hc1
   clear hc1
   go_wp2_with fail
   go_region_held3 (fun W => W.cell? ⟨w'.heap.size, 0, none⟩ = some (.bool false) /\ W.cell? ⟨w'.heap.size, 1, none⟩ = some (.bool r) /\ W.cell? ⟨w'.heap.size, 2, none⟩ = some (.int .i64 ctrl) /\ W.cell? ⟨w'.heap.size, 3, none⟩ = some (.int .i64 data) /\ W.cell? ⟨w'.heap.size, 4, none⟩ = some (.int .i64 size)) (go_keep)
     ((go_at_call 134; refine (SC.out _).mono ?_; rintro e w2 ⟨rfl, rfl⟩))
   rename _ /\ _ => hHeld
   clear hHeld
   go_wp2_with fail
   have x0 := widths0
   have x1 := widths1
   have x2 := widths2
   have x3 := widths3
   have x4 := widths4
   have x5 := widths5
   have x6 := widths6
   have x7 := widths7
   have x8 := widths8
   refine wp_loop_rounds 10 ?_
   rw [rounds_succ]
   go_wp2
   rw [rounds_succ]
   go_wp2
   rw [rounds_succ]
   go_wp2
   rw [rounds_succ]
   go_wp2
   rw [rounds_succ]
   go_wp2
   rw [rounds_succ]
   go_wp2
   rw [rounds_succ]
   go_wp2
   rw [rounds_succ]
   go_wp2
   rw [rounds_succ]
   go_wp2
   go_ret3
   refine ⟨?_, (((C1.out.alloc _).alloc _).drew)⟩
   rw [NX.out]
   refine ret3_eq rfl ?_ rfl
   have := HC.out
   first | rfl | omega | (simp; done)
 · try have hx32 := hx rfl
   clear hx
   go_enter Tryz.func110, Tryz.ntmps110
   go_wp2_with fail
   refine (check_calls A c _ l HN.out _ H.out).mono ?_
   rintro e w' ⟨rfl, rfl⟩
   go_wp2_with fail
   refine (RC.out _ H.out).mono ?_
   rintro e w' ⟨rfl, hc1⟩
   have C1 := Ad hc1
   clear hc1
   go_wp2_with fail
   go_region_held3 (fun W => W.cell? ⟨w'.heap.size, 0, none⟩ = some (.bool true) /\ W.cell? ⟨w'.heap.size, 1, none⟩ = some (.bool r) /\ W.cell? ⟨w'.heap.size, 2, none⟩ = some (.int .i64 ctrl) /\ W.cell? ⟨w'.heap.size, 3, none⟩ = some (.int .i64 data) /\ W.cell? ⟨w'.heap.size, 4, none⟩ = some (.int .i64 size)) (go_keep)
     ((go_at_call 134; refine (SC.out _).mono ?_; rintro e w2 ⟨rfl, rfl⟩))
   rename _ /\ _ => hHeld
   clear hHeld
   go_wp2_with fail
   have x0 := widths0
   have x1 := widths1
   have x2 := widths2
   have x3 := widths3
   have x4 := widths4
   have x5 := widths5
   have x6 := widths6
   have x7 := widths7
   have x8 := widths8
   refine wp_loop_rounds 10 ?_
   rw [rounds_succ]
   go_wp2
   rw [rounds_succ]
   go_wp2
   rw [rounds_succ]
   go_wp2
   rw [rounds_succ]
   go_wp2
   rw [rounds_succ]
   go_wp2
   rw [rounds_succ]
   go_wp2
   rw [rounds_succ]
   go_wp2
   rw [rounds_succ]
   go_wp2
   rw [rounds_succ]
   go_wp2
   go_ret3
   refine ⟨?_, (((C1.out.alloc _).alloc _).drew)⟩
   rw [NX.out]
   refine ret3_eq rfl ?_ rfl
   have := HC.out
   first | rfl | omega | (simp; done)
set_option maxRecDepth 100000 in
theorem next_o (A : Option Addr) (c n s : Nat) (l : List Int) (hn : l.length = n) (h13 : 13 < n) (h32 : ¬ ((Pl.read l).1.ext = true /\ n <= 32)) (hw : (Pl.read l).2 = true) (hs : (Pl.read l).1.sum = s) (hc : s + 25 < n) (w : World) (h : Ls w A c l) :
   Calls Tryz.prog 110 #[.slice A n c] w fun e w' => e = .returned (fv (Pl.next l)) /\ Ch [] w w' := by
 have hlen := h.rds.len63 hn
 have H := Ad h
 have HN := Ad hn
 have RC := Ad (read_calls A c n l hn)
 obtain ⟨d1, d2, d3, d4, d5, d6⟩ := Pl.read_data l hw
 have n3 : Pl.next l = Pl.field l.length (Pl.read l).1.data (Pl.read l).1.sum := by unfold Pl.next; rw [if_neg (by omega), if_neg (by omega), if_neg (by rw [hn]; exact h32), if_neg (by rw [hw]; decide)]
 obtain ⟨⟨⟨x, r, ctrl, data, size⟩, wh⟩, hr⟩ : ∃ q, Pl.read l = q := ⟨_, rfl⟩
 rw [hr] at RC n3 h32 hw hs d1 d2 d3 d4 d5 d6
 simp only [] at h32 n3 hw hs d1 d2 d3 d4 d5 d6
 rw [hs] at n3 d5 d6
 rw [hn] at n3 d1
 have SC := Ad (sum_calls x r ctrl data size s hs (by omega) (by omega))
 have NX := Ad (show fv (Pl.next l) = .tuple #[.int .i64 0, .int .i64 (0), .int .i64 12] by
   rw [n3]
   unfold Pl.field fv
   rw [if_neg (by omega), if_neg (by omega), if_neg (by omega), if_neg (by omega), if_neg (by omega), if_neg (by omega), if_pos (by omega)]
   simp only []
   refine congrArg Value.tuple ?_
   rw [show ((0 : Nat) : Int) = 0 by omega]; rfl)
 subst hw
 unfold hv at RC
 clear hr hn h hs n3
 have i0 : ((n : Int) == 0) = false := by simp; omega
 have hx : x = true -> (32 : Int) < n := fun hx => by
   have : ¬ n <= 32 := fun h' => h32 ⟨hx, h'⟩
   omega
 clear h32
 have HC := Ad hc
 rcases x with _ | _
 · try have hx32 := hx rfl
   clear hx
   go_enter Tryz.func110, Tryz.ntmps110
   go_wp2_with fail
   refine (check_calls A c _ l HN.out _ H.out).mono ?_
   rintro e w' ⟨rfl, rfl⟩
   go_wp2_with fail
   refine (RC.out _ H.out).mono ?_
   rintro e w' ⟨rfl, hc1⟩
   have C1 := Ad hc1
   clear hc1
   go_wp2_with fail
   go_region_held3 (fun W => W.cell? ⟨w'.heap.size, 0, none⟩ = some (.bool false) /\ W.cell? ⟨w'.heap.size, 1, none⟩ = some (.bool r) /\ W.cell? ⟨w'.heap.size, 2, none⟩ = some (.int .i64 ctrl) /\ W.cell? ⟨w'.heap.size, 3, none⟩ = some (.int .i64 data) /\ W.cell? ⟨w'.heap.size, 4, none⟩ = some (.int .i64 size)) (go_keep)
     ((go_at_call 134; refine (SC.out _).mono ?_; rintro e w2 ⟨rfl, rfl⟩))
   rename _ /\ _ => hHeld
   clear hHeld
   go_wp2_with fail
   have x0 := widths0
   have x1 := widths1
   have x2 := widths2
   have x3 := widths3
   have x4 := widths4
   have x5 := widths5
   have x6 := widths6
   have x7 := widths7
   have x8 := widths8
   refine wp_loop_rounds 10 ?_
   rw [rounds_succ]
   go_wp2
   rw [rounds_succ]
   go_wp2
   rw [rounds_succ]
   go_wp2
   rw [rounds_succ]
   go_wp2
   rw [rounds_succ]
   go_wp2
   rw [rounds_succ]
   go_wp2
   rw [rounds_succ]
   go_wp2
   rw [rounds_succ]
   go_wp2
   rw [rounds_succ]
   go_wp2
   rw [rounds_succ]
   go_wp2
   go_ret3
   refine ⟨?_, (((C1.out.alloc _).alloc _).drew)⟩
   rw [NX.out]
   refine ret3_eq rfl ?_ rfl
   have := HC.out
   first | rfl | omega | (simp; done)
 · try have hx32 := hx rfl
   clear hx
   go_enter Tryz.func110, Tryz.ntmps110
   go_wp2_with fail
   refine (check_calls A c _ l HN.out _ H.out).mono ?_
   rintro e w' ⟨rfl, rfl⟩
   go_wp2_with fail
   refine (RC.out _ H.out).mono ?_
   rintro e w' ⟨rfl, hc1⟩
   have C1 := Ad hc1
   clear hc1
   go_wp2_with fail
   go_region_held3 (fun W => W.cell? ⟨w'.heap.size, 0, none⟩ = some (.bool true) /\ W.cell? ⟨w'.heap.size, 1, none⟩ = some (.bool r) /\ W.cell? ⟨w'.heap.size, 2, none⟩ = some (.int .i64 ctrl) /\ W.cell? ⟨w'.heap.size, 3, none⟩ = some (.int .i64 data) /\ W.cell? ⟨w'.heap.size, 4, none⟩ = some (.int .i64 size)) (go_keep)
     ((go_at_call 134; refine (SC.out _).mono ?_; rintro e w2 ⟨rfl, rfl⟩))
   rename _ /\ _ => hHeld
   clear hHeld
   go_wp2_with fail
   have x0 := widths0
   have x1 := widths1
   have x2 := widths2
   have x3 := widths3
   have x4 := widths4
   have x5 := widths5
   have x6 := widths6
   have x7 := widths7
   have x8 := widths8
   refine wp_loop_rounds 10 ?_
   rw [rounds_succ]
   go_wp2
   rw [rounds_succ]
   go_wp2
   rw [rounds_succ]
   go_wp2
   rw [rounds_succ]
   go_wp2
   rw [rounds_succ]
   go_wp2
   rw [rounds_succ]
   go_wp2
   rw [rounds_succ]
   go_wp2
   rw [rounds_succ]
   go_wp2
   rw [rounds_succ]
   go_wp2
   rw [rounds_succ]
   go_wp2
   go_ret3
   refine ⟨?_, (((C1.out.alloc _).alloc _).drew)⟩
   rw [NX.out]
   refine ret3_eq rfl ?_ rfl
   have := HC.out
   first | rfl | omega | (simp; done)
set_option maxRecDepth 100000 in
theorem next_n (A : Option Addr) (c n s : Nat) (l : List Int) (hn : l.length = n) (h13 : 13 < n) (h32 : ¬ ((Pl.read l).1.ext = true /\ n <= 32)) (hw : (Pl.read l).2 = true) (hs : (Pl.read l).1.sum = s) (hc : n = s + 25) (w : World) (h : Ls w A c l) :
   Calls Tryz.prog 110 #[.slice A n c] w fun e w' => e = .returned (fv (Pl.next l)) /\ Ch [] w w' := by
 have hlen := h.rds.len63 hn
 have H := Ad h
 have HN := Ad hn
 have RC := Ad (read_calls A c n l hn)
 obtain ⟨d1, d2, d3, d4, d5, d6⟩ := Pl.read_data l hw
 have n3 : Pl.next l = Pl.field l.length (Pl.read l).1.data (Pl.read l).1.sum := by unfold Pl.next; rw [if_neg (by omega), if_neg (by omega), if_neg (by rw [hn]; exact h32), if_neg (by rw [hw]; decide)]
 obtain ⟨⟨⟨x, r, ctrl, data, size⟩, wh⟩, hr⟩ : ∃ q, Pl.read l = q := ⟨_, rfl⟩
 rw [hr] at RC n3 h32 hw hs d1 d2 d3 d4 d5 d6
 simp only [] at h32 n3 hw hs d1 d2 d3 d4 d5 d6
 rw [hs] at n3 d5 d6
 rw [hn] at n3 d1
 have SC := Ad (sum_calls x r ctrl data size s hs (by omega) (by omega))
 have NX := Ad (show fv (Pl.next l) = .tuple #[.int .i64 9, .int .i64 (0), .int .i64 0] by
   rw [n3]
   unfold Pl.field fv
   rw [if_neg (by omega), if_neg (by omega), if_neg (by omega), if_neg (by omega), if_neg (by omega), if_neg (by omega), if_neg (by omega)]
   simp only []
   refine congrArg Value.tuple ?_
   rw [show ((0 : Nat) : Int) = 0 by omega]; rfl)
 subst hw
 unfold hv at RC
 clear hr hn h hs n3
 have i0 : ((n : Int) == 0) = false := by simp; omega
 have hx : x = true -> (32 : Int) < n := fun hx => by
   have : ¬ n <= 32 := fun h' => h32 ⟨hx, h'⟩
   omega
 clear h32
 have HC := Ad hc
 have hca : (n : Int) <= s + 25 := by omega
 have hcb : (s : Int) + 25 <= n := by omega
 clear hc
 rcases x with _ | _
 · try have hx32 := hx rfl
   clear hx
   go_enter Tryz.func110, Tryz.ntmps110
   go_wp2_with fail
   refine (check_calls A c _ l HN.out _ H.out).mono ?_
   rintro e w' ⟨rfl, rfl⟩
   go_wp2_with fail
   refine (RC.out _ H.out).mono ?_
   rintro e w' ⟨rfl, hc1⟩
   have C1 := Ad hc1
   clear hc1
   go_wp2_with fail
   go_region_held3 (fun W => W.cell? ⟨w'.heap.size, 0, none⟩ = some (.bool false) /\ W.cell? ⟨w'.heap.size, 1, none⟩ = some (.bool r) /\ W.cell? ⟨w'.heap.size, 2, none⟩ = some (.int .i64 ctrl) /\ W.cell? ⟨w'.heap.size, 3, none⟩ = some (.int .i64 data) /\ W.cell? ⟨w'.heap.size, 4, none⟩ = some (.int .i64 size)) (go_keep)
     ((go_at_call 134; refine (SC.out _).mono ?_; rintro e w2 ⟨rfl, rfl⟩))
   rename _ /\ _ => hHeld
   clear hHeld
   go_wp2_with fail
   have x0 := widths0
   have x1 := widths1
   have x2 := widths2
   have x3 := widths3
   have x4 := widths4
   have x5 := widths5
   have x6 := widths6
   have x7 := widths7
   have x8 := widths8
   refine wp_loop_rounds 10 ?_
   rw [rounds_succ]
   go_wp2
   rw [rounds_succ]
   go_wp2
   rw [rounds_succ]
   go_wp2
   rw [rounds_succ]
   go_wp2
   rw [rounds_succ]
   go_wp2
   rw [rounds_succ]
   go_wp2
   rw [rounds_succ]
   go_wp2
   rw [rounds_succ]
   go_wp2
   rw [rounds_succ]
   go_wp2
   rw [rounds_succ]
   go_wp2
   go_ret3
   refine ⟨?_, (((C1.out.alloc _).alloc _).drew)⟩
   rw [NX.out]
   refine ret3_eq rfl ?_ rfl
   have := HC.out
   first | rfl | omega | (simp; done)
 · try have hx32 := hx rfl
   clear hx
   go_enter Tryz.func110, Tryz.ntmps110
   go_wp2_with fail
   refine (check_calls A c _ l HN.out _ H.out).mono ?_
   rintro e w' ⟨rfl, rfl⟩
   go_wp2_with fail
   refine (RC.out _ H.out).mono ?_
   rintro e w' ⟨rfl, hc1⟩
   have C1 := Ad hc1
   clear hc1
   go_wp2_with fail
   go_region_held3 (fun W => W.cell? ⟨w'.heap.size, 0, none⟩ = some (.bool true) /\ W.cell? ⟨w'.heap.size, 1, none⟩ = some (.bool r) /\ W.cell? ⟨w'.heap.size, 2, none⟩ = some (.int .i64 ctrl) /\ W.cell? ⟨w'.heap.size, 3, none⟩ = some (.int .i64 data) /\ W.cell? ⟨w'.heap.size, 4, none⟩ = some (.int .i64 size)) (go_keep)
     ((go_at_call 134; refine (SC.out _).mono ?_; rintro e w2 ⟨rfl, rfl⟩))
   rename _ /\ _ => hHeld
   clear hHeld
   go_wp2_with fail
   have x0 := widths0
   have x1 := widths1
   have x2 := widths2
   have x3 := widths3
   have x4 := widths4
   have x5 := widths5
   have x6 := widths6
   have x7 := widths7
   have x8 := widths8
   refine wp_loop_rounds 10 ?_
   rw [rounds_succ]
   go_wp2
   rw [rounds_succ]
   go_wp2
   rw [rounds_succ]
   go_wp2
   rw [rounds_succ]
   go_wp2
   rw [rounds_succ]
   go_wp2
   rw [rounds_succ]
   go_wp2
   rw [rounds_succ]
   go_wp2
   rw [rounds_succ]
   go_wp2
   rw [rounds_succ]
   go_wp2
   rw [rounds_succ]
   go_wp2
   go_ret3
   refine ⟨?_, (((C1.out.alloc _).alloc _).drew)⟩
   rw [NX.out]
   refine ret3_eq rfl ?_ rfl
   have := HC.out
   first | rfl | omega | (simp; done)
theorem next_calls (A : Option Addr) (c n : Nat) (l : List Int) (hn : l.length = n) (w : World) (h : Ls w A c l) :
   Calls Tryz.prog 110 #[.slice A n c] w fun e w' => e = .returned (fv (Pl.next l)) /\ Ch [] w w' := by
 by_cases h1 : n <= 13
 · exact next_early A c n l hn h1 w h
 · by_cases h2 : (Pl.read l).1.ext = true /\ n <= 32
   · exact next_ext A c n l hn (by omega) h2.2 h2.1 w h
   · cases hw : (Pl.read l).2
     · exact next_ctrl A c n l hn (by omega) h2 hw w h
     · obtain ⟨s, hs⟩ : ∃ s, (Pl.read l).1.sum = s := ⟨_, rfl⟩
       rcases Nat.lt_or_ge n s with k | k
       · exact next_d A c n s l hn (by omega) h2 hw hs k w h
       rcases Nat.lt_or_ge n (s + 15) with k1 | k1
       · exact next_s A c n s l hn (by omega) h2 hw hs k k1 w h
       rcases Nat.lt_or_ge n (s + 16) with k2 | k2
       · exact next_l A c n s l hn (by omega) h2 hw hs (by omega) w h
       rcases Nat.lt_or_ge n (s + 17) with k3 | k3
       · exact next_k A c n s l hn (by omega) h2 hw hs (by omega) w h
       rcases Nat.lt_or_ge n (s + 18) with k4 | k4
       · exact next_a A c n s l hn (by omega) h2 hw hs (by omega) w h
       rcases Nat.lt_or_ge n (s + 25) with k5 | k5
       · exact next_e A c n s l hn (by omega) h2 hw hs k4 k5 w h
       rcases Nat.lt_or_ge (s + 25) n with k6 | k6
       · exact next_o A c n s l hn (by omega) h2 hw hs k6 w h
       · exact next_n A c n s l hn (by omega) h2 hw hs (by omega) w h
theorem ahead_yes (A : Option Addr) (c n s : Nat) (l : List Int) (hn : l.length = n) (hw : (Pl.read l).2 = true) (hs : (Pl.read l).1.sum = s) (w : World) (h : Ls w A c l) :
   Calls Tryz.prog 112 #[.slice A n c] w fun e w' => e = .returned (.tuple #[.int .i64 s, .int .i64 0]) /\ Ch [] w w' := by
 have H := Ad h
 have HN := Ad hn
 have RC := Ad (read_calls A c n l hn)
 obtain ⟨d1, d2, d3, d4, d5, d6⟩ := Pl.read_data l hw
 obtain ⟨⟨⟨x, r, ctrl, data, size⟩, wh⟩, hr⟩ : ∃ q, Pl.read l = q := ⟨_, rfl⟩
 rw [hr] at RC hw hs d1 d2 d3 d4 d5 d6
 simp only [] at hw hs d1 d2 d3 d4 d5 d6
 have SC := Ad (sum_calls x r ctrl data size s hs (by omega) (by omega))
 subst hw
 unfold hv at RC
 clear hr hn h hs
 go_enter Tryz.func112, Tryz.ntmps112
 go_wp2_with fail
 refine (check_calls A c _ l HN.out _ H.out).mono ?_
 rintro e w' ⟨rfl, rfl⟩
 go_wp2_with fail
 refine (RC.out _ H.out).mono ?_
 rintro e w' ⟨rfl, hc1⟩
 have C1 := Ad hc1
 clear hc1
 go_wp2_with fail
 refine (SC.out _).mono ?_
 rintro e w2 ⟨rfl, rfl⟩
 go_wp2_with fail
 go_ret2
 exact ⟨rfl, (C1.out.alloc _).alloc _⟩
theorem ahead_no (A : Option Addr) (c n : Nat) (l : List Int) (hn : l.length = n) (hw : (Pl.read l).2 = false) (w : World) (h : Ls w A c l) :
   Calls Tryz.prog 112 #[.slice A n c] w fun e w' => e = .returned (.tuple #[.int .i64 0, .int .i64 13]) /\ Ch [] w w' := by
 have H := Ad h
 have HN := Ad hn
 have RC := Ad (read_calls A c n l hn)
 obtain ⟨⟨⟨x, r, ctrl, data, size⟩, wh⟩, hr⟩ : ∃ q, Pl.read l = q := ⟨_, rfl⟩
 rw [hr] at RC hw
 simp only [] at hw
 subst hw
 unfold hv at RC
 clear hr hn h
 go_enter Tryz.func112, Tryz.ntmps112
 go_wp2_with fail
 refine (check_calls A c _ l HN.out _ H.out).mono ?_
 rintro e w' ⟨rfl, rfl⟩
 go_wp2_with fail
 refine (RC.out _ H.out).mono ?_
 rintro e w' ⟨rfl, hc1⟩
 have C1 := Ad hc1
 clear hc1
 go_wp2_with fail
 go_ret2
 exact ⟨rfl, C1.out.alloc _⟩
theorem fright_yes (A : Option Addr) (c n s : Nat) (l : List Int) (hn : l.length = n) (hw : (Pl.read l).2 = true) (hs : (Pl.read l).1.sum = s) (hl : s + 15 <= n) (w : World) (h : Ls w A c l) :
   Calls Tryz.prog 111 #[.slice A n c] w fun e w' => e = .returned (.tuple #[.bool (Pl.right (l.take (s + 15))), .int .i64 0]) /\ Ch [] w w' := by
 have hlen := h.rds.len63 hn
 have hcap := h.rds.cap
 have cut1 := cut_take Iv 57 rfl A c (s + 15) n hl (by omega)
 have e1 : ((s + 15 : Nat) : Int) = (s : Int) + 15 := by omega
 rw [e1] at cut1
 have H := Ad h
 have HN := Ad hn
 have AC := Ad (ahead_yes A c n s l hn hw hs)
 have hl' : (s : Int) + 15 <= n := by omega
 have HL := Ad hl
 clear h hn hw hs hl e1
 go_enter Tryz.func111, Tryz.ntmps111
 go_wp2_with fail
 refine (AC.out _ H.out).mono ?_
 rintro e w' ⟨rfl, hc1⟩
 have C1 := Ad hc1
 clear hc1
 go_wp2_with fail
 refine (right_calls A c (s + 15) (l.take (s + 15)) (by simp; have := HN.out; have := HL.out; omega) _ ((H.out.on C1.out).take _)).mono ?_
 rintro e w2 ⟨rfl, hc2⟩
 have C2 := Ad (C1.out.then hc2)
 clear hc2
 go_wp2_with fail
 go_ret2
 exact ⟨rfl, C2.out⟩
theorem fright_no (A : Option Addr) (c n : Nat) (l : List Int) (hn : l.length = n) (hw : (Pl.read l).2 = false) (w : World) (h : Ls w A c l) :
   Calls Tryz.prog 111 #[.slice A n c] w fun e w' => e = .returned (.tuple #[.bool false, .int .i64 13]) /\ Ch [] w w' := by
 have H := Ad h
 have AC := Ad (ahead_no A c n l hn hw)
 clear h hn hw
 go_enter Tryz.func111, Tryz.ntmps111
 go_wp2_with fail
 refine (AC.out _ H.out).mono ?_
 rintro e w' ⟨rfl, hc1⟩
 have C1 := Ad hc1
 clear hc1
 go_wp2_with fail
 go_ret2
 exact ⟨rfl, C1.out⟩
theorem fright_short (A : Option Addr) (c n s : Nat) (l : List Int) (hn : l.length = n) (hw : (Pl.read l).2 = true) (hs : (Pl.read l).1.sum = s) (hl : n < s + 15) (w : World) (h : Ls w A c l) :
   Calls Tryz.prog 111 #[.slice A n c] w fun e w' => e = .returned (.tuple #[.bool false, .int .i64 13]) /\ Ch [] w w' := by
 have H := Ad h
 have hs2 := (Pl.read_data l hw).2.2.2.2.2
 rw [hs] at hs2
 have AC := Ad (ahead_yes A c n s l hn hw hs)
 have hl' : (n : Int) < (s : Int) + 15 := by omega
 clear h hn hw hs hl
 go_enter Tryz.func111, Tryz.ntmps111
 go_wp2_with fail
 refine (AC.out _ H.out).mono ?_
 rintro e w' ⟨rfl, hc1⟩
 have C1 := Ad hc1
 clear hc1
 go_wp2_with fail
 go_ret2
 exact ⟨rfl, C1.out⟩
theorem fvalue_calls (A : Option Addr) (c n : Nat) (l : List Int) (hn : l.length = n) (h32 : n <= 32) (w : World) (h : Ls w A c l) :
   Calls Tryz.prog 114 #[.slice A n c] w fun e w' => e = .returned (.int .i64 (Pl.val l 0 : Nat)) /\ w = w' := by
 have H := Ad h
 have HN := Ad hn
 have hv := Pl.val_lt l 0 0 h.lv (by decide)
 have hp : 2 ^ (0 + l.length) <= 2 ^ 32 := Nat.pow_le_pow_right (by decide) (by omega)
 have HV := Ad (show wrap64 ((Pl.val l 0 : Nat) : Int) = (Pl.val l 0 : Nat) by unfold wrap64; omega)
 have VC := Ad (value_calls A c n l hn (by omega))
 generalize Pl.val l 0 = v at *
 clear h hn hv hp
 go_enter Tryz.func114, Tryz.ntmps114
 go_wp2_with fail
 refine (VC.out _ H.out).mono ?_
 rintro e w' ⟨rfl, rfl⟩
 go_wp2_with fail
 go_ret
 exact ⟨ret_int HV.out, rfl⟩
def frc (f : Pl.Fr) : List Value := [.int .i64 f.id, .bool f.ext, .bool f.rtr, .int .i64 f.len, .int .u8 f.d0, .int .u8 f.d1, .int .u8 f.d2, .int .u8 f.d3, .int .u8 f.d4, .int .u8 f.d5, .int .u8 f.d6, .int .u8 f.d7]
def frv (f : Pl.Fr) : Value := .agg #[.int .i64 f.id, .bool f.ext, .bool f.rtr, .int .i64 f.len, .int .u8 f.d0, .int .u8 f.d1, .int .u8 f.d2, .int .u8 f.d3, .int .u8 f.d4, .int .u8 f.d5, .int .u8 f.d6, .int .u8 f.d7]
theorem frc_one (f : Pl.Fr) : ∀ u ∈ frc f, u.oneCell' = true := by
 intro u hu
 simp only [frc, List.mem_cons, List.not_mem_nil, or_false] at hu
 rcases hu with rfl | rfl | rfl | rfl | rfl | rfl | rfl | rfl | rfl | rfl | rfl | rfl <;> rfl
def zf : List Value := [.int .i64 0, .bool false, .bool false, .int .i64 0, .int .u8 0, .int .u8 0, .int .u8 0, .int .u8 0, .int .u8 0, .int .u8 0, .int .u8 0, .int .u8 0]
def Fv : El Pl.Fr where
 enc := frc
 t := 49
 s := 60
 sz := 12
 bytes := 32
 zero := .agg #[.int .i64 0, .bool false, .bool false, .int .i64 0, .int .u8 0, .int .u8 0, .int .u8 0, .int .u8 0, .int .u8 0, .int .u8 0, .int .u8 0, .int .u8 0]
 sz0 := by decide
 by0 := by decide
 hlen _ := rfl
 hone := frc_one
 und := Tryz.underlying60
 info := by kernel_rfl
 hz := rfl
structure Ev where
 tick : Int
 node : Int
 kind : Int
 f : Pl.Fr
 deriving DecidableEq
def Evv : El Ev where
 enc x := [.int .i64 x.tick, .int .i64 x.node, .int .i64 x.kind] ++ frc x.f
 t := 51
 s := 42
 sz := 15
 bytes := 56
 zero := .agg #[.int .i64 0, .int .i64 0, .int .i64 0, .int .i64 0, .bool false, .bool false, .int .i64 0, .int .u8 0, .int .u8 0, .int .u8 0, .int .u8 0, .int .u8 0, .int .u8 0, .int .u8 0, .int .u8 0]
 sz0 := by decide
 by0 := by decide
 hlen _ := rfl
 hone x u h := by
   simp only [List.cons_append, List.nil_append, List.mem_cons] at h
   rcases h with rfl | rfl | rfl | h
   · rfl
   · rfl
   · rfl
   · exact frc_one x.f u h
 und := Tryz.underlying42
 info := by kernel_rfl
 hz := rfl
structure Run where
 n : Int
 bus : Int
 drv : Int
 deriving DecidableEq
def Rv : El Run where
 enc x := [.int .i64 x.n, .int .i64 x.bus, .int .u32 x.drv]
 t := 93
 s := 39
 sz := 3
 bytes := 24
 zero := .agg #[.int .i64 0, .int .i64 0, .int .u32 0]
 sz0 := by decide
 by0 := by decide
 hlen _ := rfl
 hone x u h := by
   simp only [List.mem_cons, List.not_mem_nil, or_false] at h
   rcases h with rfl | rfl | rfl <;> rfl
 und := Tryz.underlying39
 info := by kernel_rfl
 hz := rfl
structure Act' where
 tick : Int
 node : Int
 fault : Bool
 f : Pl.Fr
 deriving DecidableEq
def Av : El Act' where
 enc x := [.int .i64 x.tick, .int .i64 x.node, .bool x.fault] ++ frc x.f
 t := 55
 s := 22
 sz := 15
 bytes := 56
 zero := .agg #[.int .i64 0, .int .i64 0, .bool false, .int .i64 0, .bool false, .bool false, .int .i64 0, .int .u8 0, .int .u8 0, .int .u8 0, .int .u8 0, .int .u8 0, .int .u8 0, .int .u8 0, .int .u8 0]
 sz0 := by decide
 by0 := by decide
 hlen _ := rfl
 hone x u h := by
   simp only [List.cons_append, List.nil_append, List.mem_cons] at h
   rcases h with rfl | rfl | rfl | h
   · rfl
   · rfl
   · rfl
   · exact frc_one x.f u h
 und := Tryz.underlying22
 info := by kernel_rfl
 hz := rfl
def By : El Int where
 enc x := [.int .u8 x]
 t := 5
 s := 64
 sz := 1
 bytes := 1
 zero := .int .u8 0
 sz0 := by decide
 by0 := by decide
 hlen _ := rfl
 hone x u h := by simp at h; subst h; rfl
 und := Tryz.underlying64
 info := by kernel_rfl
 hz := rfl
def Uv : El Int where
 enc x := [.int .u64 x]
 t := 137
 s := 153
 sz := 1
 bytes := 8
 zero := .int .u64 0
 sz0 := by decide
 by0 := by decide
 hlen _ := rfl
 hone x u h := by simp at h; subst h; rfl
 und := Tryz.underlying153
 info := by kernel_rfl
 hz := rfl
structure End where
 bytes : Int
 ticks : Int
 deriving DecidableEq
def Endv : El End where
 enc x := [.int .i64 x.bytes, .int .i64 x.ticks]
 t := 87
 s := 78
 sz := 2
 bytes := 16
 zero := .agg #[.int .i64 0, .int .i64 0]
 sz0 := by decide
 by0 := by decide
 hlen _ := rfl
 hone x u h := by
   simp only [List.mem_cons, List.not_mem_nil, or_false] at h
   rcases h with rfl | rfl <;> rfl
 und := Tryz.underlying78
 info := by kernel_rfl
 hz := rfl
def Pv : El Nat where
 enc x := [.pointer (some ⟨x, 0, none⟩)]
 t := 130
 s := 127
 sz := 1
 bytes := 8
 zero := .pointer none
 sz0 := by decide
 by0 := by decide
 hlen _ := rfl
 hone x u h := by simp at h; subst h; rfl
 und := Tryz.underlying127
 info := by kernel_rfl
 hz := rfl
structure Sight where
 kind : Int
 fro : Int
 upto : Int
 f : Pl.Fr
 acked : Bool
 deriving DecidableEq
end Go.Proofs.YtjoehjclaonneaaGreat
