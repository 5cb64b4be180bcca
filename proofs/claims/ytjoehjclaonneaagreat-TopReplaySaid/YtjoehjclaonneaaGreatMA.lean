/- A part of the proof of TopReplay (no condition of its own). -/
import Derived.Deep.RegionHeld3
import Derived.Deep.AppendLies
import Derived.Lib.SliceRun
import Derived.Test.YtjoehjclaonneaaGreatProg
import Derived.Test.YtjoehjclaonneaaGreatWs
namespace Go.Proofs.YtjoehjclaonneaaGreat
open Go.RowKit Go.Proofs.YtjoehjclaonneaaGreatW.PrintWords
set_option maxHeartbeats 8000000
set_option linter.unusedVariables false
set_option linter.unusedSimpArgs false
namespace Pl
def val : List Int -> Nat -> Nat
 | [], n => n
 | x :: l, n => val l (2 * n + x.toNat)
def ofBits : Nat -> Nat -> List Int
 | _, 0 => []
 | n, w + 1 => ((n / 2 ^ w % 2 : Nat) : Int) :: ofBits n w
def cstep (s : Nat) (x : Int) : Nat := if (Nat.ble 16384 s) != (x == 1) then Nat.xor (s * 2 % 32768) 17817 else s * 2 % 32768
def crc : List Int -> Nat -> Nat
 | [], s => s
 | x :: l, s => crc l (cstep s x)
def right (l : List Int) : Bool := if 15 <= l.length then decide (l.drop (l.length - 15) = ofBits (crc (l.take (l.length - 15)) 0) 15) else false
theorem cstep_lt (s : Nat) (x : Int) : cstep s x < 32768 := by
 unfold cstep
 split
 · exact Nat.xor_lt_two_pow (n := 15) (Nat.mod_lt _ (by decide)) (by decide)
 · exact Nat.mod_lt _ (by decide)
theorem crc_lt : ∀ (l : List Int) (s : Nat), s < 32768 -> crc l s < 32768
 | [], _, h => h
 | x :: l, s, _ => crc_lt l _ (cstep_lt s x)
theorem crc_snoc : ∀ (l : List Int) (x : Int) (s : Nat), crc (l ++ [x]) s = cstep (crc l s) x
 | [], _, _ => rfl
 | _ :: l, x, s => crc_snoc l x _
theorem val_snoc : ∀ (l : List Int) (x : Int) (n : Nat), val (l ++ [x]) n = 2 * val l n + x.toNat
 | [], _, _ => rfl
 | _ :: l, x, n => val_snoc l x _
theorem val_lt : ∀ (l : List Int) (n k : Nat), (∀ x ∈ l, x = 0 ∨ x = 1) -> n < 2 ^ k -> val l n < 2 ^ (k + l.length)
 | [], _, _, _, h => h
 | x :: l, n, k, hl, h => by
   have hx := hl x (by simp)
   have := val_lt l (2 * n + x.toNat) (k + 1) (fun y hy => hl y (by simp [hy])) (by rw [Nat.pow_succ]; omega)
   rw [List.length_cons]
   simp only [val]
   rwa [show k + (l.length + 1) = k + 1 + l.length by omega]
theorem ofBits_length : ∀ (n w : Nat), (ofBits n w).length = w
 | _, 0 => rfl
 | n, w + 1 => by simp [ofBits, ofBits_length n w]
theorem ofBits_lv : ∀ (n w : Nat), ∀ x ∈ ofBits n w, x = 0 ∨ x = 1
 | _, 0, x, h => by simp [ofBits] at h
 | n, w + 1, x, h => by
   simp only [ofBits, List.mem_cons] at h
   rcases h with rfl | h
   · have := Nat.mod_lt (n / 2 ^ w) (show 0 < 2 by decide)
     omega
   · exact ofBits_lv n w x h
end Pl
namespace Pl
structure Hd where
 ext : Bool
 rtr : Bool
 ctrl : Nat
 data : Nat
 size : Nat
def gi (l : List Int) (k : Nat) : Int := l.getD k 0
def mn (a b : Nat) : Nat := if a <= b then a else b
def read (l : List Int) : Hd × Bool :=
 if l.length <= 13 then (⟨false, false, 0, 0, 0⟩, false)
 else if gi l 13 = 1 then
   if l.length < 39 then (⟨true, false, 33, 39, 0⟩, false) else (⟨true, gi l 32 == 1, 33, 39, mn (val ((l.take 39).drop 35) 0) 8⟩, true)
 else
   if l.length < 19 then (⟨false, false, 14, 19, 0⟩, false) else (⟨false, gi l 12 == 1, 14, 19, mn (val ((l.take 19).drop 15) 0) 8⟩, true)
def Hd.sum (h : Hd) : Nat := if h.rtr then h.data else h.data + 8 * h.size
def field (n d s : Nat) : Nat × Nat × Nat :=
 if n < s then (3, n - d, 0) else if n < s + 15 then (4, n - s, 0) else if n < s + 16 then (5, n - (s + 15), 0) else if n < s + 17 then (6, n - (s + 16), 0)
 else if n < s + 18 then (7, n - (s + 17), 0) else if n < s + 25 then (8, n - (s + 18), 0) else if s + 25 < n then (0, 0, 12) else (9, 0, 0)
def next (l : List Int) : Nat × Nat × Nat :=
 if l.length = 0 then (0, 0, 0)
 else if l.length <= 13 then (1, l.length - 1, 0)
 else if (read l).1.ext = true /\ l.length <= 32 then (1, l.length - 1, 0)
 else if (read l).2 = false then (2, l.length - (read l).1.ctrl, 0)
 else field l.length (read l).1.data (read l).1.sum
theorem read_data (l : List Int) (h : (read l).2 = true) : (read l).1.data <= l.length /\ (read l).1.size <= 8 /\ (read l).1.data <= 39 /\ 19 <= (read l).1.data /\ (read l).1.data <= (read l).1.sum /\ (read l).1.sum <= 103 := by
 unfold read at *
 unfold Hd.sum mn
 by_cases h1 : l.length <= 13
 · rw [if_pos h1] at h; simp at h
 · rw [if_neg h1] at h ⊢
   by_cases h2 : gi l 13 = 1
   · rw [if_pos h2] at h ⊢
     by_cases h3 : l.length < 39
     · rw [if_pos h3] at h; simp at h
     · rw [if_neg h3]
       simp only []
       repeat' split
       all_goals omega
   · rw [if_neg h2] at h ⊢
     by_cases h3 : l.length < 19
     · rw [if_pos h3] at h; simp at h
     · rw [if_neg h3]
       simp only []
       repeat' split
       all_goals omega
end Pl
namespace Pl
structure Fr where
 id : Int
 ext : Bool
 rtr : Bool
 len : Int
 d0 : Int
 d1 : Int
 d2 : Int
 d3 : Int
 d4 : Int
 d5 : Int
 d6 : Int
 d7 : Int
 deriving DecidableEq
def Fr.zero : Fr := ⟨0, false, false, 0, 0, 0, 0, 0, 0, 0, 0, 0⟩
def Fr.data (f : Fr) : List Int := [f.d0, f.d1, f.d2, f.d3, f.d4, f.d5, f.d6, f.d7]
def Fr.of (id : Int) (ext rtr : Bool) (len : Int) (D : List Int) : Fr := ⟨id, ext, rtr, len, gi D 0, gi D 1, gi D 2, gi D 3, gi D 4, gi D 5, gi D 6, gi D 7⟩
def bytesAt (l : List Int) (d : Nat) : Nat -> List Int
 | 0 => []
 | m + 1 => bytesAt l d m ++ [((val ((l.take (d + 8 * (m + 1))).drop (d + 8 * m)) 0 : Nat) : Int)]
theorem bytesAt_length (l : List Int) (d : Nat) : ∀ m, (bytesAt l d m).length = m
 | 0 => rfl
 | m + 1 => by simp [bytesAt, bytesAt_length l d m]
def Hd.bytes (h : Hd) : Nat := (h.sum - h.data) / 8
def ident (l : List Int) (ext : Bool) : Nat := if ext then val ((l.take 12).drop 1) 0 * 262144 + val ((l.take 32).drop 14) 0 else val ((l.take 12).drop 1) 0
def frameOf (l : List Int) : Fr := if gi l 0 = 0 then Fr.of (ident l (read l).1.ext : Nat) (read l).1.ext (read l).1.rtr (read l).1.size (bytesAt l (read l).1.data (read l).1.bytes ++ List.replicate (8 - (read l).1.bytes) 0) else Fr.zero
end Pl
namespace Pl
def mxb : List Int -> Int -> Int
 | [], m => m
 | x :: l, m => mxb l (if m < x then x else m)
theorem mxb_snoc : ∀ (l : List Int) (x m : Int), mxb (l ++ [x]) m = if mxb l m < x then x else mxb l m
 | [], _, _ => rfl
 | _ :: l, x, _ => mxb_snoc l x _
theorem mxb_rng : ∀ (l : List Int) (m : Int), (∀ x ∈ l, 0 <= x /\ x < 256) -> 0 <= m /\ m < 256 -> 0 <= mxb l m /\ mxb l m < 256
 | [], _, _, h => h
 | x :: l, m, hl, h => mxb_rng l _ (fun y hy => hl y (by simp [hy])) (by have := hl x (by simp); split <;> omega)
def Fr.used (f : Fr) : Nat := if f.rtr then 0 else f.len.toNat
def Fr.ok (f : Fr) : Bool := decide (0 <= f.id) && decide (f.id <= if f.ext then 536870911 else 2047) && decide (0 <= f.len) && decide (f.len <= 8) && decide (mxb (f.data.drop f.used) 0 = 0)
theorem Fr.ok_iff (f : Fr) : f.ok = true ↔ 0 <= f.id /\ f.id <= (if f.ext then 536870911 else 2047) /\ 0 <= f.len /\ f.len <= 8 /\ mxb (f.data.drop f.used) 0 = 0 := by
 unfold Fr.ok
 simp only [Bool.and_eq_true, decide_eq_true_eq, and_assoc]
def Fr.wf (f : Fr) : Prop := ∀ x ∈ f.data, 0 <= x /\ x < 256
def lev (b : Bool) : Int := if b then 1 else 0
def arb (f : Fr) : List Int := if f.ext then ofBits (f.id.toNat / 262144) 11 ++ [1, 1] ++ ofBits f.id.toNat 18 ++ [lev f.rtr] else ofBits f.id.toNat 11 ++ [lev f.rtr, 0]
end Pl
namespace Pl
def cmpL : List Int -> List Int -> Int
 | [], [] => 0
 | [], _ :: _ => -1
 | _ :: _, [] => 1
 | x :: l, y :: m => if x < y then -1 else if y < x then 1 else cmpL l m
def less (f g : Fr) : Bool := decide (cmpL (arb f) (arb g) < 0)
end Pl
namespace Pl
def byteBits : List Int -> List Int
 | [] => []
 | x :: l => ofBits x.toNat 8 ++ byteBits l
theorem byteBits_snoc : ∀ (l : List Int) (x : Int), byteBits (l ++ [x]) = byteBits l ++ ofBits x.toNat 8
 | [], x => by simp [byteBits]
 | y :: l, x => by simp [byteBits, byteBits_snoc l x]
theorem byteBits_length : ∀ l : List Int, (byteBits l).length = 8 * l.length
 | [] => rfl
 | x :: l => by simp [byteBits, ofBits_length, byteBits_length l]; omega
def front (f : Fr) : List Int := [0] ++ arb f ++ ofBits f.len.toNat (if f.ext then 6 else 5)
def fbits (f : Fr) : List Int := front f ++ (if f.rtr then [] else byteBits (f.data.take f.len.toNat))
def fall (f : Fr) : List Int := fbits f ++ ofBits (crc (fbits f) 0) 15 ++ List.replicate 10 1
end Pl
namespace Pl
def idx {α : Type} (p : α -> Bool) : List α -> Nat -> Int
 | [], _ => -1
 | x :: l, k => if p x then k else idx p l (k + 1)
def qput (f : Fr) : List Fr -> List Fr
 | [] => [f]
 | g :: l => if less f g then f :: g :: l else g :: qput f l
def qdrop (f : Fr) : List Fr -> List Fr
 | [] => []
 | g :: l => if f = g then l else g :: qdrop f l
theorem idx_cases {α : Type} (p : α -> Bool) : ∀ (l : List α) (k : Nat), (idx p l k = -1 /\ ∀ x ∈ l, p x = false) ∨ ∃ j, j < l.length /\ idx p l k = ((k + j : Nat) : Int) /\ (∀ i x, i < j -> l[i]? = some x -> p x = false) /\ ∃ x, l[j]? = some x /\ p x = true
 | [], _ => .inl ⟨rfl, by simp⟩
 | y :: l, k => by
   cases hp : p y
   · rcases idx_cases p l (k + 1) with ⟨h1, h2⟩ | ⟨j, h1, h2, h3, x, h4, h5⟩
     · exact .inl ⟨by simp [idx, hp, h1], fun x hx => by rcases List.mem_cons.1 hx with rfl | hx; exact hp; exact h2 x hx⟩
     · refine .inr ⟨j + 1, by simpa using h1, by simp [idx, hp, h2]; omega, ?_, x, by simpa using h4, h5⟩
       intro i z hi hz
       cases i with
       | zero => simp at hz; subst hz; exact hp
       | succ i => exact h3 i z (by omega) (by simpa using hz)
   · exact .inr ⟨0, by simp, by simp [idx, hp], fun i _ hi => by omega, y, by simp, hp⟩
theorem qput_none (f : Fr) : ∀ l : List Fr, (∀ g ∈ l, less f g = false) -> qput f l = l ++ [f]
 | [], _ => rfl
 | g :: l, h => by simp [qput, h g (by simp), qput_none f l (fun x hx => h x (by simp [hx]))]
theorem qput_at (f : Fr) : ∀ (l : List Fr) (j : Nat), (∀ i x, i < j -> l[i]? = some x -> less f x = false) -> (∃ x, l[j]? = some x /\ less f x = true) -> qput f l = l.take j ++ [f] ++ l.drop j
 | [], j, _, ⟨x, h, _⟩ => by simp at h
 | g :: l, 0, _, ⟨x, h, h2⟩ => by simp at h; subst h; simp [qput, h2]
 | g :: l, j + 1, h1, ⟨x, h, h2⟩ => by
   have := h1 0 g (by omega) (by simp)
   simp only [qput, this, Bool.false_eq_true, if_false, List.take_succ_cons, List.drop_succ_cons, List.cons_append]
   rw [qput_at f l j (fun i x hi hx => h1 (i + 1) x (by omega) (by simpa using hx)) ⟨x, by simpa using h, h2⟩]
theorem qdrop_none (f : Fr) : ∀ l : List Fr, (∀ g ∈ l, (decide (f = g)) = false) -> qdrop f l = l
 | [], _ => rfl
 | g :: l, h => by
   have h1 := h g (by simp)
   simp at h1
   simp [qdrop, h1, qdrop_none f l (fun x hx => h x (by simp [hx]))]
theorem qdrop_at (f : Fr) : ∀ (l : List Fr) (j : Nat), (∀ i x, i < j -> l[i]? = some x -> (decide (f = x)) = false) -> (∃ x, l[j]? = some x /\ (decide (f = x)) = true) -> qdrop f l = l.take j ++ l.drop (j + 1)
 | [], j, _, ⟨x, h, _⟩ => by simp at h
 | g :: l, 0, _, ⟨x, h, h2⟩ => by simp at h; subst h; simp at h2; simp [qdrop, h2]
 | g :: l, j + 1, h1, ⟨x, h, h2⟩ => by
   have := h1 0 g (by omega) (by simp)
   simp at this
   simp only [qdrop, this, if_false, List.take_succ_cons, List.drop_succ_cons, List.cons_append]
   rw [qdrop_at f l j (fun i x hi hx => h1 (i + 1) x (by omega) (by simpa using hx)) ⟨x, by simpa using h, h2⟩]
end Pl
namespace Pl
theorem fbits_ext (f : Fr) (h : f.ext = true) : (fbits f).length = 39 + (if f.rtr then 0 else 8 * (f.data.take f.len.toNat).length) := by
 unfold fbits front arb
 rw [h]
 cases f.rtr <;> simp [ofBits_length, byteBits_length] <;> omega
theorem fbits_std (f : Fr) (h : f.ext = false) : (fbits f).length = 19 + (if f.rtr then 0 else 8 * (f.data.take f.len.toNat).length) := by
 unfold fbits front arb
 rw [h]
 cases f.rtr <;> simp [ofBits_length, byteBits_length] <;> omega
theorem fall_length (f : Fr) : (fall f).length = (fbits f).length + 25 := by
 unfold fall
 simp [ofBits_length]
theorem take4 (l : List Int) (k : Nat) (h : k + 4 <= l.length) : (l.take (k + 4)).drop k = [gi l k, gi l (k + 1), gi l (k + 2), gi l (k + 3)] := by
 apply List.ext_getElem?
 intro i
 rw [List.getElem?_drop, List.getElem?_take]
 unfold gi
 have hg : ∀ j, j < l.length -> l[j]? = some (l.getD j 0) := fun j hj => by
   rw [List.getElem?_eq_getElem hj, List.getD_eq_getElem?_getD, List.getElem?_eq_getElem hj]; rfl
 match i with
 | 0 => rw [if_pos (by omega), hg _ (by omega)]; rfl
 | 1 => rw [if_pos (by omega), hg _ (by omega)]; rfl
 | 2 => rw [if_pos (by omega), hg _ (by omega)]; rfl
 | 3 => rw [if_pos (by omega), hg _ (by omega)]; rfl
 | i + 4 => rw [if_neg (by omega)]; simp
theorem val4 (n : Nat) (h : n <= 8) : val [((n / 2 ^ 3 % 2 : Nat) : Int), ((n / 2 ^ 2 % 2 : Nat) : Int), ((n / 2 ^ 1 % 2 : Nat) : Int), ((n / 2 ^ 0 % 2 : Nat) : Int)] 0 = n := by
 simp only [val, Int.toNat_natCast]
 omega
theorem gi_ext (f : Fr) (h : f.ext = true) : gi (fall f) 13 = 1 /\ gi (fall f) 32 = lev f.rtr /\ [gi (fall f) 35, gi (fall f) (35 + 1), gi (fall f) (35 + 2), gi (fall f) (35 + 3)] = [((f.len.toNat / 2 ^ 3 % 2 : Nat) : Int), ((f.len.toNat / 2 ^ 2 % 2 : Nat) : Int), ((f.len.toNat / 2 ^ 1 % 2 : Nat) : Int), ((f.len.toNat / 2 ^ 0 % 2 : Nat) : Int)] := by
 obtain ⟨id, ext, rtr, len, d0, d1, d2, d3, d4, d5, d6, d7⟩ := f
 simp only at h
 subst h
 exact ⟨rfl, rfl, rfl⟩
theorem gi_std (f : Fr) (h : f.ext = false) : gi (fall f) 13 = 0 /\ gi (fall f) 12 = lev f.rtr /\ [gi (fall f) 15, gi (fall f) (15 + 1), gi (fall f) (15 + 2), gi (fall f) (15 + 3)] = [((f.len.toNat / 2 ^ 3 % 2 : Nat) : Int), ((f.len.toNat / 2 ^ 2 % 2 : Nat) : Int), ((f.len.toNat / 2 ^ 1 % 2 : Nat) : Int), ((f.len.toNat / 2 ^ 0 % 2 : Nat) : Int)] := by
 obtain ⟨id, ext, rtr, len, d0, d1, d2, d3, d4, d5, d6, d7⟩ := f
 simp only at h
 subst h
 exact ⟨rfl, rfl, rfl⟩
theorem gi_zero (f : Fr) : gi (fall f) 0 = 0 := rfl
theorem fbits_ge (f : Fr) : 19 <= (fbits f).length := by
 cases h : f.ext
 · rw [fbits_std f h]; omega
 · rw [fbits_ext f h]; omega
theorem read_own (f : Fr) (hf : f.ok = true) (l : List Int) (ha : ∀ j, j < l.length -> j < (fbits f).length -> gi l j = gi (fall f) j) (hr : (read l).2 = true) : (read l).1.sum = (fbits f).length := by
 obtain ⟨_, _, hl0, hl8, _⟩ := (Fr.ok_iff f).1 hf
 have hge := fbits_ge f
 have htk : (f.data.take f.len.toNat).length = f.len.toNat := by
   rw [List.length_take, show f.data.length = 8 from rfl]; omega
 unfold read at *
 by_cases h1 : l.length <= 13
 · rw [if_pos h1] at hr; simp at hr
 · rw [if_neg h1] at hr ⊢
   cases he : f.ext
   · obtain ⟨g1, g2, g3⟩ := gi_std f he
     have hs := fbits_std f he
     rw [ha 13 (by omega) (by omega), g1] at hr ⊢
     rw [if_neg (by decide)] at hr ⊢
     by_cases h3 : l.length < 19
     · rw [if_pos h3] at hr; simp at hr
     · rw [if_neg h3, hs, htk]
       rw [ha 12 (by omega) (by omega), g2]
       have hv : val ((l.take 19).drop 15) 0 = f.len.toNat := by
         rw [show (19 : Nat) = 15 + 4 from rfl, take4 l 15 (by omega), ha 15 (by omega) (by omega), ha (15 + 1) (by omega) (by omega), ha (15 + 2) (by omega) (by omega), ha (15 + 3) (by omega) (by omega), g3]
         exact val4 _ (by omega)
       rw [hv]
       have hm : mn f.len.toNat 8 = f.len.toNat := if_pos (by omega)
       rw [hm]
       cases f.rtr
       · simp [Hd.sum, lev]
       · simp [Hd.sum, lev]
   · obtain ⟨g1, g2, g3⟩ := gi_ext f he
     have hs := fbits_ext f he
     rw [ha 13 (by omega) (by omega), g1] at hr ⊢
     rw [if_pos rfl] at hr ⊢
     by_cases h3 : l.length < 39
     · rw [if_pos h3] at hr; simp at hr
     · rw [if_neg h3, hs, htk]
       rw [ha 32 (by omega) (by omega), g2]
       have hv : val ((l.take 39).drop 35) 0 = f.len.toNat := by
         rw [show (39 : Nat) = 35 + 4 from rfl, take4 l 35 (by omega), ha 35 (by omega) (by omega), ha (35 + 1) (by omega) (by omega), ha (35 + 2) (by omega) (by omega), ha (35 + 3) (by omega) (by omega), g3]
         exact val4 _ (by omega)
       rw [hv]
       have hm : mn f.len.toNat 8 = f.len.toNat := if_pos (by omega)
       rw [hm]
       cases f.rtr
       · simp [Hd.sum, lev]
       · simp [Hd.sum, lev]
theorem read_whole (f : Fr) (l : List Int) (ha : ∀ j, j < l.length -> j < (fbits f).length -> gi l j = gi (fall f) j) (hl : (fbits f).length <= l.length) : (read l).2 = true := by
 have hge := fbits_ge f
 unfold read
 rw [if_neg (by omega)]
 cases he : f.ext
 · obtain ⟨g1, g2, g3⟩ := gi_std f he
   rw [ha 13 (by omega) (by omega), g1, if_neg (by decide), if_neg (by omega)]
 · obtain ⟨g1, g2, g3⟩ := gi_ext f he
   have hs := fbits_ext f he
   rw [ha 13 (by omega) (by omega), g1, if_pos rfl, if_neg (by omega)]
theorem next_own (f : Fr) (hf : f.ok = true) (l : List Int) (ha : ∀ j, j < l.length -> j < (fbits f).length -> gi l j = gi (fall f) j) :
   ((next l).1 = 6 -> l.length = (fbits f).length + 16) /\ (l.length = (fbits f).length + 24 -> next l = (8, 6, 0)) := by
 have hge := fbits_ge f
 constructor
 · intro h
   unfold next at h
   split at h
   · simp at h
   split at h
   · simp at h
   split at h
   · simp at h
   split at h
   · simp at h
   rename_i h4
   have hr : (read l).2 = true := by simpa using h4
   have hs := read_own f hf l ha hr
   unfold field at h
   rw [hs] at h
   repeat' split at h
   all_goals simp at h
   omega
 · intro h
   have hr := read_whole f l ha (by omega)
   have hs := read_own f hf l ha hr
   have hd := read_data l hr
   unfold next
   rw [if_neg (by omega), if_neg (by omega), if_neg (by
     rintro ⟨h1, h2⟩
     cases he : f.ext
     · unfold read at h1
       rw [if_neg (by omega)] at h1
       obtain ⟨g1, g2, g3⟩ := gi_std f he
       rw [ha 13 (by omega) (by omega), g1, if_neg (by decide)] at h1
       split at h1 <;> simp at h1
     · have := fbits_ext f he
       omega), if_neg (by rw [hr]; decide)]
   unfold field
   rw [hs, h]
   rw [if_neg (by omega), if_neg (by omega), if_neg (by omega), if_neg (by omega), if_neg (by omega), if_pos (by omega)]
   congr 2
   omega
end Pl
section
structure Ch (F : List Nat) (w w' : World) : Prop where
 os : w'.os = w.os
 tape : w'.tape = w.tape
 output : w'.output = w.output
 size : w.heap.size <= w'.heap.size
 block : ∀ k, k < w.heap.size -> k ∉ F -> w'.heap[k]? = w.heap[k]?
theorem Ch.refl (F : List Nat) (w : World) : Ch F w w := ⟨rfl, rfl, rfl, Nat.le_refl _, fun _ _ _ => rfl⟩
theorem Ch.trans {F G : List Nat} {a b c : World} (h : Ch F a b) (k : Ch G b c) (hG : ∀ x, x ∈ G -> x ∈ F ∨ a.heap.size <= x) : Ch F a c :=
 ⟨k.os.trans h.os, k.tape.trans h.tape, k.output.trans h.output, Nat.le_trans h.size k.size, fun i hi hn =>
   (k.block i (Nat.lt_of_lt_of_le hi h.size) (fun hm => by rcases hG i hm with h | h; exact hn h; omega)).trans (h.block i hi hn)⟩
theorem Ch.then {F : List Nat} {a b c : World} (h : Ch F a b) (k : Ch F b c) : Ch F a c := h.trans k (fun _ h => .inl h)
theorem Ch.mono {F G : List Nat} {a b : World} (h : Ch F a b) (hFG : ∀ x, x ∈ F -> x ∈ G ∨ a.heap.size <= x) : Ch G a b := ⟨h.os, h.tape, h.output, h.size, fun k hk hn => h.block k hk (fun hm => by rcases hFG k hm with h | h; exact hn h; omega)⟩
theorem Ch.sub {F G : List Nat} {a b : World} (h : Ch F a b) (hFG : ∀ x, x ∈ F -> x ∈ G) : Ch G a b := h.mono (fun x hx => .inl (hFG x hx))
theorem Ch.more {F G : List Nat} {a b : World} (h : Ch F a b) : Ch (F ++ G) a b := h.sub (fun x hx => by simp [hx])
theorem Ch.any {F : List Nat} {a b : World} (h : Ch [] a b) : Ch F a b := h.sub (fun x hx => by simp at hx)
theorem Ch.drew {F : List Nat} {a w : World} (h : Ch F a w) : Ch F a w.drew := ⟨h.os, h.tape, h.output, h.size, h.block⟩
theorem Ch.drewN {F : List Nat} {a w : World} (h : Ch F a w) (n : Nat) : Ch F a (w.drewN n) := ⟨h.os, h.tape, h.output, h.size, h.block⟩
theorem Ch.alloc {F : List Nat} {a w : World} (h : Ch F a w) (o : Obj) : Ch F a (w.alloc o) :=
 h.trans (G := []) ⟨rfl, rfl, rfl, by simp, fun k hk _ => Below.heap_alloc _ _ _ hk⟩ (by simp)
theorem Ch.set {F : List Nat} {a w : World} (h : Ch F a w) (p : Addr) (v : Value) (hp : p.block ∈ F ∨ a.heap.size <= p.block) : Ch F a (w.setCell p v) :=
 h.trans (G := [p.block]) ⟨rfl, rfl, rfl, by simp [World.setCell], fun k _ hn => Below.heap_setCell _ _ _ _ (fun e => hn (by simp [e]))⟩ (by simpa using hp)
theorem Ch.below {F : List Nat} {w w' : World} {n : Nat} (h : Ch F w w') (hn : n <= w.heap.size) (hF : ∀ x, x ∈ F -> n <= x) : Below n w w' := ⟨h.os, h.tape, h.output, h.size, fun k hk => h.block k (by omega) (fun hm => by have := hF k hm; omega)⟩
theorem Ch.of_below {F : List Nat} {w w' : World} (h : Below w.heap.size w w') : Ch F w w' := ⟨h.os, h.tape, h.output, h.size, fun k hk _ => h.block k hk⟩
theorem Ch.of_grown {w w' : World} {r : Option Nat} (h : w.grownBy w' r) : Ch r.toList w w' := ⟨h.os, h.tape, h.output, h.size, fun k hk hn => h.block k hk (fun e => hn (by simp [<- e]))⟩
theorem Ch.blk {F : List Nat} {w w' : World} (h : Ch F w w') {g : Nat} {o : Obj} (hg : w.heap[g]? = some o) (hF : g ∉ F) : w'.heap[g]? = some o := (h.block g (blk_lt hg) hF).trans hg
theorem Ch.cell {F : List Nat} {w w' : World} (h : Ch F w w') {p : Addr} {v : Value} (hc : w.cell? p = some v) (hF : p.block ∉ F) : w'.cell? p = some v :=
 (World.cell?_of_block (h.block p.block (World.block_lt_of_cell? w p hc) hF)).trans hc
structure El (α : Type) where
 enc : α -> List Value
 t : TypeId
 s : TypeId
 sz : Nat
 bytes : Nat
 zero : Value
 sz0 : 0 < sz
 by0 : 0 < bytes
 hlen : ∀ x, (enc x).length = sz
 hone : ∀ x u, u ∈ enc x -> u.oneCell' = true
 und : Tryz.prog.underlying s = some (.slice t)
 info : (Tryz.prog.info? t).map (fun i => (i.zero, i.size, i.bytes)) = some (some zero, sz, bytes)
 hz : zero.cells.size = sz
section
variable {α : Type} (E : El α)
def El.flat (l : List α) : List Value := l.flatMap E.enc
theorem El.flat_cons (x : α) (l : List α) : E.flat (x :: l) = E.enc x ++ E.flat l := rfl
theorem El.flat_app (l m : List α) : E.flat (l ++ m) = E.flat l ++ E.flat m := by simp [El.flat]
theorem El.flat_length (l : List α) : (E.flat l).length = l.length * E.sz := by
 induction l with
 | nil => simp [El.flat]
 | cons x l ih => rw [E.flat_cons, List.length_append, E.hlen, ih, List.length_cons, Nat.add_mul, Nat.one_mul, Nat.add_comm]
theorem El.flat_one (l : List α) : ∀ u ∈ E.flat l, u.oneCell' = true := by
 intro u hu
 simp only [El.flat, List.mem_flatMap] at hu
 obtain ⟨x, _, h⟩ := hu
 exact E.hone x u h
theorem El.flat_get {l : List α} {k : Nat} {x : α} (h : l[k]? = some x) (j : Nat) (hj : j < E.sz) : (E.flat l)[k * E.sz + j]? = (E.enc x)[j]? := by
 induction l generalizing k with
 | nil => simp at h
 | cons y l ih =>
   rw [E.flat_cons]
   cases k with
   | zero =>
     simp at h
     subst h
     rw [List.getElem?_append_left (by rw [E.hlen]; omega)]
     simp
   | succ k =>
     simp at h
     rw [List.getElem?_append_right (by rw [E.hlen, Nat.add_mul]; omega), E.hlen, show (k + 1) * E.sz + j - E.sz = k * E.sz + j by rw [Nat.add_mul]; omega]
     exact ih h
theorem El.flat_take (l : List α) (n : Nat) : (E.flat l).take (n * E.sz) = E.flat (l.take n) := by
 induction l generalizing n with
 | nil => simp [El.flat]
 | cons x l ih =>
   cases n with
   | zero => simp [El.flat]
   | succ n =>
     rw [E.flat_cons, List.take_succ_cons, E.flat_cons, List.take_append, E.hlen, show (n + 1) * E.sz - E.sz = n * E.sz by rw [Nat.add_mul]; omega, ih, List.take_of_length_le (by rw [E.hlen, Nat.add_mul]; omega)]
structure Rd (w : World) (A : Option Addr) (c : Nat) (l : List α) : Prop where
 cap : l.length <= c
 big : l.length <= maxLen
 at_ : 0 < l.length -> ∃ g o, A = some ⟨g, o, none⟩ /\ ∀ k x, l[k]? = some x -> ∀ j v, (E.enc x)[j]? = some v -> w.cell? ⟨g, o + k * E.sz + j, none⟩ = some v
structure Ow (w : World) (b : Nat) (q : Option Nat) (A : Option Addr) (c : Nat) (l : List α) : Prop where
 lies : (A = none /\ c = 0 /\ l = [] /\ q = none) ∨ ∃ g cur, q = some g /\ A = some ⟨g, 0, none⟩ /\ b <= g /\ w.heap[g]? = some (.cells cur E.t (0, 0)) /\ l.length <= c /\ c * E.sz <= cur.size /\ c <= maxLen /\ cur.toList.take (l.length * E.sz) = E.flat l
end
section
variable {α : Type} {E : El α} {w w' W : World} {b b' : Nat} {q q' : Option Nat} {A A' : Option Addr} {c c' : Nat} {l m : List α}
theorem Rd.nil (E : El α) (w : World) (A : Option Addr) (c : Nat) : Rd E w A c [] := ⟨by simp, by simp, by simp⟩
theorem Rd.keep (h : Rd E w A c l) {F : List Nat} (hc : Ch F w w') (hF : ∀ g o s, A = some ⟨g, o, s⟩ -> g ∉ F) : Rd E w' A c l := by
 refine ⟨h.cap, h.big, fun hl => ?_⟩
 obtain ⟨g, o, e, hk⟩ := h.at_ hl
 exact ⟨g, o, e, fun k x hx j v hv => hc.cell (hk k x hx j v hv) (hF g o none e)⟩
theorem Rd.on (h : Rd E w A c l) (hc : Ch [] w w') : Rd E w' A c l := h.keep hc (by simp)
theorem Rd.below (h : Rd E w A c l) (hb : Below w.heap.size w w') : Rd E w' A c l := h.on (Ch.of_below hb)
theorem Rd.drewN (h : Rd E w A c l) (n : Nat) : Rd E (w.drewN n) A c l := h.on ((Ch.refl _ _).drewN n)
theorem Rd.drew (h : Rd E w A c l) : Rd E w.drew A c l := h.on (Ch.refl _ _).drew
theorem Rd.cells (h : Rd E w A c l) {k : Nat} {x : α} (hk : l[k]? = some x) : ∃ g o, A = some ⟨g, o, none⟩ /\ ∀ j v, (E.enc x)[j]? = some v -> w.cell? ⟨g, o + k * E.sz + j, none⟩ = some v := by
 obtain ⟨g, o, e, hc⟩ := h.at_ (Nat.lt_of_le_of_lt (Nat.zero_le _) (List.getElem?_eq_some_iff.1 hk).1)
 exact ⟨g, o, e, hc k x hk⟩
theorem Rd.flat (h : Rd E w A c l) {ad : Addr} (e : A = some ad) : ∀ j v, (E.flat l)[j]? = some v -> w.cell? (ad.add j) = some v := by
 intro j v hv
 have hj : j < l.length * E.sz := by
   have := (List.getElem?_eq_some_iff.1 hv).1
   rwa [E.flat_length] at this
 have hs := E.sz0
 have hk : j / E.sz < l.length := Nat.div_lt_of_lt_mul (by rw [Nat.mul_comm]; exact hj)
 have hx : l[j / E.sz]? = some l[j / E.sz] := List.getElem?_eq_getElem hk
 obtain ⟨g, o, e', hc⟩ := h.cells hx
 rw [e] at e'
 injection e' with e'
 subst e'
 have hd := Nat.div_add_mod j E.sz
 rw [Nat.mul_comm] at hd
 have hg := E.flat_get hx (j % E.sz) (Nat.mod_lt _ hs)
 rw [hd] at hg
 have := hc (j % E.sz) v (by rw [<- hg]; exact hv)
 rw [Addr.add_mid]
 rw [show o + j / E.sz * E.sz + j % E.sz = o + j by omega] at this
 exact this
theorem Rd.take (h : Rd E w A c l) (n : Nat) : Rd E w A c (l.take n) := by
 refine ⟨Nat.le_trans (by simp; omega) h.cap, Nat.le_trans (by simp; omega) h.big, fun hl => ?_⟩
 obtain ⟨g, o, e, hc⟩ := h.at_ (by simp at hl; omega)
 refine ⟨g, o, e, fun k x hx j v hv => hc k x ?_ j v hv⟩
 rw [List.getElem?_take] at hx
 split at hx
 · exact hx
 · cases hx
theorem Ow.nil (E : El α) (w : World) (b : Nat) : Ow E w b none none 0 [] := ⟨.inl ⟨rfl, rfl, rfl, rfl⟩⟩
theorem Ow.rd (h : Ow E w b q A c l) : Rd E w A c l := by
 rcases h.lies with ⟨_, rfl, rfl, _⟩ | ⟨g, cur, _, rfl, _, hg, h1, h2, h3, h4⟩
 · exact Rd.nil _ _ _ _
 · refine ⟨h1, Nat.le_trans h1 h3, fun _ => ⟨g, 0, rfl, fun k x hx j v hv => ?_⟩⟩
   have hj : j < E.sz := by
     have := (List.getElem?_eq_some_iff.1 hv).1
     rwa [E.hlen] at this
   have hk : k < l.length := (List.getElem?_eq_some_iff.1 hx).1
   have hlt : k * E.sz + j < l.length * E.sz := by
     have : (k + 1) * E.sz <= l.length * E.sz := Nat.mul_le_mul_right _ hk
     rw [Nat.add_mul] at this
     omega
   have e1 := E.flat_get hx j hj
   rw [<- h4, List.getElem?_take_of_lt hlt] at e1
   unfold World.cell?
   simp only [hg, Nat.zero_add]
   rw [<- Array.getElem?_toList, e1, hv]
   rfl
theorem Ow.cap (h : Ow E w b q A c l) : l.length <= c := h.rd.cap
theorem Ow.size (h : Ow E w b q A c l) : ∀ k, q = some k -> b <= k /\ k < w.heap.size := by
 intro k hk
 rcases h.lies with ⟨_, _, _, h1⟩ | ⟨g, cur, h1, _, h3, h4, _⟩
 · rw [h1] at hk; cases hk
 · rw [h1] at hk; cases hk; exact ⟨h3, blk_lt h4⟩
theorem Ow.addr (h : Ow E w b q A c l) : (A = none /\ q = none /\ c = 0 /\ l = []) ∨ ∃ g, A = some ⟨g, 0, none⟩ /\ q = some g := by
 rcases h.lies with ⟨h1, h2, h3, h4⟩ | ⟨g, cur, h1, h2, _⟩
 · exact .inl ⟨h1, h4, h2, h3⟩
 · exact .inr ⟨g, h2, h1⟩
theorem Ow.far (h : Ow E w b q A c l) {F : List Nat} (hF : ∀ k, q = some k -> k ∉ F) : ∀ g o s, A = some ⟨g, o, s⟩ -> g ∉ F := by
 intro g o s e
 rcases h.addr with ⟨h1, _⟩ | ⟨g', h1, h2⟩
 · rw [h1] at e; cases e
 · rw [h1] at e
   simp only [Option.some.injEq, Addr.mk.injEq] at e
   exact hF g (by rw [h2, e.1])
theorem Ow.keep (h : Ow E w b q A c l) {F : List Nat} (hc : Ch F w w') (hF : ∀ k, q = some k -> k ∉ F) : Ow E w' b q A c l := by
 refine ⟨?_⟩
 rcases h.lies with h | ⟨g, cur, h1, h2, h3, h4, h5⟩
 · exact .inl h
 · exact .inr ⟨g, cur, h1, h2, h3, hc.blk h4 (hF g h1), h5⟩
theorem Ow.on (h : Ow E w b q A c l) (hc : Ch [] w w') : Ow E w' b q A c l := h.keep hc (by simp)
theorem Ow.drew (h : Ow E w b q A c l) : Ow E w.drew b q A c l := h.on (Ch.refl _ _).drew
theorem Ow.less (h : Ow E w b q A c l) (hb : b' <= b) : Ow E w b' q A c l := by
 refine ⟨?_⟩
 rcases h.lies with h | ⟨g, cur, h1, h2, h3, h4⟩
 · exact .inl h
 · exact .inr ⟨g, cur, h1, h2, by omega, h4⟩
theorem Ow.lit (E : El α) (W : World) (l : List α) (cs : Array Value) (h : cs.toList = E.flat l) (hm : l.length <= maxLen) : Ow E (W.alloc (.cells cs E.t)) W.heap.size (some W.heap.size) (some ⟨W.heap.size, 0, none⟩) l.length l := by
 refine ⟨.inr ⟨_, cs, rfl, rfl, Nat.le_refl _, heap_alloc_new W _, Nat.le_refl _, ?_, hm, ?_⟩⟩
 · rw [<- E.flat_length, <- h, Array.length_toList]; exact Nat.le_refl _
 · rw [h, <- E.flat_length, List.take_length]
theorem Ow.take (h : Ow E w b q A c l) (n : Nat) : Ow E w b q A c (l.take n) := by
 refine ⟨?_⟩
 rcases h.lies with ⟨h1, h2, h3, h4⟩ | ⟨g, cur, h1, h2, h3, h4, h5, h6, h7, h8⟩
 · exact .inl ⟨h1, h2, by simp [h3], h4⟩
 · refine .inr ⟨g, cur, h1, h2, h3, h4, Nat.le_trans (by simp; omega) h5, h6, h7, ?_⟩
   rw [<- E.flat_take, <- h8, List.take_take, List.length_take]
   congr 1
   rcases Nat.le_total n l.length with hn | hn
   · rw [Nat.min_eq_left hn, Nat.min_eq_left (Nat.mul_le_mul_right _ hn)]
   · rw [Nat.min_eq_right hn, Nat.min_eq_right (Nat.mul_le_mul_right _ hn)]
theorem Ow.cell (h : Ow E w b q A c l) {k : Nat} {x : α} (hk : l[k]? = some x) {g o : Nat} (hA : A = some ⟨g, o, none⟩) (j : Nat) (v : Value) (hv : (E.enc x)[j]? = some v) : w.cell? ⟨g, k * E.sz + j, none⟩ = some v /\ w.frozen? ⟨g, k * E.sz + j, none⟩ = false := by
 rcases h.lies with ⟨_, _, rfl, _⟩ | ⟨g', cur, _, rfl, _, hg, _⟩
 · simp at hk
 · obtain ⟨g2, o2, e2, hc⟩ := h.rd.cells hk
   simp only [Option.some.injEq, Addr.mk.injEq] at hA e2
   obtain ⟨rfl, rfl, _⟩ := hA
   obtain ⟨rfl, rfl, _⟩ := e2
   refine ⟨?_, ?_⟩
   · have := hc j v hv
     rwa [Nat.zero_add] at this
   · simp [World.frozen?, hg]
theorem Ow.setc (h : Ow E w b q A c l) {k : Nat} {x x' : α} (hk : l[k]? = some x) {g o : Nat} (hA : A = some ⟨g, o, none⟩) (j : Nat) (v : Value) (hj : j < E.sz) (hx : E.enc x' = (E.enc x).set j v) :
   Ow E (w.setCell ⟨g, k * E.sz + j, none⟩ v) b q A c (l.set k x') := by
 rcases h.lies with ⟨_, _, rfl, _⟩ | ⟨g', cur, rfl, rfl, h3, hg, h5, h6, h7, h8⟩
 · simp at hk
 · simp only [Option.some.injEq, Addr.mk.injEq] at hA
   obtain ⟨rfl, rfl, _⟩ := hA
   have hkl : k < l.length := (List.getElem?_eq_some_iff.1 hk).1
   refine ⟨.inr ⟨g', _, rfl, rfl, h3, blk_set hg _ v, by simpa using h5, by simpa using h6, h7, ?_⟩⟩
   have hlt : k * E.sz + j < l.length * E.sz := by
     have : (k + 1) * E.sz <= l.length * E.sz := Nat.mul_le_mul_right _ hkl
     rw [Nat.add_mul] at this
     omega
   rw [Array.toList_setIfInBounds, List.length_set, List.take_set, h8]
   apply List.ext_getElem?
   intro i
   rw [List.getElem?_set]
   have hl1 : (E.flat l).length = l.length * E.sz := E.flat_length l
   have hl2 : (E.flat (l.set k x')).length = l.length * E.sz := by rw [E.flat_length, List.length_set]
   by_cases hi : i < l.length * E.sz
   · have hd := Nat.div_add_mod i E.sz
     rw [Nat.mul_comm] at hd
     have hm := Nat.mod_lt i E.sz0
     have hq : i / E.sz < l.length := Nat.div_lt_of_lt_mul (by rw [Nat.mul_comm]; exact hi)
     have e1 := E.flat_get (List.getElem?_eq_getElem hq) (i % E.sz) hm
     have e2 := E.flat_get (l := l.set k x') (List.getElem?_eq_getElem (by simpa using hq)) (i % E.sz) hm
     rw [hd] at e1 e2
     rw [e2, List.getElem_set]
     by_cases hki : k = i / E.sz
     · rw [if_pos hki, hx, List.getElem?_set, E.hlen]
       by_cases hji : j = i % E.sz
       · rw [if_pos (by rw [hki, hji]; exact hd), if_pos (by omega), if_pos hji, if_pos hj]
       · rw [if_neg (by intro e; rw [hki] at e; omega), if_neg hji, e1]
         have : l[i / E.sz] = x := by
           have h9 := hk
           rw [hki, List.getElem?_eq_getElem hq] at h9
           exact Option.some.inj h9
         rw [this]
     · rw [if_neg hki, e1, if_neg]
       intro e
       apply hki
       rw [<- e]
       rw [Nat.mul_comm, Nat.mul_add_div E.sz0, Nat.div_eq_of_lt hj, Nat.add_zero]
   · rw [List.getElem?_eq_none (l := E.flat (l.set k x')) (by rw [hl2]; omega)]
     rw [if_neg (by omega), List.getElem?_eq_none (by rw [hl1]; omega)]
theorem Rd.drop (h : Rd E w A c l) (n : Nat) (hn : n <= l.length) : Rd E w (if c = n then A else A.map (·.add (n * E.sz))) (c - n) (l.drop n) := by
 refine ⟨by have := h.cap; simp; omega, Nat.le_trans (by simp) h.big, fun hl => ?_⟩
 rw [List.length_drop] at hl
 obtain ⟨g, o, rfl, hc⟩ := h.at_ (by omega)
 rw [if_neg (by have := h.cap; omega)]
 refine ⟨g, o + n * E.sz, by simp only [Option.map_some, Addr.add_mid], fun k x hx j v hv => ?_⟩
 rw [List.getElem?_drop] at hx
 have := hc (n + k) x hx j v hv
 rwa [Nat.add_mul, <- Nat.add_assoc] at this
theorem cut_mid (E : El α) (t : TypeId) (ht : E.s = t) (A : Option Addr) (c a b m : Nat) (h1 : a <= b) (h2 : b <= m) (h3 : m <= c) : ∃ A2,
   (∀ W : World, (Instr.slice t (.slice A m c) (some (.int .i64 (a : Int))) (some (.int .i64 (b : Int))) none).run Tryz.prog W = .ok (.slice A2 (b - a) (c - a)) W) /\
   (∀ (w : World) (l : List α), l.length = m -> Rd E w A c l -> Rd E w A2 (c - a) ((l.take b).drop a)) /\ (∀ g o s, A2 = some ⟨g, o, s⟩ -> ∃ o' s', A = some ⟨g, o', s'⟩) := by
 subst ht
 obtain ⟨i0, hi, hzz⟩ := Option.map_eq_some_iff.1 E.info
 simp only [Prod.mk.injEq] at hzz
 have hel : Tryz.prog.elem E.s = E.t := by simp [Program.elem, E.und]
 have hu : Tryz.prog.underlying E.s = some (.slice (Tryz.prog.elem E.s)) := by rw [hel]; exact E.und
 refine ⟨if c = a then A else A.map (·.add (a * E.sz)), fun W => ?_, fun w l hl h => ?_, ?_⟩
 · rw [run_slice_lh W E.s A m c hu .i64 .i64 (a : Int) (b : Int) (by omega) (by omega) (by omega), hel]
   simp [sizeOf, typeInfo, hi, hzz.2.1, sliced, Result.andThen]
 · exact (h.take b).drop a (by simp; omega)
 · intro g o s
   by_cases hca : c = a
   · rw [if_pos hca]
     exact fun e => ⟨o, s, e⟩
   · rw [if_neg hca]
     rcases A with _ | A
     · simp
     · simp only [Option.map_some, Option.some.injEq]
       intro e
       have := congrArg Addr.block e
       rw [add_block] at this
       exact ⟨A.off, A.spot, by simp only at this; rw [<- this]⟩
theorem cut_take (E : El α) (t : TypeId) (ht : E.s = t) (A : Option Addr) (c b m : Nat) (h2 : b <= m) (h3 : m <= c) :
   (∀ W : World, (Instr.slice t (.slice A m c) none (some (.int .i64 (b : Int))) none).run Tryz.prog W = .ok (.slice A b c) W) := by
 subst ht
 obtain ⟨i0, hi, hzz⟩ := Option.map_eq_some_iff.1 E.info
 have hel : Tryz.prog.elem E.s = E.t := by simp [Program.elem, E.und]
 have hu : Tryz.prog.underlying E.s = some (.slice (Tryz.prog.elem E.s)) := by rw [hel]; exact E.und
 intro W
 rw [run_slice_h W E.s A m c hu .i64 (b : Int) (by omega) (by omega), hel]
 simp only [Prod.mk.injEq] at hzz
 have h0 : ∀ a : Addr, a.add 0 = a := fun a => by unfold Addr.add; simp
 rcases A with _ | A <;> simp [sizeOf, typeInfo, hi, sliced, Result.andThen, h0]
theorem cut_drop (E : El α) (t : TypeId) (ht : E.s = t) (A : Option Addr) (c a m : Nat) (h2 : a <= m) (h3 : m <= c) : ∃ A2,
   (∀ W : World, (Instr.slice t (.slice A m c) (some (.int .i64 (a : Int))) none none).run Tryz.prog W = .ok (.slice A2 (m - a) (c - a)) W) /\
   (∀ (w : World) (l : List α), l.length = m -> Rd E w A c l -> Rd E w A2 (c - a) (l.drop a)) /\ (∀ g o s, A2 = some ⟨g, o, s⟩ -> ∃ o' s', A = some ⟨g, o', s'⟩) := by
 subst ht
 obtain ⟨i0, hi, hzz⟩ := Option.map_eq_some_iff.1 E.info
 simp only [Prod.mk.injEq] at hzz
 have hel : Tryz.prog.elem E.s = E.t := by simp [Program.elem, E.und]
 have hu : Tryz.prog.underlying E.s = some (.slice (Tryz.prog.elem E.s)) := by rw [hel]; exact E.und
 refine ⟨if c = a then A else A.map (·.add (a * E.sz)), fun W => ?_, fun w l hl h => ?_, ?_⟩
 · rw [run_slice_l W E.s A m c hu .i64 (a : Int) (by omega) (by omega), hel]
   simp [sizeOf, typeInfo, hi, hzz.2.1, sliced, Result.andThen]
 · exact h.drop a (by omega)
 · intro g o s
   by_cases hca : c = a
   · rw [if_pos hca]
     exact fun e => ⟨o, s, e⟩
   · rw [if_neg hca]
     rcases A with _ | A
     · simp
     · simp only [Option.map_some, Option.some.injEq]
       intro e
       have := congrArg Addr.block e
       rw [add_block] at this
       exact ⟨A.off, A.spot, by simp only at this; rw [<- this]⟩
theorem run_append_Ow (h : Ow E W b q A c l) {X : Option Addr} {cx k : Nat} {ys : List α} (hY : Rd E W X cx ys) (hk : ys.length = k) (hl : (l.length + k) * E.bytes <= 140737488355328) (hbase : b <= W.heap.size) (ty : TypeId) :
   ∃ A' c' q' W', (Builtin.append_ #[E.s, E.s] ty #[.slice A l.length c, .slice X k cx]).run Tryz.prog W = .ok (.slice A' (l.length + k) c') W' /\ Ow E W' b q' A' c' (l ++ ys) /\ Ch q.toList W W' /\ (q' = q ∨ q' = some W.heap.size) := by
 subst hk
 obtain ⟨i0, hi, hzz⟩ := Option.map_eq_some_iff.1 E.info
 simp only [Prod.mk.injEq] at hzz
 obtain ⟨hz0, hz1, hz2⟩ := hzz
 have ht := E.und
 have hs0 := E.sz0
 have hbig : l.length + ys.length <= 140737488355328 := Nat.le_trans (Nat.le_mul_of_pos_right _ E.by0) hl
 rcases Nat.eq_zero_or_pos ys.length with h0 | h0
 · obtain rfl : ys = [] := List.eq_nil_of_length_eq_zero h0
   refine ⟨A, c, q, W, ?_, by simpa using h, Ch.refl _ W, .inl rfl⟩
   have hf : (Builtin.firstCells i0.size 0 (.slice X 0 cx)).run Tryz.prog W = .ok #[] W := by
     cases X <;> simp [Builtin.firstCells, loadCells, loadCellsFrom]
   rcases h.lies with ⟨rfl, rfl, rfl, _⟩ | ⟨g, cur, _, rfl, _, hg, h1, h2, h3, h4⟩
   · simp [Builtin.append_, run_underlying ht, sizeOf, typeInfo, hi, Builtin.lenOf, hf]
   · simp [Builtin.append_, run_underlying ht, sizeOf, typeInfo, hi, Builtin.lenOf, hf, h1, storeCells]
 · obtain ⟨gx, ox, rfl, _⟩ := hY.at_ h0
   have hcells := hY.flat rfl
   have hone := E.flat_one ys
   have hlm : l.length + ys.length <= maxLen := by unfold maxLen; omega
   have grown : ∀ (old : Nat), old < l.length + ys.length -> ∀ (row : Option Nat),
       Ow E (W.drew.alloc (.cells ((E.flat l).toArray ++ (E.flat ys).toArray ++ Builtin.zeroCells E.zero.cells (grownCap W (l.length + ys.length) old E.t - (l.length + ys.length))) E.t)) b (some W.heap.size) (some ⟨W.heap.size, 0, none⟩) (grownCap W (l.length + ys.length) old E.t) (l ++ ys) /\
       Ch row.toList W (W.drew.alloc (.cells ((E.flat l).toArray ++ (E.flat ys).toArray ++ Builtin.zeroCells E.zero.cells (grownCap W (l.length + ys.length) old E.t - (l.length + ys.length))) E.t)) := by
     intro old ho row
     have hge := grownCap_ge W (l.length + ys.length) old E.t
     have hcm : grownCap W (l.length + ys.length) old E.t <= maxLen := grownCap_le_maxLen W (l.length + ys.length) old E.t hlm
     refine ⟨⟨.inr ⟨W.heap.size, _, rfl, rfl, hbase, heap_alloc_new W.drew _, by rw [List.length_append]; exact hge, ?_, hcm, ?_⟩⟩, (Ch.refl _ _).drew.alloc _⟩
     · simp only [Array.size_append, List.size_toArray, size_zeroCells, El.flat_length, E.hz]
       rw [<- Nat.add_mul, <- Nat.add_mul]
       exact Nat.mul_le_mul_right _ (by omega)
     · simp only [Array.toList_append]
       rw [<- El.flat_app, <- El.flat_length]
       exact List.take_left
   rcases h.lies with ⟨rfl, rfl, rfl, rfl⟩ | ⟨g, cur, rfl, rfl, hbg, hg, h1, h2, h3, h4⟩
   · have hr := run_append_nil (P := Tryz.prog) W E.s ty E.t i0 E.zero ht hi hz0 ⟨gx, ox, none⟩ ys.length cx (E.flat ys) (by rw [hz1, El.flat_length]) hcells h0 (by simp at hbig; omega) (by rw [hz2]; simp at hl; omega)
     have hgr := grown 0 (by simp; omega) none
     simp only [List.length_nil, Nat.zero_add, List.nil_append] at hgr ⊢
     have e0 : (E.flat []).toArray = #[] := rfl
     rw [e0, Array.empty_append] at hgr
     exact ⟨_, _, _, _, hr, hgr.1, hgr.2, .inr rfl⟩
   · by_cases hroom : l.length + ys.length <= c
     · have hfit : l.length * i0.size + (E.flat ys).length <= cur.size := by
         rw [El.flat_length, hz1, <- Nat.add_mul]
         exact Nat.le_trans (Nat.mul_le_mul_right _ hroom) h2
       have hr := run_append_room (P := Tryz.prog) W E.s ty E.t i0 ht hi g l.length c cur hg ⟨gx, ox, none⟩ ys.length cx (E.flat ys) (by rw [hz1, El.flat_length]) hcells hone hroom hfit
       refine ⟨_, _, some g, _, hr, ⟨.inr ⟨g, _, rfl, rfl, hbg, setRow_heap W g cur _ E.t _ hg, by rw [List.length_append]; exact hroom, ?_, h3, ?_⟩⟩, ⟨rfl, rfl, rfl, by simp, fun k _ hk => setRow_other W g k _ (fun e => hk (by simp [e]))⟩, .inl rfl⟩
       · simp only [List.size_toArray, List.length_append, List.length_take, List.length_drop, Array.length_toList, hz1]
         rw [hz1] at hfit
         omega
       · rw [hz1, h4, <- El.flat_app, <- El.flat_length]
         exact List.take_left
     · have holds : ∀ j u, (E.flat l)[j]? = some u -> W.cell? ((⟨g, 0, none⟩ : Addr).add j) = some u := h.rd.flat rfl
       have hr := run_append_grow (P := Tryz.prog) W E.s ty E.t i0 E.zero ht hi hz0 ⟨g, 0, none⟩ l.length c (E.flat l) (by rw [hz1, El.flat_length]) holds ⟨gx, ox, none⟩ ys.length cx (E.flat ys) (by rw [hz1, El.flat_length]) hcells (by omega) (by omega) (growslice_fits (by omega) (by rw [hz2]; omega))
       have hgr := grown c (by omega) (some g)
       exact ⟨_, _, _, _, hr, hgr.1, hgr.2, .inr rfl⟩
theorem wpList_append_Ow {ops : Array Oper} {rest : List Oper} {o : Oper} {a : Act} {Q : Exit -> Act -> World -> Prop} {n : Nat} (hgd : o.guard = none) (s x : Operand) (t : TypeId) (ht : E.s = t)
   (ho : o.op = .call { callee := .builtin .append, args := #[s, x], argTypes := #[t, t] }) (X : Option Addr) (k cx : Nat) (ys : List α) (hs : a.eval s = .slice A n c) (hx : a.eval x = .slice X k cx) (hn : l.length = n)
   (h : Ow E W b q A c l) (hY : Rd E W X cx ys) (hk : ys.length = k) (hl : (n + k) * E.bytes <= 140737488355328) (hbase : b <= W.heap.size)
   (hK : ∀ A' c' q' W', Ow E W' b q' A' c' (l ++ ys) -> Ch q.toList W W' -> (q' = q ∨ q' = some W.heap.size) -> wpList Tryz.prog ops Q rest (a.put o.dst (.slice A' (n + k) c')) W') :
   wpList Tryz.prog ops Q (o :: rest) a W := by
 subst hn ht
 obtain ⟨A', c', q', W', hr, h1, h2, h3⟩ := run_append_Ow h (cx := cx) hY hk hl hbase o.type
 refine wpList_plain hgd fun K hK' => ?_
 unfold Oper.wp execOp
 simp only [ho, resolve, invoke, builtin, Sem.run_bind, Sem.run_pure, Result.andThen_ok, List.map_toArray, List.map_cons, List.map_nil, hs, hx, hr]
 exact hK' _ _ (hK A' c' q' W' h1 h2 h3)
theorem step_append_Ow {ops : Array Oper} {o : Oper} {a : Act} {Kc : Act -> World -> Prop} {Q : Exit -> Act -> World -> Prop} {n : Nat} (hw : Region.wanted o (yielded ops a.tmps) = true) (s x : Operand) (t : TypeId) (ht : E.s = t)
   (ho : o.op = .call { callee := .builtin .append, args := #[s, x], argTypes := #[t, t] }) (X : Option Addr) (k cx : Nat) (ys : List α) (hs : a.eval s = .slice A n c) (hx : a.eval x = .slice X k cx) (hn : l.length = n)
   (h : Ow E W b q A c l) (hY : Rd E W X cx ys) (hk : ys.length = k) (hl : (n + k) * E.bytes <= 140737488355328) (hbase : b <= W.heap.size)
   (hK : ∀ A' c' q' W', Ow E W' b q' A' c' (l ++ ys) -> Ch q.toList W W' -> (q' = q ∨ q' = some W.heap.size) -> Kc (a.put o.dst (.slice A' (n + k) c')) W') :
   if Region.wanted o (yielded ops a.tmps) = true then Oper.wp Tryz.prog o a W Kc Q else Kc (a.put o.dst undef) W := by
 subst hn ht
 obtain ⟨A', c', q', W', hr, h1, h2, h3⟩ := run_append_Ow h (cx := cx) hY hk hl hbase o.type
 rw [if_pos hw]
 unfold Oper.wp execOp
 simp only [ho, resolve, invoke, builtin, Sem.run_bind, Sem.run_pure, Result.andThen_ok, List.map_toArray, List.map_cons, List.map_nil, hs, hx, hr]
 exact hK A' c' q' W' h1 h2 h3
end
end
def Iv : El Int where
 enc x := [.int .i64 x]
 t := 3
 s := 57
 sz := 1
 bytes := 8
 zero := .int .i64 0
 sz0 := by decide
 by0 := by decide
 hlen _ := rfl
 hone x u h := by simp at h; subst h; rfl
 und := Tryz.underlying57
 info := by kernel_rfl
 hz := rfl
def Lvs (l : List Int) : Prop := ∀ x ∈ l, x = 0 ∨ x = 1
theorem Lvs.take {l : List Int} (h : Lvs l) (n : Nat) : Lvs (l.take n) := fun x hx => h x (List.mem_of_mem_take hx)
theorem Lvs.drop {l : List Int} (h : Lvs l) (n : Nat) : Lvs (l.drop n) := fun x hx => h x (List.mem_of_mem_drop hx)
theorem Lvs.app {l m : List Int} (h : Lvs l) (k : Lvs m) : Lvs (l ++ m) := fun x hx => by
 rcases List.mem_append.1 hx with hx | hx
 · exact h x hx
 · exact k x hx
theorem Lvs.one {x : Int} (h : x = 0 ∨ x = 1) : Lvs [x] := fun y hy => by simp at hy; subst hy; exact h
structure Ls (w : World) (A : Option Addr) (c : Nat) (l : List Int) : Prop where
 rds : Rd Iv w A c l
 lv : Lvs l
theorem rd_mem {l : List Int} {i : Nat} (h1 : i < l.length) : rd l i ∈ l := by
 unfold rd
 rw [Int.toNat_natCast, List.getD_eq_getElem?_getD, List.getElem?_eq_getElem h1]
 exact List.getElem_mem _
theorem rd_get {l : List Int} {i : Nat} (h1 : i < l.length) : l[i]? = some (rd l i) := by
 unfold rd
 rw [Int.toNat_natCast, List.getD_eq_getElem?_getD, List.getElem?_eq_getElem h1]
 rfl
theorem take_rd (l : List Int) (k : Nat) (h : k < l.length) : l.take (k + 1) = l.take k ++ [rd l k] := by
 rw [List.take_add_one, rd_get h]
 rfl
theorem Rd.int {w : World} {A : Option Addr} {c : Nat} {l : List Int} (h : Rd Iv w A c l) (k : Nat) (hk : k < l.length) : ∃ g o, A = some ⟨g, o, none⟩ /\ w.cell? ⟨g, o + k, none⟩ = some (.int .i64 (rd l k)) := by
 obtain ⟨g, o, e, hc⟩ := h.cells (rd_get hk)
 exact ⟨g, o, e, by have := hc 0 _ rfl; rwa [show o + k * Iv.sz + 0 = o + k from by simp [Iv]] at this⟩
theorem Ls.at_ {w : World} {A : Option Addr} {c : Nat} {l : List Int} (h : Ls w A c l) (k : Nat) (hk : k < l.length) : ∃ g o, A = some ⟨g, o, none⟩ /\ w.cell? ⟨g, o + k, none⟩ = some (.int .i64 (rd l k)) /\ (rd l k = 0 ∨ rd l k = 1) := by
 obtain ⟨g, o, e, hc⟩ := h.rds.int k hk
 exact ⟨g, o, e, hc, h.lv _ (rd_mem hk)⟩
theorem Ls.on {w w' : World} {A : Option Addr} {c : Nat} {l : List Int} (h : Ls w A c l) (hc : Ch [] w w') : Ls w' A c l := ⟨h.rds.on hc, h.lv⟩
theorem Ls.drewN {w : World} {A : Option Addr} {c : Nat} {l : List Int} (h : Ls w A c l) (n : Nat) : Ls (w.drewN n) A c l := ⟨h.rds.drewN n, h.lv⟩
theorem Rd.len63 {α : Type} {E : El α} {w : World} {A : Option Addr} {c : Nat} {l : List α} (h : Rd E w A c l) {n : Nat} (hn : l.length = n) : (n : Int) <= 9223372036854775807 := by have := h.big; unfold maxLen at this; omega
theorem ret_int {k : IntKind} {a b : Int} (h : a = b) : Ending.returned (.int k a) = .returned (.int k b) := by rw [h]
theorem int_eq {k : IntKind} {a b : Int} (h : a = b) : Value.int k a = .int k b := by rw [h]
theorem notLevel_calls (x : Int) (hx : x = 0 ∨ x = 1) (w : World) :
   Calls Tryz.prog 148 #[.int .i64 x] w fun e w' => e = .returned (.bool false) /\ w = w' := by
 rcases hx with rfl | rfl
 · go_enter Tryz.func148, Tryz.ntmps148
   go_wp2
   go_ret
   exact ⟨rfl, rfl⟩
 · go_enter Tryz.func148, Tryz.ntmps148
   go_wp2
   go_ret
   exact ⟨rfl, rfl⟩
theorem index_calls (A : Option Addr) (c n : Nat) (l : List Int) (hn : l.length = n) (w : World) (h : Ls w A c l) :
   Calls Tryz.prog 147 #[.slice A n c, .func (.func 148) #[] #[]] w fun e w' => e = .returned (.int .i64 (-1)) /\ w = w' := by
 have hlen := h.rds.len63 hn
 subst hn
 have H := Ad h
 clear h
 go_enter Tryz.func147, Tryz.ntmps147
 go_wp2
 go_loop [8] (fun v => ∃ k : Nat, k <= l.length /\ v = .int .i64 k) (fun v => l.length - (intOf v).toNat)
 case atStart => exact ⟨0, by omega, rfl⟩
 case round =>
   obtain ⟨k, hk, rfl⟩ := hrel
   by_cases hlt : k < l.length
   · obtain ⟨g, o, rfl, hc, hx⟩ := H.out.at_ k hlt
     have HX := Ad hx
     clear hx
     go_wp2_with fail
     refine (notLevel_calls _ HX.out _).mono ?_
     rintro e w' ⟨rfl, rfl⟩
     go_wp2
     go_round
     case rel => exact ⟨k + 1, by omega, by go_num⟩
     case measure => simp [intOf]; omega
   · go_wp2
     go_ret
     exact ⟨rfl, rfl⟩
theorem check_calls (A : Option Addr) (c n : Nat) (l : List Int) (hn : l.length = n) (w : World) (h : Ls w A c l) :
   Calls Tryz.prog 133 #[.slice A n c] w fun e w' => e = .returned (.int .i64 (-1)) /\ w = w' := by
 go_enter Tryz.func133, Tryz.ntmps133
 go_wp2_with fail
 refine (index_calls A c n l hn _ h).mono ?_
 rintro e w' ⟨rfl, rfl⟩
 go_wp2
 go_ret
 exact ⟨rfl, rfl⟩
theorem u64_wrap {n : Nat} (h : n < 18446744073709551616) : IntKind.u64.wrap (n : Int) = n := by
 simp [IntKind.wrap, IntKind.bits, IntKind.signed]
 omega
theorem val_step (m k : Nat) (x : Int) (hx : x = 0 ∨ x = 1) (hm : m < 2 ^ k) (hk : k < 64) : bits BinOp.or IntKind.u64 (IntKind.u64.wrap ((m : Int) * 2)) (IntKind.u64.wrap x) = ((2 * m + x.toNat : Nat) : Int) := by
 have hp : 2 ^ k <= 2 ^ 63 := Nat.pow_le_pow_right (by decide) (by omega)
 have hm' : 2 * m < 18446744073709551616 := by omega
 rw [show (m : Int) * 2 = ((2 * m : Nat) : Int) by omega, u64_wrap hm']
 rcases hx with rfl | rfl
 · rw [show (0 : Int) = ((0 : Nat) : Int) from rfl, u64_wrap (by decide), u64_or_nat _ _ hm' (by decide)]
   simp
 · rw [show (1 : Int) = ((1 : Nat) : Int) from rfl, u64_wrap (by decide), u64_or_nat _ _ hm' (by decide)]
   rw [show 2 * m ||| 1 = 2 * m + 1 from by have := Nat.two_pow_add_eq_or_of_lt (i := 1) (show 1 < 2 ^ 1 by decide) m; simpa using this.symm]
   simp
theorem value_calls (A : Option Addr) (c n : Nat) (l : List Int) (hn : l.length = n) (h64 : n <= 64) (w : World) (h : Ls w A c l) :
   Calls Tryz.prog 136 #[.slice A n c] w fun e w' => e = .returned (.tuple #[.int .u64 (Pl.val l 0 : Nat), .int .i64 0]) /\ w = w' := by
 have hlen := h.rds.len63 hn
 subst hn
 have H := Ad h
 clear h
 go_enter Tryz.func136, Tryz.ntmps136
 go_wp2_with fail
 refine (check_calls A c _ l rfl _ H.out).mono ?_
 rintro e w' ⟨rfl, rfl⟩
 go_wp2
 go_loop [4, 17] (fun m v => ∃ k : Nat, k <= l.length /\ v = .int .i64 k /\ m = .int .u64 (Pl.val (l.take k) 0 : Nat)) (fun _ v => l.length - (intOf v).toNat)
 case atStart => exact ⟨0, by omega, rfl, rfl⟩
 case round =>
   obtain ⟨k, hk, rfl, rfl⟩ := hrel
   by_cases hlt : k < l.length
   · obtain ⟨g, o, rfl, hc, hx⟩ := H.out.at_ k hlt
     have HV := Ad (show bits BinOp.or IntKind.u64 (IntKind.u64.wrap ((Pl.val (l.take k) 0 : Nat) * 2)) (IntKind.u64.wrap (rd l k)) = (Pl.val (l.take (k + 1)) 0 : Nat) by
       rw [val_step _ k _ hx ?_ (by omega), take_rd l k hlt, Pl.val_snoc]
       have := Pl.val_lt (l.take k) 0 0 (H.out.lv.take k) (by decide)
       rwa [List.length_take, Nat.min_eq_left hk, Nat.zero_add] at this)
     clear hx
     go_wp2
     go_round
     case rel => exact ⟨k + 1, by omega, by go_num, int_eq HV.out⟩
     case measure => simp [intOf]; omega
   · go_wp2
     go_ret2
     rw [List.take_of_length_le (by omega)]
     exact ⟨rfl, rfl⟩
theorem of_bit (n k : Nat) (hn : n < 18446744073709551616) : wrap64 (bits BinOp.and IntKind.u64 ((n : Int) / 2 ^ k) 1) = ((n / 2 ^ k % 2 : Nat) : Int) := by
 have h1 : (n : Int) / 2 ^ k = ((n / 2 ^ k : Nat) : Int) := by rw [Int.natCast_ediv, Int.natCast_pow]; rfl
 have h2 : n / 2 ^ k < 18446744073709551616 := Nat.lt_of_le_of_lt (Nat.div_le_self _ _) hn
 rw [h1, show (1 : Int) = ((1 : Nat) : Int) from rfl, u64_and_nat _ _ h2 (by decide), Nat.and_one_is_mod]
 unfold wrap64
 omega
theorem info3 : (Tryz.prog.info? 3).map (fun i => (i.zero, i.size, i.bytes)) = some (some (.int .i64 0), 1, 8) := by kernel_rfl
theorem Iv.flat_replicate (m : Nat) : Iv.flat (List.replicate m 0) = List.replicate m (.int .i64 0) := by
 induction m with
 | zero => rfl
 | succ m ih => rw [List.replicate_succ, El.flat_cons, ih, List.replicate_succ]; rfl
theorem Iv.made (W : World) (m : Nat) (hm : m <= maxLen) : Ow Iv (W.alloc (.cells (madeCells #[.int .i64 0] m) 3)) W.heap.size (some W.heap.size) (some ⟨W.heap.size, 0, none⟩) m (List.replicate m 0) := by
 have h := Ow.lit Iv W (List.replicate m 0) (madeCells #[.int .i64 0] m) ?_ (by simpa using hm)
 · rw [List.length_replicate] at h
   exact h
 · rw [Iv.flat_replicate]
   apply List.ext_getElem
   · simp [madeCells]
   · intro i h1 h2
     simp [madeCells, Nat.mod_one]
theorem ow_int {w : World} {b : Nat} {q : Option Nat} {A : Option Addr} {c : Nat} {l : List Int} (h : Ow Iv w b q A c l) (k : Nat) (hk : k < l.length) : ∃ g, q = some g /\ A = some ⟨g, 0, none⟩ /\ b <= g /\ g < w.heap.size /\ w.cell? ⟨g, k, none⟩ = some (.int .i64 (rd l k)) /\ w.frozen? ⟨g, k, none⟩ = false := by
 rcases h.addr with ⟨_, _, _, rfl⟩ | ⟨g, h1, h2⟩
 · simp at hk
 · obtain ⟨c1, c2⟩ := h.cell (rd_get hk) h1 0 _ rfl
   obtain ⟨z1, z2⟩ := h.size g h2
   rw [show k * Iv.sz + 0 = k by simp [Iv]] at c1 c2
   exact ⟨g, h2, h1, z1, z2, c1, c2⟩
theorem Ow.set_int {w : World} {b : Nat} {q : Option Nat} {A : Option Addr} {c : Nat} {l : List Int} (h : Ow Iv w b q A c l) (k : Nat) (hk : k < l.length) {g : Nat} (hA : A = some ⟨g, 0, none⟩) (x : Int) : Ow Iv (w.setCell ⟨g, k, none⟩ (.int .i64 x)) b q A c (l.set k x) := by
 have := h.setc (x' := x) (rd_get hk) hA 0 (.int .i64 x) (by decide) rfl
 rwa [show k * Iv.sz + 0 = k by simp [Iv]] at this
theorem of_set (n k i : Nat) (hi : i < k) : (List.replicate (k - i) (0 : Int) ++ Pl.ofBits n i).set (k - 1 - i) ((n / 2 ^ i % 2 : Nat) : Int) = List.replicate (k - (i + 1)) 0 ++ Pl.ofBits n (i + 1) := by
 obtain ⟨d, rfl⟩ : ∃ d, k = i + 1 + d := ⟨k - i - 1, by omega⟩
 rw [show i + 1 + d - i = d + 1 by omega, show i + 1 + d - 1 - i = d by omega, show i + 1 + d - (i + 1) = d by omega, List.replicate_succ', List.append_assoc, List.set_append_right _ _ (by simp)]
 simp [Pl.ofBits]
theorem of_calls (n k : Nat) (hn : n < 18446744073709551616) (hk : k <= 64) (w : World) :
   Calls Tryz.prog 168 #[.int .u64 n, .int .i64 k] w fun e w' => ∃ A c q, e = .returned (.tuple #[.slice A k c, .int .i64 0]) /\ Ow Iv w' w.heap.size q A c (Pl.ofBits n k) /\ Ch [] w w' := by
 have HN := Ad hn
 clear hn
 have hmk := fun W : World => print_make (P := Tryz.prog) 57 3 .i64 8 Tryz.underlying57 info3 (by decide) k (by omega) W
 have M := Ad (Iv.made w k (by unfold maxLen; omega))
 go_enter Tryz.func168, Tryz.ntmps168
 go_wp2
 go_loopw [17] (fun v wr => ∃ i : Nat, i <= k /\ v = .int .i64 i /\ Aside0 (Ow Iv wr w.heap.size (some w.heap.size) (some ⟨w.heap.size, 0, none⟩) k (List.replicate (k - i) 0 ++ Pl.ofBits n i)) /\ Aside0 (Ch [] w wr)) (fun v _ => k - (intOf v).toNat)
 case atStart => exact ⟨0, by omega, rfl, ⟨by simpa [Pl.ofBits] using M.out⟩, ⟨(Ch.refl _ _).alloc _⟩⟩
 case round =>
   obtain ⟨i, hi, rfl, HO, HC⟩ := hrel
   by_cases hlt : i < k
   · have hll : (List.replicate (k - i) (0 : Int) ++ Pl.ofBits n i).length = k := by rw [List.length_append, List.length_replicate, Pl.ofBits_length]; omega
     obtain ⟨g, hq, hA, -, -, hc, hf⟩ := ow_int HO.out (k - 1 - i) (by omega)
     simp only [Option.some.injEq] at hq
     subst hq
     have e1 : ((k - 1 - i : Nat) : Int) = (k : Int) - 1 - i := by omega
     have HS := Ad (HO.out.set_int (k - 1 - i) (by omega) rfl ((n / 2 ^ i % 2 : Nat) : Int))
     have e2 : ((k : Int) - 1 - (i : Int)).toNat = k - 1 - i := by omega
     have HB := Ad (of_bit n i HN.out)
     have HL := Ad hll
     have hi0 : (0 : Int) <= (k : Int) - 1 - i := by omega
     clear hll hA e1
     go_wp2
     go_roundw
     case rel =>
       rw [HB.out]
       exact ⟨i + 1, by omega, by go_num, ⟨by rw [<- of_set n k i hlt]; exact HS.out⟩, ⟨HC.out.set _ _ (.inr (Nat.le_refl _))⟩⟩
     case measure => simp [intOf]; omega
   · obtain rfl : i = k := by omega
     go_wp2
     go_ret2
     have h := HO.out
     rw [Nat.sub_self, List.replicate_zero, List.nil_append] at h
     exact ⟨_, _, _, rfl, h, HC.out⟩
theorem and_two14 (s : Nat) (hs : s < 32768) : s &&& 2 ^ 14 = if 16384 <= s then 16384 else 0 := by
 apply Nat.eq_of_testBit_eq
 intro i
 rw [Nat.testBit_and, Nat.testBit_two_pow]
 by_cases hi : i = 14
 · subst hi
   simp only [decide_true, Bool.and_true]
   rw [Nat.testBit_eq_decide_div_mod_eq]
   split
   · rename_i h
     have e : s / 2 ^ 14 % 2 = 1 := by omega
     rw [e]; decide
   · rename_i h
     have e : s / 2 ^ 14 % 2 = 0 := by omega
     rw [e]; decide
 · rw [show decide (14 = i) = false by simp; omega, Bool.and_false]
   split
   · rw [show (16384 : Nat) = 2 ^ 14 from rfl, Nat.testBit_two_pow]
     simp; omega
   · simp
theorem step_bits (s : Nat) (hs : s < 32768) : (bits BinOp.and IntKind.i64 (s : Int) 16384 != 0) = Nat.ble 16384 s /\ bits BinOp.and IntKind.i64 ((s : Int) * 2) 32767 = ((s * 2 % 32768 : Nat) : Int) := by
 have hk : ∀ n : Int, 0 <= n -> n < 2 ^ 16 -> IntKind.i64.wrap n = n := fun n h0 h1 => IntWalk.i64_in _ (by omega)
 constructor
 · have e := (bits_nat .i64 16 (by decide) hk s 16384 (by omega) (by decide)).1
   rw [show ((16384 : Nat) : Int) = 16384 from rfl] at e
   rw [e]
   have := and_two14 s hs
   rw [show (2 : Nat) ^ 14 = 16384 from rfl] at this
   rw [this]
   by_cases h : 16384 <= s
   · rw [if_pos h, Nat.ble_eq_true_of_le h]; rfl
   · rw [if_neg h]
     have : Nat.ble 16384 s = false := by
       cases hb : Nat.ble 16384 s
       · rfl
       · exact absurd (Nat.le_of_ble_eq_true hb) h
     rw [this]; rfl
 · have e := (bits_nat .i64 16 (by decide) hk (s * 2) 32767 (by omega) (by decide)).1
   rw [show ((32767 : Nat) : Int) = 32767 from rfl] at e
   rw [show (s : Int) * 2 = ((s * 2 : Nat) : Int) by omega, e, show (32767 : Nat) = 2 ^ 15 - 1 from rfl, Nat.and_two_pow_sub_one_eq_mod]
theorem xor_bits (s : Nat) (hs : s < 32768) : bits BinOp.xor IntKind.i64 (s : Int) 17817 = ((Nat.xor s 17817 : Nat) : Int) := by
 have hx : s ^^^ 17817 < 32768 := Nat.xor_lt_two_pow (n := 15) hs (by decide)
 show IntKind.i64.wrap ((BitVec.ofInt 64 (s : Int) ^^^ BitVec.ofInt 64 (17817 : Int)).toNat : Int) = _
 rw [BitVec.toNat_xor, ofInt_u64 s (by omega), show (17817 : Int) = ((17817 : Nat) : Int) from rfl, ofInt_u64 17817 (by decide)]
 exact IntWalk.i64_in _ (by omega)
theorem cstep_calls (s : Nat) (x : Int) (hs : s < 32768) (hx : x = 0 ∨ x = 1) (w : World) :
   Calls Tryz.prog 166 #[.int .i64 s, .int .i64 x] w fun e w' => e = .returned (.int .i64 (Pl.cstep s x : Nat)) /\ w = w' := by
 obtain ⟨h1, h2⟩ := step_bits s hs
 have h3 := xor_bits (s * 2 % 32768) (Nat.mod_lt _ (by decide))
 obtain ⟨y, hy⟩ : ∃ y : Int, y = ((s * 2 % 32768 : Nat) : Int) := ⟨_, rfl⟩
 obtain ⟨z, hz⟩ : ∃ z : Int, z = ((Nat.xor (s * 2 % 32768) 17817 : Nat) : Int) := ⟨_, rfl⟩
 obtain ⟨u, hu⟩ : ∃ u : Bool, u = Nat.ble 16384 s := ⟨_, rfl⟩
 have HP := Ad (show ((Pl.cstep s x : Nat) : Int) = if (u != (x == 1)) = true then z else y by rw [hy, hz, hu]; unfold Pl.cstep; split <;> rfl)
 rw [<- hy, <- hz] at h3
 rw [<- hy] at h2
 rw [<- hu] at h1
 clear hy hz hu
 go_enter Tryz.func166, Tryz.ntmps166
 go_wp2
 all_goals
   go_ret
   rename_i hc
   refine ⟨ret_int ?_, rfl⟩
   rw [HP.out]
   revert hc
   cases u <;> cases (x == 1) <;> simp
def Bx (W : World) (g : Nat) (t : TypeId) (v : Value) : Prop := W.heap[g]? = some (.cells #[v] t (0, 0))
theorem Bx.cell {W : World} {g : Nat} {t : TypeId} {v : Value} (h : Bx W g t v) : W.cell? ⟨g, 0, none⟩ = some v := cell_of_one h
theorem Bx.free {W : World} {g : Nat} {t : TypeId} {v : Value} (h : Bx W g t v) : W.frozen? ⟨g, 0, none⟩ = false := free_of_one h
theorem Bx.lt {W : World} {g : Nat} {t : TypeId} {v : Value} (h : Bx W g t v) : g < W.heap.size := blk_lt h
theorem Bx.set {W : World} {g : Nat} {t : TypeId} {v : Value} (h : Bx W g t v) (u : Value) : Bx (W.setCell ⟨g, 0, none⟩ u) g t u := one_setCell h
theorem Bx.keep {W W' : World} {g : Nat} {t : TypeId} {v : Value} (h : Bx W g t v) {F : List Nat} (hc : Ch F W W') (hF : g ∉ F) : Bx W' g t v := hc.blk h hF
theorem Bx.new (W : World) (v : Value) (t : TypeId) : Bx (W.alloc (.cells #[v] t)) W.heap.size t v := heap_alloc_new W _
theorem con_calls (g s : Nat) (x : Int) (hs : s < 32768) (hx : x = 0 ∨ x = 1) (w : World) (hb : Bx w g 3 (.int .i64 s)) :
   Calls Tryz.prog 165 #[.int .i64 x, .pointer (some ⟨g, 0, none⟩)] w fun e w' => e = .returned (.tuple #[]) /\ Bx w' g 3 (.int .i64 (Pl.cstep s x : Nat)) /\ Ch [g] w w' := by
 have hc := hb.cell
 have hf := hb.free
 have HB := Ad hb
 have HX := Ad hx
 clear hb hx
 go_enter Tryz.func165, Tryz.ntmps165
 go_wp2_with fail
 refine (cstep_calls s x hs HX.out _).mono ?_
 rintro e w' ⟨rfl, rfl⟩
 go_wp2
 go_end0
 exact ⟨rfl, HB.out.set _, (Ch.refl _ _).set _ _ (.inl (by simp))⟩
theorem csum_calls (A : Option Addr) (c n : Nat) (l : List Int) (hn : l.length = n) (w : World) (h : Ls w A c l) :
   Calls Tryz.prog 150 #[.slice A n c] w fun e w' => e = .returned (.tuple #[.int .i64 (Pl.crc l 0 : Nat), .int .i64 0]) /\ Ch [] w w' := by
 have hmf : ∀ (fn : Fn) (first cap : Array Value) (w : World), (Instr.makeFunc fn first cap).run Tryz.prog w = .ok (.func fn first cap) w := fun _ _ _ _ => rfl
 have hlen := h.rds.len63 hn
 subst hn
 have H := Ad h
 clear h
 go_enter Tryz.func150, Tryz.ntmps150
 go_wp2_with fail
 refine (check_calls A c _ l rfl _ H.out).mono ?_
 rintro e w' ⟨rfl, rfl⟩
 go_wp2
 go_loopw [13] (fun v wr => ∃ k : Nat, k <= l.length /\ v = .int .i64 k /\ Aside0 (Bx wr w.heap.size 3 (.int .i64 (Pl.crc (l.take k) 0 : Nat))) /\ Aside0 (Ch [] w wr)) (fun v _ => l.length - (intOf v).toNat)
 case atStart => exact ⟨0, by omega, rfl, ⟨Bx.new _ _ _⟩, ⟨(Ch.refl _ _).alloc _⟩⟩
 case round =>
   obtain ⟨k, hk, rfl, HB, HC⟩ := hrel
   by_cases hlt : k < l.length
   · obtain ⟨g, o, rfl, hc, hx⟩ := (H.out.on HC.out).at_ k hlt
     have HX := Ad hx
     clear hx
     go_wp2_with fail
     refine (con_calls _ (Pl.crc (l.take k) 0) (rd l k) (Pl.crc_lt _ _ (by decide)) HX.out _ HB.out).mono ?_
     rintro e w' ⟨rfl, hb2, hg2⟩
     have HB2 := Ad hb2
     have HC2 := Ad (HC.out.trans hg2 (by simp))
     clear hb2 hg2
     have HT := Ad (take_rd l k hlt)
     go_wp2
     go_roundw
     case rel => exact ⟨k + 1, by omega, by go_num, ⟨by rw [HT.out, Pl.crc_snoc]; exact HB2.out⟩, HC2⟩
     case measure => simp [intOf]; omega
   · have hc := HB.out.cell
     have HT := Ad (show l.take k = l from List.take_of_length_le (by omega))
     go_wp2
     go_ret2
     exact ⟨by rw [HT.out]; rfl, HC.out⟩
theorem may_calls (s : Int) (h0 : 0 <= s) (h1 : s <= 32767) (w : World) :
   Calls Tryz.prog 167 #[.int .i64 s] w fun e w' => e = .returned (.bool true) /\ w = w' := by
 go_enter Tryz.func167, Tryz.ntmps167
 go_wp2
 go_ret
 simp [h0, h1]
theorem of_15 (s : Nat) (hs : s < 32768) (w : World) :
   Calls Tryz.prog 168 #[.int .u64 s, .int .i64 15] w fun e w' => ∃ A c q, e = .returned (.tuple #[.slice A 15 c, .int .i64 0]) /\ Ow Iv w' w.heap.size q A c (Pl.ofBits s 15) /\ Ch [] w w' := of_calls s 15 (by omega) (by omega) w
theorem cbits_calls (s : Nat) (hs : s < 32768) (w : World) :
   Calls Tryz.prog 151 #[.int .i64 s] w fun e w' => ∃ A c q, e = .returned (.tuple #[.slice A 15 c, .int .i64 0]) /\ Ow Iv w' w.heap.size q A c (Pl.ofBits s 15) /\ Ch [] w w' := by
 have hs' : (s : Int) <= 32767 := by omega
 go_enter Tryz.func151, Tryz.ntmps151
 go_wp2_with fail
 refine (may_calls _ (by omega) hs' _).mono ?_
 rintro e w' ⟨rfl, rfl⟩
 go_wp2_with fail
 refine (of_15 s hs _).mono ?_
 rintro e w' ⟨A, c, q, rfl, h1, h2⟩
 go_wp2_with fail
 go_ret2
 exact ⟨A, c, q, rfl, h1, h2⟩
theorem take_eq_succ {l m : List Int} {k : Nat} (h : l.take k = m.take k) (h1 : k < l.length) (h2 : k < m.length) : l.take (k + 1) = m.take (k + 1) ↔ rd l k = rd m k := by
 rw [take_rd l k h1, take_rd m k h2, h]
 simp
theorem equal_calls (A : Option Addr) (c n : Nat) (l : List Int) (hn : l.length = n) (B : Option Addr) (d j : Nat) (m : List Int) (hj : m.length = j) (w : World) (h : Ls w A c l) (h' : Ls w B d m) :
   Calls Tryz.prog 152 #[.slice A n c, .slice B j d] w fun e w' => e = .returned (.bool (decide (l = m))) /\ Ch [] w w' := by
 have hlen := h.rds.len63 hn
 subst hn hj
 have H := Ad h
 have H' := Ad h'
 clear h h'
 by_cases hll : l.length = m.length
 · have t1 : ((l.length : Int) != (m.length : Int)) = false := by simp [hll]
   have HL := Ad hll
   clear hll
   go_enter Tryz.func152, Tryz.ntmps152
   go_wp2
   go_loopw [13] (fun v wr => ∃ k : Nat, k <= l.length /\ v = .int .i64 k /\ Aside0 (l.take k = m.take k) /\ Drawn0 w wr) (fun v _ => l.length - (intOf v).toNat)
   case atStart => exact ⟨0, by omega, rfl, ⟨by simp⟩, Drawn0.refl _⟩
   case round =>
     clear t1
     obtain ⟨k, hk, rfl, HK, ⟨q, rfl⟩⟩ := hrel
     by_cases hlt : k < l.length
     · have hlt' : k < m.length := by have := HL.out; omega
       obtain ⟨g, o, rfl, hc, _⟩ := H.out.at_ k hlt
       obtain ⟨g', o', rfl, hc', _⟩ := H'.out.at_ k hlt'
       have i0 : (0 : Int) <= (k : Int) := by omega
       have i1 : (k : Int) < (l.length : Int) := by omega
       have i2 : (k : Int) < (m.length : Int) := by omega
       by_cases he : rd l k = rd m k
       · have hb : (rd l k != rd m k) = false := by simp [he]
         have HK1 := Ad ((take_eq_succ HK.out hlt hlt').2 he)
         clear he HK
         go_wp2
         go_quiet (fail)
         go_wp2
         go_roundw
         case rel => exact ⟨k + 1, by omega, by go_num, HK1, ⟨⟨_, rfl⟩⟩⟩
         case measure => simp [intOf]; omega
       · have hb : (rd l k != rd m k) = true := by simp [he]
         have HK1 := Ad (fun e => he ((take_eq_succ HK.out hlt hlt').1 e))
         clear he HK
         go_wp2
         go_quiet (fail)
         go_wp2
         go_ret
         refine ⟨?_, ((Ch.refl _ _).drewN _).drewN _⟩
         have : l ≠ m := fun e => HK1.out (by rw [e])
         simp [this]
     · go_wp2
       go_ret
       refine ⟨?_, (Ch.refl _ _).drewN _⟩
       have : l = m := by
         have := HK.out
         rwa [List.take_of_length_le (by omega), List.take_of_length_le (by have := HL.out; omega)] at this
       simp [this]
 · have t1 : ((l.length : Int) != (m.length : Int)) = true := by simp; omega
   have HL := Ad hll
   clear hll
   go_enter Tryz.func152, Tryz.ntmps152
   go_wp2
   go_ret
   refine ⟨?_, Ch.refl _ _⟩
   have : l ≠ m := fun e => HL.out (by rw [e])
   simp [this]
theorem Ls.take {w : World} {A : Option Addr} {c : Nat} {l : List Int} (h : Ls w A c l) (n : Nat) : Ls w A c (l.take n) := ⟨h.rds.take n, h.lv.take n⟩
theorem Ow.ls {w : World} {b : Nat} {q : Option Nat} {A : Option Addr} {c : Nat} {l : List Int} (h : Ow Iv w b q A c l) (hl : Lvs l) : Ls w A c l := ⟨h.rd, hl⟩
theorem right_calls (A : Option Addr) (c n : Nat) (l : List Int) (hn : l.length = n) (w : World) (h : Ls w A c l) :
   Calls Tryz.prog 135 #[.slice A n c] w fun e w' => e = .returned (.bool (Pl.right l)) /\ Ch [] w w' := by
 have hlen := h.rds.len63 hn
 have hcap := h.rds.cap
 have H := Ad h
 have HN := Ad hn
 clear h
 by_cases h15 : 15 <= n
 · obtain ⟨m, hm⟩ : ∃ m, n = m + 15 := ⟨n - 15, by omega⟩
   have HR := Ad (show Pl.right l = decide (l.drop m = Pl.ofBits (Pl.crc (l.take m) 0) 15) by unfold Pl.right; rw [if_pos (by omega), show l.length - 15 = m by omega])
   have cut1 := cut_take Iv 57 rfl A c m n (by omega) (by omega)
   obtain ⟨A2, cut2, rd2, _⟩ := cut_drop Iv 57 rfl A c m n (by omega) (by omega)
   have R2 := Ad rd2
   clear rd2 hn
   have e1 : (n : Int) - 15 = m := by omega
   have i1 : (15 : Int) <= n := by omega
   have i2 : (m : Int) <= n := by omega
   have HM := Ad hm
   clear hm h15
   go_enter Tryz.func135, Tryz.ntmps135
   go_wp2_with fail
   refine (check_calls A c _ l HN.out _ H.out).mono ?_
   rintro e w' ⟨rfl, rfl⟩
   go_wp2_with fail
   refine (csum_calls A c m (l.take m) (by simp; have := HN.out; have := HM.out; omega) _ (H.out.take m)).mono ?_
   rintro e w' ⟨rfl, hc1⟩
   have C1 := Ad hc1
   clear hc1
   go_wp2_with fail
   refine (cbits_calls (Pl.crc (l.take m) 0) (Pl.crc_lt _ _ (by decide)) _).mono ?_
   rintro e w2 ⟨A3, c3, q3, rfl, h3, hc3⟩
   have C2 := Ad (C1.out.then hc3)
   have O3 := Ad h3
   clear h3 hc3 C1
   go_wp2_with fail
   refine (equal_calls A2 _ _ (l.drop m) (by simp; have := HN.out; have := HM.out; omega) A3 c3 15 _ (Pl.ofBits_length _ _) _ ⟨(R2.out _ l HN.out H.out.rds).on C2.out, H.out.lv.drop m⟩ (O3.out.ls (Pl.ofBits_lv _ _))).mono ?_
   rintro e w3 ⟨rfl, hc4⟩
   have C3 := Ad (C2.out.then hc4)
   clear hc4
   go_wp2_with fail
   go_ret
   exact ⟨by rw [HR.out]; rfl, C3.out⟩
 · have HR := Ad (show Pl.right l = false by unfold Pl.right; rw [if_neg (by omega)])
   have : (n : Int) < 15 := by omega
   clear hn
   go_enter Tryz.func135, Tryz.ntmps135
   go_wp2_with fail
   go_ret
   exact ⟨by rw [HR.out]; rfl, Ch.refl _ _⟩
def hv (h : Pl.Hd) : Value := .agg #[.bool h.ext, .bool h.rtr, .int .i64 h.ctrl, .int .i64 h.data, .int .i64 h.size]
theorem gi_rd (l : List Int) (k : Nat) : rd l k = Pl.gi l k := rfl
theorem Ls.mid {w : World} {A : Option Addr} {c : Nat} {l : List Int} (h : Ls w A c l) {A2 : Option Addr} {c2 a b : Nat} (hr : Rd Iv w A2 c2 ((l.take b).drop a)) : Ls w A2 c2 ((l.take b).drop a) := ⟨hr, (h.lv.take b).drop a⟩
theorem read_short (A : Option Addr) (c n : Nat) (l : List Int) (hn : l.length = n) (h13 : n <= 13) (w : World) (h : Ls w A c l) :
   Calls Tryz.prog 113 #[.slice A n c] w fun e w' => e = .returned (.tuple #[hv (Pl.read l).1, .bool (Pl.read l).2]) /\ Ch [] w w' := by
 have HR := Ad (show Pl.read l = (⟨false, false, 0, 0, 0⟩, false) by unfold Pl.read; rw [if_pos (by omega)])
 clear hn
 go_enter Tryz.func113, Tryz.ntmps113
 go_wp2_with fail
 refine bodyPost_ret (v := .tuple #[.agg #[.bool false, .bool false, .int .i64 0, .int .i64 0, .int .i64 0], .bool false]) (by simp [results, Tryz.f113, go_sem]) rfl ⟨?_, ?_⟩
 · rw [HR.out]; rfl
 · exact (Ch.refl _ _).alloc _
theorem read_ext (A : Option Addr) (c n : Nat) (l : List Int) (hn : l.length = n) (h13 : 39 <= n) (hx : Pl.gi l 13 = 1) (w : World) (h : Ls w A c l) :
   Calls Tryz.prog 113 #[.slice A n c] w fun e w' => e = .returned (.tuple #[hv (Pl.read l).1, .bool (Pl.read l).2]) /\ Ch [] w w' := by
 have hlen := h.rds.len63 hn
 have hcap := h.rds.cap
 have H := Ad h
 have HN := Ad hn
 have HR := Ad (show Pl.read l = (⟨true, Pl.gi l 32 == 1, 33, 39, Pl.mn (Pl.val ((l.take 39).drop 35) 0) 8⟩, true) by unfold Pl.read; rw [if_neg (by omega), if_pos hx, if_neg (by omega)])
 obtain ⟨g, o, rfl, hc, -⟩ := h.at_ 13 (by omega)
 obtain ⟨g', o', e', hc', -⟩ := h.at_ 32 (by omega)
 obtain ⟨rfl, rfl, _⟩ : g = g' /\ o = o' /\ True := by simpa using e'
 obtain ⟨A2, cut1, rd2, _⟩ := cut_mid Iv 57 rfl (some ⟨g, o, none⟩) c 35 39 n (by omega) (by omega) (by omega)
 have cut2 : ∀ W : World, (Instr.slice 57 (.slice (some ⟨g, o, none⟩) n c) (some (.int .i64 35)) (some (.int .i64 39)) none).run Tryz.prog W = .ok (.slice A2 4 (c - 35)) W := cut1
 have R2 := Ad rd2
 have V := Ad (show ((l.take 39).drop 35).length = 4 by simp; omega)
 have VL := Ad (Pl.val_lt ((l.take 39).drop 35) 0 0 ((h.lv.take 39).drop 35) (by decide))
 clear cut1 rd2 e'
 rw [gi_rd] at hc'
 generalize Pl.gi l 32 = y at *
 rw [gi_rd, hx] at hc
 have hg : g < w.heap.size := World.block_lt_of_cell? w _ hc
 have i1 : (13 : Int) < n := by omega
 have i2 : (32 : Int) < n := by omega
 have i3 : (39 : Int) <= n := by omega
 clear hn h hx
 go_enter Tryz.func113, Tryz.ntmps113
 go_wp2_with fail
 refine (value_calls A2 _ 4 _ V.out (by decide) _ ((H.out.on (((Ch.refl _ _).alloc _).alloc _)).mid (R2.out _ l HN.out ((H.out.on (((Ch.refl _ _).alloc _).alloc _)).rds)))).mono ?_
 rintro e w' ⟨rfl, rfl⟩
 have VL2 : Pl.val ((l.take 39).drop 35) 0 < 16 := by have := VL.out; rw [V.out] at this; simpa using this
 generalize Pl.val ((l.take 39).drop 35) 0 = v at *
 by_cases h8 : v <= 8
 · have HM := Ad (show Pl.mn v 8 = v by unfold Pl.mn; rw [if_pos h8])
   have h8' : (v : Int) <= 8 := by omega
   go_wp2_with fail
   refine bodyPost_ret (v := .tuple #[.agg #[.bool true, .bool (y == 1), .int .i64 33, .int .i64 39, .int .i64 v], .bool true]) (by simp [results, Tryz.f113, go_sem]) rfl ⟨?_, ?_⟩
   · rw [HR.out, HM.out]; rfl
   · exact ((Ch.refl _ _).alloc _).alloc _
 · have HM := Ad (show Pl.mn v 8 = 8 by unfold Pl.mn; rw [if_neg h8])
   have h8' : ¬ (v : Int) <= 8 := by omega
   go_wp2_with fail
   refine bodyPost_ret (v := .tuple #[.agg #[.bool true, .bool (y == 1), .int .i64 33, .int .i64 39, .int .i64 8], .bool true]) (by simp [results, Tryz.f113, go_sem]) rfl ⟨?_, ?_⟩
   · rw [HR.out, HM.out]; rfl
   · exact ((Ch.refl _ _).alloc _).alloc _
theorem read_ext0 (A : Option Addr) (c n : Nat) (l : List Int) (hn : l.length = n) (h13 : 14 <= n) (h2 : n < 39) (hx : Pl.gi l 13 = 1) (w : World) (h : Ls w A c l) :
   Calls Tryz.prog 113 #[.slice A n c] w fun e w' => e = .returned (.tuple #[hv (Pl.read l).1, .bool (Pl.read l).2]) /\ Ch [] w w' := by
 have hlen := h.rds.len63 hn
 have hcap := h.rds.cap
 have H := Ad h
 have HN := Ad hn
 have HR := Ad (show Pl.read l = (⟨true, false, 33, 39, 0⟩, false) by unfold Pl.read; rw [if_neg (by omega), if_pos hx, if_pos (by omega)])
 obtain ⟨g, o, rfl, hc, -⟩ := h.at_ 13 (by omega)
 rw [gi_rd, hx] at hc
 have hg : g < w.heap.size := World.block_lt_of_cell? w _ hc
 have i1 : (13 : Int) < n := by omega
 have i2 : (n : Int) < 39 := by omega
 clear hn h hx
 go_enter Tryz.func113, Tryz.ntmps113
 go_wp2_with fail
 refine bodyPost_ret (v := .tuple #[.agg #[.bool true, .bool false, .int .i64 33, .int .i64 39, .int .i64 0], .bool false]) (by simp [results, Tryz.f113, go_sem]) rfl ⟨?_, ?_⟩
 · rw [HR.out]; rfl
 · exact ((Ch.refl _ _).alloc _).alloc _
theorem read_std (A : Option Addr) (c n : Nat) (l : List Int) (hn : l.length = n) (h13 : 19 <= n) (hx : Pl.gi l 13 = 0) (w : World) (h : Ls w A c l) :
   Calls Tryz.prog 113 #[.slice A n c] w fun e w' => e = .returned (.tuple #[hv (Pl.read l).1, .bool (Pl.read l).2]) /\ Ch [] w w' := by
 have hlen := h.rds.len63 hn
 have hcap := h.rds.cap
 have H := Ad h
 have HN := Ad hn
 have HR := Ad (show Pl.read l = (⟨false, Pl.gi l 12 == 1, 14, 19, Pl.mn (Pl.val ((l.take 19).drop 15) 0) 8⟩, true) by unfold Pl.read; rw [if_neg (by omega), if_neg (by rw [hx]; decide), if_neg (by omega)])
 obtain ⟨g, o, rfl, hc, -⟩ := h.at_ 13 (by omega)
 obtain ⟨g', o', e', hc', -⟩ := h.at_ 12 (by omega)
 obtain ⟨rfl, rfl, _⟩ : g = g' /\ o = o' /\ True := by simpa using e'
 obtain ⟨A2, cut1, rd2, _⟩ := cut_mid Iv 57 rfl (some ⟨g, o, none⟩) c 15 19 n (by omega) (by omega) (by omega)
 have cut2 : ∀ W : World, (Instr.slice 57 (.slice (some ⟨g, o, none⟩) n c) (some (.int .i64 15)) (some (.int .i64 19)) none).run Tryz.prog W = .ok (.slice A2 4 (c - 15)) W := cut1
 have R2 := Ad rd2
 have V := Ad (show ((l.take 19).drop 15).length = 4 by simp; omega)
 have VL := Ad (Pl.val_lt ((l.take 19).drop 15) 0 0 ((h.lv.take 19).drop 15) (by decide))
 clear cut1 rd2 e'
 rw [gi_rd] at hc'
 generalize Pl.gi l 12 = y at *
 rw [gi_rd, hx] at hc
 have hg : g < w.heap.size := World.block_lt_of_cell? w _ hc
 have i1 : (13 : Int) < n := by omega
 have i2 : (12 : Int) < n := by omega
 have i3 : (19 : Int) <= n := by omega
 clear hn h hx
 go_enter Tryz.func113, Tryz.ntmps113
 go_wp2_with fail
 refine (value_calls A2 _ 4 _ V.out (by decide) _ ((H.out.on (((Ch.refl _ _).alloc _).alloc _)).mid (R2.out _ l HN.out ((H.out.on (((Ch.refl _ _).alloc _).alloc _)).rds)))).mono ?_
 rintro e w' ⟨rfl, rfl⟩
 have VL2 : Pl.val ((l.take 19).drop 15) 0 < 16 := by have := VL.out; rw [V.out] at this; simpa using this
 generalize Pl.val ((l.take 19).drop 15) 0 = v at *
 by_cases h8 : v <= 8
 · have HM := Ad (show Pl.mn v 8 = v by unfold Pl.mn; rw [if_pos h8])
   have h8' : (v : Int) <= 8 := by omega
   go_wp2_with fail
   refine bodyPost_ret (v := .tuple #[.agg #[.bool false, .bool (y == 1), .int .i64 14, .int .i64 19, .int .i64 v], .bool true]) (by simp [results, Tryz.f113, go_sem]) rfl ⟨?_, ?_⟩
   · rw [HR.out, HM.out]; rfl
   · exact ((Ch.refl _ _).alloc _).alloc _
 · have HM := Ad (show Pl.mn v 8 = 8 by unfold Pl.mn; rw [if_neg h8])
   have h8' : ¬ (v : Int) <= 8 := by omega
   go_wp2_with fail
   refine bodyPost_ret (v := .tuple #[.agg #[.bool false, .bool (y == 1), .int .i64 14, .int .i64 19, .int .i64 8], .bool true]) (by simp [results, Tryz.f113, go_sem]) rfl ⟨?_, ?_⟩
   · rw [HR.out, HM.out]; rfl
   · exact ((Ch.refl _ _).alloc _).alloc _
theorem read_std0 (A : Option Addr) (c n : Nat) (l : List Int) (hn : l.length = n) (h13 : 14 <= n) (h2 : n < 19) (hx : Pl.gi l 13 = 0) (w : World) (h : Ls w A c l) :
   Calls Tryz.prog 113 #[.slice A n c] w fun e w' => e = .returned (.tuple #[hv (Pl.read l).1, .bool (Pl.read l).2]) /\ Ch [] w w' := by
 have hlen := h.rds.len63 hn
 have hcap := h.rds.cap
 have H := Ad h
 have HN := Ad hn
 have HR := Ad (show Pl.read l = (⟨false, false, 14, 19, 0⟩, false) by unfold Pl.read; rw [if_neg (by omega), if_neg (by rw [hx]; decide), if_pos (by omega)])
 obtain ⟨g, o, rfl, hc, -⟩ := h.at_ 13 (by omega)
 rw [gi_rd, hx] at hc
 have hg : g < w.heap.size := World.block_lt_of_cell? w _ hc
 have i1 : (13 : Int) < n := by omega
 have i2 : (n : Int) < 19 := by omega
 clear hn h hx
 go_enter Tryz.func113, Tryz.ntmps113
 go_wp2_with fail
 refine bodyPost_ret (v := .tuple #[.agg #[.bool false, .bool false, .int .i64 14, .int .i64 19, .int .i64 0], .bool false]) (by simp [results, Tryz.f113, go_sem]) rfl ⟨?_, ?_⟩
 · rw [HR.out]; rfl
 · exact ((Ch.refl _ _).alloc _).alloc _
theorem read_calls (A : Option Addr) (c n : Nat) (l : List Int) (hn : l.length = n) (w : World) (h : Ls w A c l) :
   Calls Tryz.prog 113 #[.slice A n c] w fun e w' => e = .returned (.tuple #[hv (Pl.read l).1, .bool (Pl.read l).2]) /\ Ch [] w w' := by
 by_cases h1 : n <= 13
 · exact read_short A c n l hn h1 w h
 · have hg : Pl.gi l 13 = 0 ∨ Pl.gi l 13 = 1 := h.lv _ (rd_mem (by omega))
   rcases hg with hx | hx
   · by_cases h2 : 19 <= n
     · exact read_std A c n l hn h2 hx w h
     · exact read_std0 A c n l hn (by omega) (by omega) hx w h
   · by_cases h2 : 39 <= n
     · exact read_ext A c n l hn h2 hx w h
     · exact read_ext0 A c n l hn (by omega) (by omega) hx w h
end Go.Proofs.YtjoehjclaonneaaGreat
