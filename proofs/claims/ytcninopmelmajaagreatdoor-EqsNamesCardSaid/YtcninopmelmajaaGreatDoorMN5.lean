/-
  Texts laid together (TySame2, TePair, ScBare, LexByte, LexKw, LexName, TyEach, TySize, TyMap, TyVars, TyVars2, TyCanon): laws and walks, with their conditions.
-/
import Derived.Lib.SmallJoins
import Derived.OneCell
import Derived.Maps.OwnOps
import Derived.Maps.Views
import Derived.Test.YtcninopmelmajaaGreatDoorShelfLex
import Derived.Test.YtcninopmelmajaaGreatDoorMN1
import Derived.Test.YtcninopmelmajaaGreatDoorMN4
set_option maxHeartbeats 8000000
set_option maxRecDepth 1000000
namespace Go.Proofs.YtcninopmelmajaaGreatDoor
open Go.Lib (hid)
section
open Go.RowKit
theorem eg_same : ∀ args w, (callFunc 87 args).run Tryz.prog w = .ok (.enter 87 args) w := enters_of Tryz.func87 (by kernel_rfl) rfl
def PSame (k n : Int) (ps : Fo) : Prop := ∀ (k' n' : Int) (ps' : Fo) (w : World) (o : Option Addr) (len cap : Nat) (o' : Option Addr) (len' cap' : Nat), Slc w o len ps -> Slc w o' len' ps' ->
 Calls Tryz.prog 87 #[tyv k n o len cap, tyv k' n' o' len' cap'] w fun e w' => e = .returned (.bool (sameT k n ps k' n' ps')) /\ Quiet0 w w'
theorem equalFunc_any (ps ps' : Fo) (ih : ∀ i k n qs, ps.get i = some (k, n, qs) -> PSame k n qs) (w : World) (o : Option Addr) (len cap : Nat) (o' : Option Addr) (len' cap' : Nat) (hs : Slc w o len ps) (hs' : Slc w o' len' ps') :
    Calls Tryz.prog 110 #[.slice o len cap, .slice o' len' cap', .func (.func 87) #[] #[]] w fun e w' => e = .returned (.bool (ps.same ps')) /\ Quiet0 w w' := by
 have HS := hid hs
 have HS' := hid hs'
 have IH := hid ih
 have HL := hid hs.1
 have HL' := hid hs'.1
 have hmx := hs.2.1
 unfold maxLen at hmx
 have eg := eg_same
 clear hs hs' ih
 obtain ⟨res, hres⟩ : ∃ res, res = ps.same ps' := ⟨_, rfl⟩
 have HRES := hid hres
 rw [<- hres]
 clear hres
 by_cases hlen : len = len'
 ·subst hlen
  have b3 : ((len : Int) != (len : Int)) = false := by simp
  go_enter Tryz.func110, Tryz.ntmps110
  go_wp2_with fail
  go_loopw [17] (fun t wr => ∃ (i : Nat), t = .int .i64 i /\ i <= len /\ res = (ps.drop i).same (ps'.drop i) /\ Quiet0 w wr) (fun t _ => len - (intOf t).toNat)
  case atStart => exact ⟨0, rfl, Nat.zero_le _, by rw [Fo.drop_zero, Fo.drop_zero]; exact HRES.out, Quiet0.refl _⟩
  case round =>
   obtain ⟨i, rfl, hi, hr, hq⟩ := hrel
   have HR := hid hr
   have HQ := hid hq
   clear hr hq
   by_cases hlt : i < len
   ·have hlt' : (i : Int) < len := by omega
    obtain ⟨b, off, k1, n1, qs1, o1, len1, cap1, rfl, hd1, hg1, e0, e1, e2, hs1⟩ := (HS.out.stay HQ.out).nth hlt
    obtain ⟨b2, off2, k2, n2, qs2, o2, len2, cap2, rfl, hd2, hg2, f0, f1, f2, hs2⟩ := (HS'.out.stay HQ.out).nth hlt
    have hbl := World.block_lt_of_cell? _ _ e0
    have hbl2 := World.block_lt_of_cell? _ _ f0
    have HC := hid (fun (W : World) (hq : Quiet0 wr W) => IH.out i k1 n1 qs1 hg1 k2 n2 qs2 W o1 len1 cap1 o2 len2 cap2 (hs1.stay hq) (hs2.stay hq))
    have HN : Hid (res = (sameT k1 n1 qs1 k2 n2 qs2 && (ps.drop (i + 1)).same (ps'.drop (i + 1)))) := by
     show _ = _
     rw [HR.out, hd1, hd2, same_cons]
    unfold tyv at HC
    clear hd1 hg1 hs1 hd2 hg2 hs2
    cases hb : sameT k1 n1 qs1 k2 n2 qs2
    all_goals
     have HBV := hid hb
     rw [hb] at HC
     clear hb
     go_wp2_with fail
     refine (HC.out _ ((Quiet0.alloc _ _).trans (Quiet0.alloc _ _))).mono ?_; rintro e w1 ⟨rfl, hq1⟩
     have HQ1 := hid (HQ.out.trans (((Quiet0.alloc _ _).trans (Quiet0.alloc _ _)).trans hq1))
     clear hq1
     go_wp2_with fail
    ·go_ret
     exact ⟨by rw [HN.out, HBV.out]; rfl, HQ1.out⟩
    ·go_roundw
     case rel => exact ⟨i + 1, by go_num, by omega, by rw [HN.out, HBV.out]; rfl, HQ1.out⟩
     case measure => simp [intOf]; omega
   ·have hlt' : ¬ (i : Int) < len := by omega
    have HY : Hid (res = true) := by
     show _ = _
     rw [HR.out, Fo.drop_end ps i (by have := HL.out; omega), Fo.drop_end ps' i (by have := HL'.out; omega)]; rfl
    go_wp2_with fail
    go_ret
    exact ⟨by rw [HY.out]; rfl, HQ.out⟩
 ·have HF : Hid (res = false) := by
    show _ = _
    rw [HRES.out]
    cases h : ps.same ps'
    ·rfl
    ·exact absurd (Fo.same_length _ _ h) (by have := HL.out; have := HL'.out; omega)
  have b3 : ((len : Int) != (len' : Int)) = true := by simp; omega
  go_enter Tryz.func110, Tryz.ntmps110
  go_wp2_with fail
  go_ret
  exact ⟨by rw [HF.out]; rfl, Quiet0.refl _⟩
theorem same_any (k n : Int) (ps : Fo) : PSame k n ps := by
 refine Fo.ind' (T := PSame) ?_ k n ps
 intro k n ps ih k' n' ps' w o len cap o' len' cap' hs hs'
 have HC := hid (fun (W : World) (hq : Quiet0 w W) => equalFunc_any ps ps' ih W o len cap o' len' cap' (hs.stay hq) (hs'.stay hq))
 unfold sameT
 clear hs hs' ih
 generalize ps.same ps' = r at *
 cases hk : (k == k')
 ·unfold tyv
  go_enter Tryz.func87, Tryz.ntmps87
  go_wp2_with fail
  go_ret
  exact ⟨rfl, (Quiet0.alloc _ _).trans (Quiet0.alloc _ _)⟩
 ·cases hn : (n == n')
  ·unfold tyv
   go_enter Tryz.func87, Tryz.ntmps87
   go_wp2_with fail
   go_ret
   exact ⟨rfl, (Quiet0.alloc _ _).trans (Quiet0.alloc _ _)⟩
  ·unfold tyv
   go_enter Tryz.func87, Tryz.ntmps87
   go_wp2_with fail
   refine (HC.out _ ((Quiet0.alloc _ _).trans (Quiet0.alloc _ _))).mono ?_; rintro e w1 ⟨rfl, hq1⟩
   go_wp2_with fail
   go_ret
   exact ⟨by simp, ((Quiet0.alloc _ _).trans (Quiet0.alloc _ _)).trans hq1⟩
end
section
open Go.RowKit
theorem box92 (w : World) (a : Nd) (o1 : Option Addr) (l1 c1 : Nat) (o2 : Option Addr) (l2 c2 : Nat) (b : Nd) (p1 : Option Addr) (m1 d1 : Nat) (p2 : Option Addr) (m2 d2 : Nat) (t : TypeId) (W : World) (hq : Quiet0 ((w.alloc (.cells (cells9 a o1 l1 c1 o2 l2 c2) t)).alloc (.cells (cells9 b p1 m1 d1 p2 m2 d2) t)) W) :
    Cells9 W w.heap.size 0 a o1 l1 c1 o2 l2 c2 /\ Cells9 W (w.heap.size + 1) 0 b p1 m1 d1 p2 m2 d2 := by
 refine ⟨box9 w a o1 l1 c1 o2 l2 c2 t W ((Quiet0.alloc _ _).trans hq), ?_⟩
 have h := box9 (w.alloc (.cells (cells9 a o1 l1 c1 o2 l2 c2) t)) b p1 m1 d1 p2 m2 d2 t W hq
 have e : (w.alloc (.cells (cells9 a o1 l1 c1 o2 l2 c2) t)).heap.size = w.heap.size + 1 := by simp
 rw [e] at h
 exact h
end
section
namespace Sc
def namedK (k : Int) : Bool := k == 1 || bindK k
def okF : To -> Prop
 | .nil => True
 | .cons h ps r => (h.k = 1 -> ps = .nil) /\ (namedK h.k = false -> h.nm = ByteArray.empty) /\ okF ps /\ okF r
def refAR : Int -> ByteArray -> Int -> ByteArray -> Nat -> List ByteArray -> List ByteArray -> To -> To -> Bool
 | _, _, _, _, _, _, _, .nil, .nil => true
 | bk, nm, bk', nm', i, x, y, .cons h ps r, .cons h' ps' r' =>
  ((h.k == h'.k) && (ps.length == ps'.length) && sameT h.tk h.tn h.tp h'.tk h'.tn h'.tp &&
   (if h.k = 1 then (ix (envOf bk nm i x) h.nm == ix (envOf bk' nm' i y) h'.nm) && (decide (0 <= ix (envOf bk nm i x) h.nm) || h.nm.toList == h'.nm.toList)
    else (h.n == h'.n) && refAR h.k h.nm h'.k h'.nm 0 (envOf bk nm i x) (envOf bk' nm' i y) ps ps')) && refAR bk nm bk' nm' (i + 1) x y r r'
 | _, _, _, _, _, _, _, _, _ => false
def refA1 (x y : List ByteArray) (h : Nd) (ps : To) (h' : Nd) (ps' : To) : Bool :=
 (h.k == h'.k) && (ps.length == ps'.length) && sameT h.tk h.tn h.tp h'.tk h'.tn h'.tp &&
     (if h.k = 1 then (ix x h.nm == ix y h'.nm) && (decide (0 <= ix x h.nm) || h.nm.toList == h'.nm.toList)
      else (h.n == h'.n) && refAR h.k h.nm h'.k h'.nm 0 x y ps ps')
theorem refAR_cons (bk : Int) (nm : ByteArray) (bk' : Int) (nm' : ByteArray) (i : Nat) (x y : List ByteArray) (h : Nd) (ps r : To) (h' : Nd) (ps' r' : To) :
    refAR bk nm bk' nm' i x y (.cons h ps r) (.cons h' ps' r') = (refA1 (envOf bk nm i x) (envOf bk' nm' i y) h ps h' ps' && refAR bk nm bk' nm' (i + 1) x y r r') := rfl
end Sc
end
section
namespace Lx
open Go.RowKit
theorem u8_beq (x : UInt8) (n : Nat) (hn : n < 256) : (x == UInt8.ofNat n) = decide (x.toNat = n) := by
 rw [Bool.eq_iff_iff, beq_iff_eq, decide_eq_true_eq]
 constructor
 ·intro h; rw [h]; simp; omega
 ·intro h; rw [<- h]; simp
theorem u8_lt (x : UInt8) : x.toNat < 256 := x.toNat_lt
theorem small_of (x : UInt8) : smallB x = (decide ((97 : Int) <= (x.toNat : Int)) && decide ((x.toNat : Int) <= 122)) := by
 unfold smallB; congr 1 <;> (rw [Bool.eq_iff_iff]; simp; omega)
theorem digit_of (x : UInt8) : digitB x = (decide ((48 : Int) <= (x.toNat : Int)) && decide ((x.toNat : Int) <= 57)) := by
 unfold digitB; congr 1 <;> (rw [Bool.eq_iff_iff]; simp; omega)
theorem blank_of (x : UInt8) : blankB x = (((x.toNat : Int) == 32) || ((x.toNat : Int) == 9) || ((x.toNat : Int) == 10) || ((x.toNat : Int) == 13)) := by
 unfold blankB
 rw [show (32 : UInt8) = UInt8.ofNat 32 from rfl, show (9 : UInt8) = UInt8.ofNat 9 from rfl, show (10 : UInt8) = UInt8.ofNat 10 from rfl, show (13 : UInt8) = UInt8.ofNat 13 from rfl]
 rw [u8_beq _ _ (by omega), u8_beq _ _ (by omega), u8_beq _ _ (by omega), u8_beq _ _ (by omega)]
 rw [Bool.eq_iff_iff]; simp; omega
theorem under_of (x : UInt8) : (x == 95) = ((x.toNat : Int) == 95) := by
 rw [show (95 : UInt8) = UInt8.ofNat 95 from rfl, u8_beq _ _ (by omega), Bool.eq_iff_iff]; simp; omega
theorem nolf_of (x : UInt8) : nolfB x = ((x.toNat : Int) != 10) := by
 unfold nolfB
 rw [show (10 : UInt8) = UInt8.ofNat 10 from rfl, u8_beq _ _ (by omega), Bool.eq_iff_iff]; simp; omega
def Tells (g : Nat) (p : UInt8 -> Bool) : Prop := ∀ (x : UInt8) (w : World), Calls Tryz.prog g #[.int .u8 (x.toNat : Int)] w fun e w' => e = .returned (.bool (p x)) /\ w = w'
theorem small_any : Tells 106 smallB := by
 intro x w
 have hb := u8_lt x
 by_cases h1 : (97 : Int) <= (x.toNat : Int)
 ·go_enter Tryz.func106, Tryz.ntmps106
  go_wp2
  go_ret
  exact ⟨by rw [small_of]; (first | (simp [h1]; done) | (simp [h1]; omega)), rfl⟩
 ·go_enter Tryz.func106, Tryz.ntmps106
  go_wp2
  go_ret
  exact ⟨by rw [small_of]; (first | (simp; done) | (simp; omega)), rfl⟩
theorem letter_any : Tells 75 smallB := by
 intro x w
 have hb := u8_lt x
 by_cases h1 : (97 : Int) <= (x.toNat : Int)
 ·go_enter Tryz.func75, Tryz.ntmps75
  go_wp2
  go_ret
  exact ⟨by rw [small_of]; (first | (simp [h1]; done) | (simp [h1]; omega)), rfl⟩
 ·go_enter Tryz.func75, Tryz.ntmps75
  go_wp2
  go_ret
  exact ⟨by rw [small_of]; (first | (simp; done) | (simp; omega)), rfl⟩
theorem digit_any : Tells 123 digitB := by
 intro x w
 have hb := u8_lt x
 by_cases h1 : (48 : Int) <= (x.toNat : Int)
 ·go_enter Tryz.func123, Tryz.ntmps123
  go_wp2
  go_ret
  exact ⟨by rw [digit_of]; (first | (simp [h1]; done) | (simp [h1]; omega)), rfl⟩
 ·go_enter Tryz.func123, Tryz.ntmps123
  go_wp2
  go_ret
  exact ⟨by rw [digit_of]; (first | (simp; done) | (simp; omega)), rfl⟩
theorem refDigit_any : Tells 78 digitB := by
 intro x w
 have hb := u8_lt x
 by_cases h1 : (48 : Int) <= (x.toNat : Int)
 ·go_enter Tryz.func78, Tryz.ntmps78
  go_wp2
  go_ret
  exact ⟨by rw [digit_of]; (first | (simp [h1]; done) | (simp [h1]; omega)), rfl⟩
 ·go_enter Tryz.func78, Tryz.ntmps78
  go_wp2
  go_ret
  exact ⟨by rw [digit_of]; (first | (simp; done) | (simp; omega)), rfl⟩
theorem inner_any : Tells 108 innerB := by
 intro x w
 have hb := u8_lt x
 cases h1 : smallB x <;> cases h2 : digitB x
 all_goals
  have H1 := hid h1
  have H2 := hid h2
  clear h1 h2
  go_enter Tryz.func108, Tryz.ntmps108
  go_wp2_with fail
  refine (small_any x _).mono ?_; rintro e w' ⟨rfl, rfl⟩
  rw [H1.out]
  go_wp2_with fail
  try (refine (digit_any x _).mono ?_; rintro e w' ⟨rfl, rfl⟩; rw [H2.out]; go_wp2_with fail)
  go_ret
  exact ⟨by unfold innerB; rw [H1.out, H2.out, under_of]; simp, rfl⟩
theorem refInner_any : Tells 76 innerB := by
 intro x w
 have hb := u8_lt x
 cases h1 : smallB x <;> cases h2 : digitB x
 all_goals
  have H1 := hid h1
  have H2 := hid h2
  clear h1 h2
  go_enter Tryz.func76, Tryz.ntmps76
  go_wp2_with fail
  refine (letter_any x _).mono ?_; rintro e w' ⟨rfl, rfl⟩
  rw [H1.out]
  go_wp2_with fail
  try (refine (refDigit_any x _).mono ?_; rintro e w' ⟨rfl, rfl⟩; rw [H2.out]; go_wp2_with fail)
  go_ret
  exact ⟨by unfold innerB; rw [H1.out, H2.out, under_of]; simp, rfl⟩
theorem drop_byte (s : ByteArray) (k : Nat) (h : k < s.size) : s.data.toList.drop k = s[k] :: s.data.toList.drop (k + 1) := by
 rw [List.drop_eq_getElem_cons (by simpa using h)]; rfl
theorem drop_end (s : ByteArray) (k : Nat) (h : s.size <= k) : s.data.toList.drop k = [] := by
 rw [List.drop_eq_nil_iff]; simpa using h
theorem runL_cons (p : UInt8 -> Bool) (c : UInt8) (r : List UInt8) : runL p (c :: r) = if p c then runL p r + 1 else 0 := rfl
theorem bytes_length (s : ByteArray) : s.data.toList.length = s.size := by simp
theorem run_any (g : Nat) (p : UInt8 -> Bool) (eg : ∀ args w, (callFunc g args).run Tryz.prog w = .ok (.enter g args) w) (hp : Tells g p) (s : ByteArray) (k : Nat) (ki : Int) (ek : ki = k) (hk : k <= s.size) (hs : s.size <= maxLen) (w : World) :
    Calls Tryz.prog 107 #[.string s, .int .i64 ki, .func (.func g) #[] #[]] w fun e w' => e = .returned (.int .i64 (runL p (s.data.toList.drop k) : Nat)) /\ w = w' := by
 subst ek
 unfold maxLen at hs
 have HP := hid hp
 clear hp
 go_enter Tryz.func107, Tryz.ntmps107
 go_wp2
 go_loop [7] (fun t => ∃ n : Nat, t = .int .i64 n /\ k + n <= s.size /\ runL p (s.data.toList.drop k) = n + runL p (s.data.toList.drop (k + n))) (fun t => s.size - k - (intOf t).toNat)
 case atStart => exact ⟨0, rfl, by omega, by simp⟩
 case round =>
  obtain ⟨n, rfl, hn, he⟩ := hrel
  have HE := hid he
  clear he
  by_cases hlt : k + n < s.size
  ·have hd := hid (drop_byte s (k + n) hlt)
   have hlt' : (k : Int) + n < s.size := by omega
   cases hx : p s[k + n]
   all_goals
    have HX := hid hx
    clear hx
    go_wp2_with fail
    have HPX := HP.out s[k + n] w
    rw [HX.out] at HPX
    refine HPX.mono ?_; rintro e w' ⟨rfl, rfl⟩
    clear HPX
    go_wp2
   ·go_ret
    refine ⟨?_, rfl⟩
    rw [HE.out, hd.out, runL_cons, HX.out]; rfl
   ·go_round
    case rel =>
     refine ⟨n + 1, by go_num, by omega, ?_⟩
     rw [HE.out, hd.out, runL_cons, HX.out]
     simp only [if_true]
     rw [show k + (n + 1) = k + n + 1 from by omega]; omega
    case measure => simp [intOf]; omega
  ·have hd := hid (drop_end s (k + n) (by omega))
   have hlt' : ¬ (k : Int) + n < s.size := by omega
   go_wp2
   go_ret
   refine ⟨?_, rfl⟩
   rw [HE.out, hd.out]; rfl
end Lx
end
section
namespace Lx
open Go.RowKit
abbrev Spaces (w : World) : Prop := Lib.TabIs Tryz.prog w "strings.asciiSpace" .u8 Lib.asciiSpaceTab
theorem Spaces.stay {w w' : World} (h : Spaces w) (hq : Quiet0 w w') : Spaces w' := by
 have hg : Tryz.prog.globalNamed "strings.asciiSpace" = some 0 := by kernel_rfl
 exact Joins.tab_stays hg h hq.below (Nat.le_refl _)
def toBA (l : List UInt8) : ByteArray := ⟨l.toArray⟩
theorem toBA_toList (l : List UInt8) : (toBA l).data.toList = l := rfl
theorem toBA_of (s : ByteArray) : toBA s.data.toList = s := by cases s; rfl
theorem ba_ext {a b : ByteArray} (h : a.data.toList = b.data.toList) : a = b := by rw [<- toBA_of a, <- toBA_of b, h]
def wordsText : ByteArray := ⟨#[32, 102, 117, 110, 32, 108, 101, 116, 32, 114, 101, 99, 32, 105, 110, 32, 105, 102, 32, 116, 104, 101, 110, 32, 101, 108, 115, 101, 32, 116, 114, 117, 101, 32, 102, 97, 108, 115, 101, 32, 105, 110, 116, 32, 98, 111, 111, 108, 32]⟩
theorem fields_words : Lib.fields wordsText.data.toList = kws := by decide +kernel
theorem ascii_words : ∀ (j : Nat) (b : UInt8), wordsText.data.toList[j]? = some b -> b.toNat < 128 := by
 have h : ∀ b ∈ wordsText.data.toList, b.toNat < 128 := by decide +kernel
 intro j b hb
 exact h b (List.mem_of_getElem? hb)
theorem kw_contains (s : ByteArray) : Lib.containsS (kws.map toBA) s = kwB s.data.toList := by
 rw [Bool.eq_iff_iff, Lib.containsS_iff]
 unfold kwB
 rw [List.contains_iff_mem, List.mem_map]
 constructor
 ·rintro ⟨l, hl, rfl⟩; exact hl
 ·intro h; exact ⟨_, h, toBA_of s⟩
theorem kws_cells (w : World) (j : Nat) (hj : j < (kws.map toBA).length) : (w.alloc (.cells (kws.map fun l => Value.string ⟨l.toArray⟩).toArray 9)).cell? ⟨w.heap.size, 0 + j, none⟩ = some (.string ((kws.map toBA).getD j ByteArray.empty)) := by
 rw [cell_of_row _ _ _ _ _ (0, 0) (heap_alloc_new w _)]
 have hj' : j < kws.length := by simpa using hj
 simp only [Nat.zero_add, List.getElem?_toArray, List.getElem?_map, List.getD_eq_getElem?_getD]
 rw [List.getElem?_eq_getElem hj']; rfl
theorem keyword_any (s : ByteArray) (w : World) (ht : Spaces w) : Calls Tryz.prog 109 #[.string s] w fun e w' => e = .returned (.bool (kwB s.data.toList)) /\ Quiet0 w w' := by
 have hF := Tryz.strings_Fields wordsText w (by decide) ascii_words ht
 rw [fields_words] at hF
 have hC := Tryz.slices_Contains_string w.heap.size 0 11 11 (kws.map toBA) s (w.alloc (.cells (kws.map fun l => Value.string ⟨l.toArray⟩).toArray 9)) (by decide) (by decide) (kws_cells w)
 rw [List.take_of_length_le (by decide), kw_contains] at hC
 have HF := hid hF
 have HC := hid hC
 clear hF hC ht
 generalize hA : (kws.map fun l => Value.string ⟨l.toArray⟩).toArray = A at *
 clear hA
 go_enter Tryz.func109, Tryz.ntmps109
 go_wp2_with fail
 refine HF.out.mono ?_; rintro e w' ⟨rfl, rfl⟩
 go_wp2_with fail
 refine HC.out.mono ?_; rintro e w' ⟨rfl, rfl⟩
 go_wp2
 go_ret
 exact ⟨rfl, Quiet0.alloc _ _⟩
theorem refKeyword_any (s : ByteArray) (w : World) : Calls Tryz.prog 77 #[.string s] w fun e w' => e = .returned (.bool (kwB s.data.toList)) /\ Quiet0 w w' := by
 go_enter Tryz.func77, Tryz.ntmps77
 go_wp2
 have hcell : ∀ j, j < 11 -> (w.alloc (.cells (kws.map fun l => Value.string ⟨l.toArray⟩).toArray 9)).cell? ⟨w.heap.size, j, none⟩ = some (.string (toBA (kws.getD j []))) := by
  intro j hj
  have := kws_cells w j (by exact hj)
  simp only [Nat.zero_add] at this
  rw [this]
  congr 2
  simp only [List.getD_eq_getElem?_getD, List.getElem?_map]
  rw [List.getElem?_eq_getElem (by exact hj)]; rfl
 have HCELL := hid hcell
 clear hcell
 obtain ⟨W, hW⟩ : ∃ W, W = w.alloc (.cells (kws.map fun l => Value.string ⟨l.toArray⟩).toArray 9) := ⟨_, rfl⟩
 have HQ : Hid (Quiet0 w W) := by rw [hW]; exact Quiet0.alloc _ _
 rw [<- hW] at HCELL
 change Code.wp _ _ _ _ (w.alloc (.cells (kws.map fun l => Value.string ⟨l.toArray⟩).toArray 9))
 rw [<- hW]
 clear hW
 generalize w.heap.size = b at *
 go_loop [4] (fun t => ∃ n : Nat, t = .int .i64 n /\ n <= 11 /\ kwB s.data.toList = (kws.drop n).contains s.data.toList) (fun t => 11 - (intOf t).toNat)
 case atStart => exact ⟨0, rfl, by omega, rfl⟩
 case round =>
  obtain ⟨n, rfl, hn, he⟩ := hrel
  have HE := hid he
  clear he
  by_cases hlt : n < 11
  ·have c := HCELL.out n hlt
   have hd : kws.drop n = kws.getD n [] :: kws.drop (n + 1) := by
    rw [List.drop_eq_getElem_cons (by exact hlt), List.getD_eq_getElem?_getD, List.getElem?_eq_getElem (by exact hlt)]; rfl
   have HD := hid hd
   clear hd
   have hlt' : (n : Int) < 11 := by omega
   generalize kws.getD n [] = x at *
   cases hx : ((toBA x).toList == s.toList)
   ·have hx' : (s.data.toList == x) = false := by
      rw [beq_eq_false_iff_ne] at hx ⊢
      intro h; apply hx; rw [ByteArray.toList_eq, ByteArray.toList_eq, toBA_toList, h]
    have HX' := hid hx'
    clear hx'
    go_wp2
    go_round
    case rel => exact ⟨n + 1, by go_num, by omega, by rw [HE.out, HD.out, List.contains_cons, HX'.out]; rfl⟩
    case measure => simp [intOf]; omega
   ·have hx' : s.data.toList = x := by
      rw [beq_iff_eq] at hx
      rw [ByteArray.toList_eq, ByteArray.toList_eq, toBA_toList] at hx
      exact hx.symm
    have HX' := hid hx'
    clear hx'
    go_wp2
    go_ret
    exact ⟨by rw [HE.out, HD.out, List.contains_cons, HX'.out]; simp, HQ.out⟩
  ·have hn11 : n = 11 := by omega
   subst hn11
   go_wp2
   go_ret
   exact ⟨by rw [HE.out]; rfl, HQ.out⟩
theorem eg_inner : ∀ args w, (callFunc 108 args).run Tryz.prog w = .ok (.enter 108 args) w := enters_of Tryz.func108 (by kernel_rfl) rfl
end Lx
end
section
namespace Lx
open Go.RowKit
def nameB (l : List UInt8) : Bool := goesOn smallB l && decide (runL innerB l = l.length) && decide (l.length <= 20) && !kwB l
theorem isEmpty_of (s : ByteArray) : s.toList.isEmpty = decide (s.size = 0) := by
 rw [ByteArray.toList_eq, Bool.eq_iff_iff, decide_eq_true_eq, List.isEmpty_iff, <- bytes_length, List.length_eq_zero_iff]
theorem name_any (s : ByteArray) (hs : s.size <= 100000) (w : World) (ht : Spaces w) :
    Calls Tryz.prog 86 #[.string s] w fun e w' => e = .returned (.bool (nameB s.data.toList)) /\ Quiet0 w w' := by
 have HT := hid ht
 have HS : Hid (s.size <= maxLen) := by show _ <= _; unfold maxLen; omega
 clear ht
 have HE := hid (isEmpty_of s)
 obtain ⟨res, hres⟩ : ∃ res, res = nameB s.data.toList := ⟨_, rfl⟩
 have HRES := hid hres
 rw [<- hres]
 clear hres
 by_cases h0 : s.size = 0
 ·have e1 : s.toList.isEmpty = true := by rw [HE.out]; simpa using h0
  have e2 : s.toList = [] := by simpa using e1
  have HF : Hid (res = false) := by
   show _ = _
   rw [HRES.out]
   have : s.data.toList = [] := by rw [<- List.length_eq_zero_iff, bytes_length]; exact h0
   rw [this]; rfl
  clear h0
  go_enter Tryz.func86, Tryz.ntmps86
  go_wp2_with fail
  go_ret
  exact ⟨by rw [HF.out]; first | rfl | simp_all, Quiet0.refl _⟩
 ·have e1 : s.toList.isEmpty = false := by rw [HE.out]; simpa using h0
  have e2 : ¬ s.toList = [] := by simpa using e1
  have hpos : 0 < s.size := by omega
  have HD : Hid (s.data.toList = s[0] :: s.data.toList.drop 1) := by
   have := drop_byte s 0 hpos; rw [List.drop_zero] at this; exact this
  have HB := hid (small_any s[0])
  obtain ⟨x, hx⟩ : ∃ x, s[0] = x := ⟨_, rfl⟩
  rw [hx] at HD HB
  have hrl := runL_le innerB s.data.toList
  rw [bytes_length] at hrl
  have HR := hid (fun W => run_any 108 innerB eg_inner inner_any s 0 0 rfl (by omega) HS.out W)
  rw [List.drop_zero] at HR
  have HK := hid (fun W h => keyword_any s W h)
  have HN : Hid (res = (smallB x && decide (runL innerB s.data.toList = s.size) && decide (s.size <= 20) && !kwB s.data.toList)) := by
   show _ = _
   rw [HRES.out]; unfold nameB; rw [bytes_length, HD.out]; rfl
  clear HRES HE HD h0
  generalize runL innerB s.data.toList = rn at *
  cases hsm : smallB x
  ·have HSM := hid hsm
   clear hsm
   go_enter Tryz.func86, Tryz.ntmps86
   go_wp2_with fail
   refine (HB.out _).mono ?_; rintro e w' ⟨rfl, rfl⟩
   rw [HSM.out]
   go_wp2_with fail
   go_ret
   exact ⟨by rw [HN.out, HSM.out]; rfl, Quiet0.refl _⟩
  ·have HSM := hid hsm
   clear hsm
   by_cases hrn : rn = s.size
   ·have hr1 : ((rn : Int) == (s.size : Int)) = true := by simp [hrn]
    have HRN := hid hrn
    clear hrn
    by_cases h20 : s.size <= 20
    ·have h20' : (s.size : Int) <= 20 := by omega
     cases hkw : kwB s.data.toList
     all_goals
      have HKW := hid hkw
      clear hkw
      go_enter Tryz.func86, Tryz.ntmps86
      go_wp2_with fail
      refine (HB.out _).mono ?_; rintro e w' ⟨rfl, rfl⟩
      rw [HSM.out]
      go_wp2_with fail
      refine (HR.out _).mono ?_; rintro e w' ⟨rfl, rfl⟩
      go_wp2_with fail
      refine (HK.out _ HT.out).mono ?_; rintro e w' ⟨rfl, hq⟩
      rw [HKW.out]
      go_wp2_with fail
      go_ret
      exact ⟨by rw [HN.out, HSM.out, HKW.out, HRN.out]; simp [h20], hq⟩
    ·have h20' : ¬ (s.size : Int) <= 20 := by omega
     go_enter Tryz.func86, Tryz.ntmps86
     go_wp2_with fail
     refine (HB.out _).mono ?_; rintro e w' ⟨rfl, rfl⟩
     rw [HSM.out]
     go_wp2_with fail
     refine (HR.out _).mono ?_; rintro e w' ⟨rfl, rfl⟩
     go_wp2_with fail
     go_ret
     exact ⟨by rw [HN.out, HSM.out, HRN.out]; simp [h20], Quiet0.refl _⟩
   ·have hr1 : ((rn : Int) == (s.size : Int)) = false := by simp; omega
    have HRN := hid hrn
    clear hrn
    go_enter Tryz.func86, Tryz.ntmps86
    go_wp2_with fail
    refine (HB.out _).mono ?_; rintro e w' ⟨rfl, rfl⟩
    rw [HSM.out]
    go_wp2_with fail
    refine (HR.out _).mono ?_; rintro e w' ⟨rfl, rfl⟩
    go_wp2_with fail
    go_ret
    exact ⟨by rw [HN.out, HSM.out]; simp [HRN.out], Quiet0.refl _⟩
theorem runL_all {p : UInt8 -> Bool} {l : List UInt8} (h : runL p l < l.length) : runL p l ≠ l.length := by omega
theorem refName_any (s : ByteArray) (hs : s.size <= 100000) (w : World) :
    Calls Tryz.prog 55 #[.string s] w fun e w' => e = .returned (.bool (nameB s.data.toList)) /\ Quiet0 w w' := by
 obtain ⟨res, hres⟩ : ∃ res, res = nameB s.data.toList := ⟨_, rfl⟩
 have HRES : Hid (res = (goesOn smallB s.data.toList && decide (runL innerB s.data.toList = s.size) && decide (s.size <= 20) && !kwB s.data.toList)) := by
  show _ = _
  rw [hres]; unfold nameB; rw [bytes_length]
 rw [<- hres]
 clear hres
 go_enter Tryz.func55, Tryz.ntmps55
 go_wp2_with fail
 go_loop [3] (fun t => ∃ k : Nat, t = .int .i64 k /\ k <= s.size /\ runL innerB s.data.toList = k + runL innerB (s.data.toList.drop k) /\ (0 < k -> goesOn smallB s.data.toList = true)) (fun t => s.size - (intOf t).toNat)
 case atStart => exact ⟨0, rfl, Nat.zero_le _, by simp, fun h => by omega⟩
 case round =>
  obtain ⟨k, rfl, hk, hr, hg⟩ := hrel
  have HR := hid hr
  have HG := hid hg
  clear hr hg
  by_cases hlt : k < s.size
  ·have hlt' : (k : Int) < s.size := by omega
   have HD := hid (drop_byte s k hlt)
   have HI := hid (refInner_any s[k])
   have HL := hid (letter_any s[k])
   obtain ⟨x, hx⟩ : ∃ x, s[k] = x := ⟨_, rfl⟩
   rw [hx] at HD HI HL
   cases hin : innerB x
   ·have HIN := hid hin
    clear hin
    go_wp2_with fail
    refine (HI.out _).mono ?_; rintro e w' ⟨rfl, rfl⟩
    rw [HIN.out]
    go_wp2_with fail
    go_ret
    refine ⟨?_, Quiet0.refl _⟩
    have : runL innerB s.data.toList = k := by rw [HR.out, HD.out, runL_cons, HIN.out]; rfl
    have hne : ¬ runL innerB s.data.toList = s.size := by omega
    rw [HRES.out]; simp [hne]
   ·have HIN := hid hin
    clear hin
    by_cases hk0 : k = 0
    ·have b0 : ((k : Int) == 0) = true := by simp [hk0]
     cases hsm : smallB x
     ·have HSM := hid hsm
      have HGO : Hid (goesOn smallB s.data.toList = false) := by
       show _ = _
       have := HD.out; rw [hk0, List.drop_zero] at this; rw [this]; exact hsm
      clear hsm hk0
      go_wp2_with fail
      refine (HI.out _).mono ?_; rintro e w' ⟨rfl, rfl⟩
      rw [HIN.out]
      go_wp2_with fail
      refine (HL.out _).mono ?_; rintro e w' ⟨rfl, rfl⟩
      rw [HSM.out]
      go_wp2_with fail
      go_ret
      exact ⟨by rw [HRES.out, HGO.out]; rfl, Quiet0.refl _⟩
     ·have HSM := hid hsm
      have HGO : Hid (goesOn smallB s.data.toList = true) := by
       show _ = _
       have := HD.out; rw [hk0, List.drop_zero] at this; rw [this]; exact hsm
      clear hsm hk0
      go_wp2_with fail
      refine (HI.out _).mono ?_; rintro e w' ⟨rfl, rfl⟩
      rw [HIN.out]
      go_wp2_with fail
      refine (HL.out _).mono ?_; rintro e w' ⟨rfl, rfl⟩
      rw [HSM.out]
      go_wp2_with fail
      go_round
      case rel => exact ⟨k + 1, by go_num, by omega, by rw [HR.out, HD.out, runL_cons, HIN.out]; simp only [if_true]; omega, fun _ => HGO.out⟩
      case measure => simp [intOf]; omega
    ·have b0 : ((k : Int) == 0) = false := by simp; omega
     have HK0 := hid hk0
     clear hk0
     go_wp2_with fail
     refine (HI.out _).mono ?_; rintro e w' ⟨rfl, rfl⟩
     rw [HIN.out]
     go_wp2_with fail
     go_round
     case rel => exact ⟨k + 1, by go_num, by omega, by rw [HR.out, HD.out, runL_cons, HIN.out]; simp only [if_true]; omega, fun _ => HG.out (by have := HK0.out; omega)⟩
     case measure => simp [intOf]; omega
  ·have hkk : k = s.size := by omega
   have hlt' : ¬ (k : Int) < s.size := by omega
   have HRN : Hid (runL innerB s.data.toList = s.size) := by
    show _ = _
    rw [HR.out, drop_end s k (by omega), hkk]; rfl
   have HK := hid (refKeyword_any s w)
   by_cases h0 : 0 < s.size
   ·have h0' : (0 : Int) < s.size := by omega
    have HGO := hid (HG.out (by omega))
    by_cases h20 : s.size <= 20
    ·have h20' : (s.size : Int) <= 20 := by omega
     cases hkw : kwB s.data.toList
     all_goals
      have HKW := hid hkw
      clear hkw hkk
      go_wp2_with fail
      refine HK.out.mono ?_; rintro e w' ⟨rfl, hq⟩
      rw [HKW.out]
      go_wp2_with fail
      go_ret
      exact ⟨by rw [HRES.out, HGO.out, HRN.out, HKW.out]; simp [h20], hq⟩
    ·have h20' : ¬ (s.size : Int) <= 20 := by omega
     clear hkk
     go_wp2_with fail
     go_ret
     exact ⟨by rw [HRES.out]; simp [h20], Quiet0.refl _⟩
   ·have h0' : ¬ (0 : Int) < s.size := by omega
    have HE : Hid (s.data.toList = []) := by show _ = _; rw [<- List.length_eq_zero_iff, bytes_length]; omega
    clear hkk
    go_wp2_with fail
    go_ret
    exact ⟨by rw [HRES.out, HE.out]; rfl, Quiet0.refl _⟩
end Lx
end
section
open Go.RowKit Go.Shelf
def foldF {σ : Type} (step : σ -> Int -> Int -> Fo -> σ) : σ -> Fo -> σ
 | s, .nil => s
 | s, .cons k n ps r => foldF step (foldF step (step s k n ps) ps) r
structure EachK (g : Nat) (lb : Array Value) (N : Nat) (w0 : World) (G : Int -> Prop) (S : World -> Nat -> Prop) {σ : Type} (step : σ -> Int -> Int -> Fo -> σ) (J : Nat -> σ -> World -> Prop) : Prop where
 quiet : ∀ m s W, J m s W -> Quiet0 w0 W
 alloc : ∀ m s W o, J m s W -> J m s (W.alloc o)
 low : ∀ m s W, J m s W -> ∀ k, S W k -> k < W.heap.size
 back : ∀ m s W o k, J m s W -> S (W.alloc o) k -> S W k
 call : ∀ m s k n ps (W : World) (o : Option Addr) (len cap : Nat), m < N -> J m s W -> Slc w0 o len ps -> G n ->
  Calls Tryz.prog g (#[tyv k n o len cap] ++ lb) W fun e W' => e = .returned (.tuple #[]) /\ J (m + 1) (step s k n ps) W' /\ Fr (S W) W W'
section
variable {g : Nat} {lb : Array Value} {N : Nat} {w0 : World} {G : Int -> Prop} {S : World -> Nat -> Prop} {σ : Type} {step : σ -> Int -> Int -> Fo -> σ} {J : Nat -> σ -> World -> Prop}
def TEach (g : Nat) (lb : Array Value) (N : Nat) (w0 : World) (G : Int -> Prop) {σ : Type} (step : σ -> Int -> Int -> Fo -> σ) (J : Nat -> σ -> World -> Prop) (k n : Int) (ps : Fo) : Prop :=
 ∀ (m : Nat) (s : σ) (w : World) (o : Option Addr) (len cap : Nat), J m s w -> Slc w0 o len ps -> m + (ps.size + 1) <= N -> G n -> allF G ps ->
  Calls Tryz.prog 72 #[tyv k n o len cap, .func (.func g) #[] lb] w fun e w' => e = .returned (.tuple #[]) /\ J (m + (ps.size + 1)) (foldF step (step s k n ps) ps) w'
theorem each_any (eg : ∀ args w, (callFunc g args).run Tryz.prog w = .ok (.enter g args) w) (hK : EachK g lb N w0 G S step J) (k n : Int) (ps : Fo) : TEach g lb N w0 G step J k n ps := by
 refine Fo.ind' (T := TEach g lb N w0 G step J) ?_ k n ps
 intro k n ps ih m s w o len cap hJ hs hN hgn hgp
 have HGP := hid hgp
 have HS := hid hs
 have IH := hid ih
 have HL := hid hs.1
 have hmx := hs.2.1
 unfold maxLen at hmx
 have HK := hid hK
 have HJ := hid (hK.alloc m s w (.cells #[.int .i64 k, .int .i64 n, .slice o len cap] 24) hJ)
 have HLOW := hid (hK.low m s w hJ)
 have HBACK := hid (fun j => hK.back m s w (.cells #[.int .i64 k, .int .i64 n, .slice o len cap] 24) j hJ)
 have HC := hid (hK.call m s k n ps _ o len cap (by omega) HJ.out hs hgn)
 clear hs ih hJ hK hgn hgp
 unfold tyv at HC ⊢
 go_enter Tryz.func72, Tryz.ntmps72
 go_wp2_with fail
 refine HC.out.mono ?_; rintro e w1 ⟨rfl, hj1, hf1⟩
 have HJ1 := hid hj1
 have c2 : w1.cell? ⟨w.heap.size, 2, none⟩ = some (.slice o len cap) := by
  rw [hf1.cellb (by simp) (fun h => absurd (HLOW.out _ (HBACK.out _ h)) (Nat.lt_irrefl _)), cell_of_row _ _ _ _ _ (0, 0) (heap_alloc_new w _)]; rfl
 clear hj1 hf1
 go_wp2_with fail
 clear c2
 go_loopw [12] (fun t wr => ∃ (i m' : Nat) (s' : σ), t = .int .i64 i /\ i <= len /\ m' + (ps.drop i).size = m + (ps.size + 1) /\ foldF step s' (ps.drop i) = foldF step (step s k n ps) ps /\ J m' s' wr) (fun t _ => len - (intOf t).toNat)
 case atStart => exact ⟨0, m + 1, _, rfl, Nat.zero_le _, by rw [Fo.drop_zero]; omega, by rw [Fo.drop_zero], HJ1.out⟩
 case round =>
  obtain ⟨i, m', s', rfl, hi, hm, hfo, hj⟩ := hrel
  have HM := hid hm
  have HFO := hid hfo
  have HJJ := hid hj
  clear hm hfo hj
  by_cases hlt : i < len
  ·have hlt' : (i : Int) < len := by omega
   have HQ := hid (HK.out.quiet _ _ _ HJJ.out)
   obtain ⟨b, off, k1, n1, qs, o1, len1, cap1, rfl, hd, hg, e0, e1, e2, hs1⟩ := (HS.out.stay HQ.out).nth hlt
   obtain ⟨_, _, _, _, _, _, _, _, ho, hd', hg', _, _, f2, hs0⟩ := HS.out.nth hlt
   rw [hg] at hg'
   cases hg'
   cases ho
   have f2' := HQ.out.at f2
   rw [e2] at f2'
   cases f2'
   have HC1 := hid (IH.out i k1 n1 qs hg m' s' _ o1 len1 cap1 (HK.out.alloc m' s' wr (.cells #[.int .i64 k1, .int .i64 n1, .slice o1 len1 cap1] 24) HJJ.out) hs0 (by
    have := HM.out; rw [hd] at this; simp only [Fo.size] at this; omega) (allF_get ps i k1 n1 qs HGP.out hg).1 (allF_get ps i k1 n1 qs HGP.out hg).2)
   have HM2 : Hid (m' + (qs.size + 1) + (ps.drop (i + 1)).size = m + (ps.size + 1)) := by
    have := HM.out; rw [hd] at this; simp only [Fo.size] at this; show _ = _; omega
   have HFO2 : Hid (foldF step (foldF step (step s' k1 n1 qs) qs) (ps.drop (i + 1)) = foldF step (step s k n ps) ps) := by
    show _ = _
    rw [<- HFO.out, hd]; rfl
   unfold tyv at HC1
   clear hd hg hs1 hd' f2 hs0
   go_wp2_with fail
   refine HC1.out.mono ?_; rintro e w2 ⟨rfl, hj2⟩
   have HJ2 := hid hj2
   clear hj2
   go_wp2_with fail
   go_roundw
   case rel => exact ⟨i + 1, m' + (qs.size + 1), _, by go_num, by omega, HM2.out, HFO2.out, HJ2.out⟩
   case measure => simp [intOf]; omega
  ·have hlt' : ¬ (i : Int) < len := by omega
   have HE : Hid (J (m + (ps.size + 1)) (foldF step (step s k n ps) ps) wr) := by
    have h1 := HM.out
    have h2 := HFO.out
    rw [Fo.drop_end ps i (by have := HL.out; omega)] at h1 h2
    simp only [Fo.size, Nat.add_zero, foldF] at h1 h2
    show J _ _ _
    rw [<- h1, <- h2]; exact HJJ.out
   go_wp2_with fail
   go_end0
   exact ⟨rfl, HE.out⟩
end
end
section
open Go.RowKit Go.Shelf
def Box1 (w : World) (c : Nat) (v : Value) (t : TypeId) : Prop := w.heap[c]? = some (.cells #[v] t (0, 0))
theorem Box1.alloc {w : World} {c : Nat} {v : Value} {t : TypeId} (h : Box1 w c v t) (o : Obj) : Box1 (w.alloc o) c v t := by
 unfold Box1 at *
 rw [Below.heap_alloc _ _ _ (lt_of_block h)]; exact h
theorem Box1.new (w : World) (v : Value) (t : TypeId) : Box1 (w.alloc (.cells #[v] t)) w.heap.size v t := heap_alloc_new w _
end
section
open Go.RowKit Go.Maps
def wfI (n : Int) : Prop := (Lit.int .i64 n).wf = true
theorem wfI_of {n : Int} (h0 : -9223372036854775808 <= n) (h1 : n <= 9223372036854775807) : wfI n := WalkArith.wf_i64 (by omega)
theorem lawK : Keyed Tryz.prog 3 := int_keyed Tryz.underlying3
theorem zeroE (w : World) : (zeroValue 3).run Tryz.prog w = .ok (.int .i64 0) w := by kernel_rfl
def wfF (f : Fo) : Prop := allF wfI f
def MapOf (w : World) (b n : Nat) (p : Int -> Int) : Prop :=
 ∃ D : DataW Unit, w.ownsMap Tryz.prog 3 (plainElem Tryz.prog 3) b n D /\ IsMap D /\ ∀ v, wfI v -> D.atKey (.int .i64 v) (.lit (.int .i64 0)) = .lit (.int .i64 (p v))
theorem MapOf.made (w : World) : MapOf (w.alloc (.map #[] 0)) w.heap.size 0 (fun _ => 0) :=
 ⟨.map [], World.ownsMap_made _ _ _ _, ⟨_, rfl⟩, fun _ _ => rfl⟩
theorem MapOf.lt {w : World} {b n : Nat} {p : Int -> Int} (h : MapOf w b n p) : b < w.heap.size := by
 obtain ⟨D, h, _⟩ := h
 exact h.lt
theorem MapOf.fr {w w' : World} {b n : Nat} {p : Int -> Int} {S : Nat -> Prop} (h : MapOf w b n p) (hf : Fr S w w') (hb : ¬ S b) : MapOf w' b n p := by
 have hlt := h.lt
 obtain ⟨D, ⟨es, clock, hh, F, hs, hD⟩, hm, ha⟩ := h
 exact ⟨D, ⟨es, clock, (hf.block b hlt hb).trans hh, F, hs, hD⟩, hm, ha⟩
theorem MapOf.stay {w w' : World} {b n : Nat} {p : Int -> Int} (h : MapOf w b n p) (hq : Quiet0 w w') : MapOf w' b n p := h.fr hq (fun h => h)
theorem MapOf.cong {w : World} {b n : Nat} {p q : Int -> Int} (h : MapOf w b n p) (he : ∀ v, wfI v -> p v = q v) : MapOf w b n q := by
 obtain ⟨D, h1, h2, h3⟩ := h
 exact ⟨D, h1, h2, fun v hv => by rw [h3 v hv, he v hv]⟩
theorem MapOf.look {w : World} {b n : Nat} {p : Int -> Int} (h : MapOf w b n p) {v : Int} (hv : wfI v) : (Instr.lookup 124 (.map (some b)) (.int .i64 v) false).run Tryz.prog w = .ok (.int .i64 (p v)) w := by
 obtain ⟨D, h1, h2, h3⟩ := h
 obtain ⟨c, hr, hc, _⟩ := h1.lookup_int lawK Tryz.underlying124 Tryz.underlying3 (zeroE _) (keyOf_int_mk Tryz.underlying3 hv)
 rw [h3 v hv] at hc
 injection hc with hc
 injection hc with _ hc
 rw [hc]; exact hr
theorem wpList_store (w : World) {ops : Array Oper} {rest : List Oper} {o : Oper} {a : Act} {Q : Exit -> Act -> World -> Prop}
    (hg : o.guard = none) (m x y : Operand) (hop : o.op = Op.mapUpdate 124 m x y) {b n : Nat} {p : Int -> Int} (hm : a.eval m = .map (some b)) (hown : MapOf w b n p) (hn : n < maxLen) (v u : Int) (hv : wfI v) (hu : wfI u) (hx : a.eval x = .int .i64 v) (hy : a.eval y = .int .i64 u)
    (hK : ∀ w', MapOf w' b (n + 1) (fun k => if k = v then u else p k) -> Fr (fun k => k = b) w w' -> wpList Tryz.prog ops Q rest (a.put o.dst undef) w') : wpList Tryz.prog ops Q (o :: rest) a w := by
 obtain ⟨D, h1, h2, h3⟩ := hown
 refine wpList_mapUpdate_own w hg m x y 124 hop 3 3 lawK Tryz.underlying124 _ b n D hm h1 hn _ _ (.int .i64 v) hx hy (keyOf_int_mk Tryz.underlying3 hv) _ [] (plainElem_int Tryz.underlying3 hu) ?_
 intro w' hown' hgr
 refine hK w' ⟨_, hown', h2.put _ _, ?_⟩ (Fr.grown hgr (fun k hk => by cases hk; rfl))
 intro k hk
 by_cases he : k = v
 ·subst he
  rw [atKey_put_same h2 (by trivial)]; simp
 ·rw [atKey_put_other (by intro h; injection h with _ h; exact he h), h3 k hk]; simp [he]
end
section
open Go.RowKit Go.Maps
theorem elemInt : Elem Tryz.prog 35 3 (.int .i64 0) 1 8 :=
 ⟨Tryz.underlying35, by kernel_rfl, by decide, by decide⟩
def varStep (l : List Int) (k n : Int) (_ : Fo) : List Int := if k == 1 && !inB l n then l ++ [n] else l
theorem vars_fold : ∀ (f : Fo) (l : List Int), foldF varStep l f = Fo.vars l f
 | .nil, l => rfl
 | .cons k n ps r, l => by
  show foldF varStep (foldF varStep (varStep l k n ps) ps) r = _
  rw [vars_fold ps, vars_fold r]; rfl
def seenP (l : List Int) (v : Int) : Int := if inB l v then 1 else 0
def ints (l : List Int) : List Value := l.map (Value.int .i64)
def VarsJ (w0 : World) (cs co bm : Nat) (m : Nat) (l : List Int) (W : World) : Prop :=
 ∃ vo, Box1 W cs (.map (some bm)) 124 /\ Box1 W co vo 35 /\ MapOf W bm m (seenP l) /\ W.ownsRow 0 3 1 vo l.length (ints l) /\ (∀ g, vo.ownBlock = some g -> w0.heap.size <= g /\ g ≠ cs /\ g ≠ co /\ g ≠ bm) /\ l.length <= m /\ Quiet0 w0 W
def VarsS (co bm : Nat) (W : World) (k : Nat) : Prop := k = co ∨ k = bm ∨ ∃ vo, Box1 W co vo 35 /\ vo.ownBlock = some k
theorem Box1.inj {w : World} {c : Nat} {v u : Value} {t t' : TypeId} (h : Box1 w c v t) (h' : Box1 w c u t') : v = u := by
 unfold Box1 at *
 rw [h] at h'
 injection h' with h'
 injection h' with h1 h2 h3
 have := congrArg (fun a : Array Value => a[0]?) h1
 simpa using this
theorem Box1.back {w : World} {c : Nat} {v u : Value} {t t' : TypeId} {o : Obj} (h : Box1 w c v t) (h' : Box1 (w.alloc o) c u t') : Box1 w c u t' := by
 have := lt_of_block h
 unfold Box1 at *
 rw [Below.heap_alloc _ _ _ this] at h'; exact h'
theorem Box1.fr {w w' : World} {c : Nat} {v : Value} {t : TypeId} {S : Nat -> Prop} (h : Box1 w c v t) (hf : Fr S w w') (hS : ¬ S c) : Box1 w' c v t := by
 have := lt_of_block h
 unfold Box1 at *
 rw [hf.block c this hS]; exact h
theorem inB_snoc (l : List Int) (n v : Int) : inB (l ++ [n]) v = (inB l v || v == n) := by
 unfold inB; rw [Bool.eq_iff_iff]; simp
theorem vars1_any (w0 : World) (cs co bm : Nat) (hcs : w0.heap.size <= cs) (hco : w0.heap.size <= co) (hbm : w0.heap.size <= bm) (h12 : cs ≠ co) (h13 : cs ≠ bm) (h23 : co ≠ bm) :
    EachK 73 #[.pointer (some ⟨cs, 0, none⟩), .pointer (some ⟨co, 0, none⟩)] 10000000 w0 wfI (VarsS co bm) varStep (VarsJ w0 cs co bm) where
 quiet := fun m l W h => by obtain ⟨vo, _, _, _, _, _, _, h⟩ := h; exact h
 alloc := fun m l W o h => by
  obtain ⟨vo, h1, h2, h3, h4, h5, h6, h7⟩ := h
  exact ⟨vo, h1.alloc o, h2.alloc o, h3.stay (Quiet0.alloc _ _), h4.alloc o, h5, h6, h7.trans (Quiet0.alloc _ _)⟩
 low := fun m l W h k hk => by
  obtain ⟨vo, h1, h2, h3, h4, h5, h6, h7⟩ := h
  rcases hk with rfl | rfl | ⟨vo', hb, hk⟩
  ·exact lt_of_block h2
  ·exact h3.lt
  ·have := h2.inj hb
   subst this
   exact (h4.lt k hk).2
 back := fun m l W o k h hk => by
  obtain ⟨vo, h1, h2, h3, h4, h5, h6, h7⟩ := h
  rcases hk with rfl | rfl | ⟨vo', hb, hk⟩
  ·exact .inl rfl
  ·exact .inr (.inl rfl)
  ·exact .inr (.inr ⟨vo', h2.back hb, hk⟩)
 call := by
  intro m l k n ps W o len cap hm hJ hs hgn
  have HJ := hid hJ
  obtain ⟨vo, h1, h2, h3, h4, h5, h6, h7⟩ := hJ
  have HW := hid hgn
  have H1 := hid h1
  have H2 := hid h2
  have H3 := hid (h3.stay (Quiet0.alloc W (.cells #[.int .i64 k, .int .i64 n, .slice o len cap] 24)))
  have H4 := hid h4
  have H5 := hid h5
  have H6 := hid h6
  have H7 := hid h7
  have hb1 := h1.alloc (.cells #[.int .i64 k, .int .i64 n, .slice o len cap] 24)
  have hb2 := h2.alloc (.cells #[.int .i64 k, .int .i64 n, .slice o len cap] 24)
  have c1 := cell_of_one hb1
  have c2 := cell_of_one hb2
  have z2 := free_of_one hb2
  have hcl := lt_of_block h1
  have hol := lt_of_block h2
  have HQA : Hid (Quiet0 W (W.alloc (.cells #[.int .i64 k, .int .i64 n, .slice o len cap] 24))) := Quiet0.alloc _ _
  have HNO : Hid (varStep l k n ps = l -> ∀ W', Quiet0 W W' -> VarsJ w0 cs co bm (m + 1) (varStep l k n ps) W' /\ Fr (VarsS co bm W) W W') := by
   intro e W' hq
   rw [e]
   refine ⟨⟨vo, h1.fr hq (fun h => h), h2.fr hq (fun h => h), ?_, ownsRow_fr h4 hq (fun _ _ h => h), h5, by omega, h7.trans hq⟩, hq.mono (fun _ _ h => h.elim)⟩
   obtain ⟨D, hD, hM, hA⟩ := h3.stay hq
   exact ⟨D, hD.mono (by omega), hM, hA⟩
  clear h1 h2 h3 h4 h5 h6 h7 hgn hs hb1 hb2
  have hlk := H3.out.look HW.out
  unfold tyv
  cases hk : (k == 1)
  ·go_enter Tryz.func73, Tryz.ntmps73
   go_wp2_with fail
   go_end0
   exact ⟨rfl, HNO.out (by unfold varStep; rw [hk]; rfl) _ HQA.out⟩
  ·cases hin : inB l n
   ·have hsn : (seenP l n == 0) = true := by unfold seenP; rw [hin]; rfl
    have hsz : seenP l n = 0 := by unfold seenP; rw [hin]; rfl
    have HV : Hid (varStep l k n ps = l ++ [n]) := by show _ = _; unfold varStep; rw [hk, hin]; rfl
    clear hin
    rw [hsz] at hlk
    have hbm := H3.out.lt
    have hbmW : bm < W.heap.size := by
     obtain ⟨vo', _, _, h3, _⟩ := HJ.out
     exact h3.lt
    have hbx := heap_alloc_new W (.cells #[.int .i64 k, .int .i64 n, .slice o len cap] 24)
    have HBX := hid hbx
    clear hbx hsz hsn
    go_enter Tryz.func73, Tryz.ntmps73
    go_wp2_with (at_mapUpdate; go_must (refine wpList_store _ rfl _ _ _ rfl rfl H3.out ?hn n 1 HW.out (wfI_of (by omega) (by omega)) rfl rfl ?_))
    case hn => unfold maxLen; omega
    intro w1 hm1 hf1
    have B1 := hid (Box1.fr (H1.out.alloc _) hf1 (fun h => h13 h))
    have B2 := hid (Box1.fr (H2.out.alloc _) hf1 (fun h => h23 h))
    have HB1 : Hid (w1.heap[W.heap.size]? = some (.cells #[.int .i64 k, .int .i64 n, .slice o len cap] 24 (0, 0))) := by
     show _ = _
     rw [hf1.block W.heap.size (by simp) (fun h => by have h' : W.heap.size = bm := h; omega)]; exact HBX.out
    have HM1 := hid hm1
    have HF1 := hid hf1
    have H41 : Hid (w1.ownsRow 0 3 1 vo l.length (ints l)) := ownsRow_fr (H4.out.alloc _) hf1 (fun g hg h => (H5.out g hg).2.2.2 h)
    obtain ⟨g0, g1, g2, _, _, _⟩ := box_cells3 HB1.out
    have d2 := cell_of_one B2.out
    clear c1 c2 z2 hlk hm1 hf1
    go_wp2_with (at_builtin; go_must (refine wpList_append_one w1 rfl (.tmp 19) (.tmp 22) 35 rfl 3 _ 1 8 elemInt vo l.length (ints l) rfl H41.out #[.int .i64 n] rfl rfl ?c1 ?c2 ?c3 ?_))
    case c1 => simp [Value.oneCell']
    case c2 => have := H6.out; unfold maxLen; omega
    case c3 => have := H6.out; omega
    intro gg c' w2 ho hf hgg
    have hz1 : W.heap.size + 1 <= w1.heap.size := by have := HF1.out.size; simpa using this
    have C1 := hid (Box1.fr B1.out hf (fun h => (H5.out _ h).2.1 rfl))
    have C2 := hid (Box1.fr B2.out hf (fun h => (H5.out _ h).2.2.1 rfl))
    have CM := hid (HM1.out.fr hf (fun h => (H5.out _ h).2.2.2 rfl))
    have e2 := cell_of_one C2.out
    have y2 := free_of_one C2.out
    have HOW := hid ho
    have HFW := hid hf
    have HGG : Hid (w0.heap.size <= gg /\ gg ≠ cs /\ gg ≠ co /\ gg ≠ bm) := by
     rcases hgg with h | h
     ·exact H5.out gg h
     ·have := H7.out.size
      exact ⟨by omega, by omega, by omega, by omega⟩
    clear g0 g1 g2 d2 ho hf hgg
    go_wp2_with fail
    go_end0
    have hset := Fr.setCell (fun j => j = co) w2 ⟨co, 0, none⟩ (.slice (some ⟨gg, 0, none⟩) (l.length + 1) c') rfl
    refine ⟨rfl, ?_, ?_⟩
    ·rw [HV.out]
     refine ⟨.slice (some ⟨gg, 0, none⟩) (l.length + 1) c', C1.out.fr hset (fun h => h12 h), one_setCell C2.out, (CM.out.fr hset (fun h => h23 h.symm)).cong ?_, ?_, ?_, by simp; have := H6.out; omega, ?_⟩
     ·intro v hv
      unfold seenP
      rw [inB_snoc]
      by_cases he : v = n
      ·simp [he]
      ·simp [he]
     ·have hrow := ownsRow_setCell_other HOW.out ⟨co, 0, none⟩ (.slice (some ⟨gg, 0, none⟩) (l.length + 1) c') (by
        intro h; simp [Value.ownBlock] at h; exact HGG.out.2.2.1 h)
      simpa [ints] using hrow
     ·intro g hg
      simp [Value.ownBlock] at hg
      subst hg
      exact HGG.out
     ·refine Fr.trans' (Fr.trans' (Fr.trans' (H7.out.trans HQA.out) HF1.out (fun i hi h => ?_)) HFW.out (fun i hi h => ?_)) hset (fun i hi h => ?_)
      ·have h' : i = bm := h; omega
      ·have := (H5.out i h).1; omega
      ·have h' : i = co := h; omega
    ·refine Fr.trans' (Fr.trans' (Fr.trans' (HQA.out.mono (fun _ _ h => h.elim)) HF1.out (fun i hi h => .inr (.inl h))) HFW.out (fun i hi h => .inr (.inr ⟨vo, H2.out, h⟩))) hset (fun i hi h => .inl h)
   ·have hsn : (seenP l n == 0) = false := by unfold seenP; rw [hin]; rfl
    go_enter Tryz.func73, Tryz.ntmps73
    go_wp2_with fail
    go_end0
    exact ⟨rfl, HNO.out (by unfold varStep; rw [hk, hin]; rfl) _ HQA.out⟩
end
section
open Go.RowKit Go.Maps
theorem eg_vars : ∀ args w, (callFunc 73 args).run Tryz.prog w = .ok (.enter 73 args) w := enters_of Tryz.func73 (by kernel_rfl) rfl
def IntRow (B : Nat) (w : World) (vo : Value) (l : List Int) : Prop := w.ownsRow 0 3 1 vo l.length (ints l) /\ ∀ g, vo.ownBlock = some g -> B <= g
theorem vars_cons (k n : Int) (ps r : Fo) (l : List Int) : Fo.vars l (.cons k n ps r) = Fo.vars (Fo.vars (varStep l k n ps) ps) r := rfl
theorem vars_any (f : Fo) (w : World) (o : Option Addr) (len cap : Nat) (hs : Slc w o len f) (hw : wfF f) (hsz : f.size <= 1000000) :
    Calls Tryz.prog 45 #[.slice o len cap] w fun e w' => ∃ vo, e = .returned vo /\ IntRow w.heap.size w' vo (Fo.vars [] f) /\ Quiet0 w w' := by
 have HS := hid hs
 have HL := hid hs.1
 have HWF := hid hw
 have hmx := hs.2.1
 unfold maxLen at hmx
 have hmm := @run_makeMap Tryz.prog
 clear hs hw
 go_enter Tryz.func45, Tryz.ntmps45
 go_wp2_with fail
 obtain ⟨W0, hW0⟩ : ∃ W0, W0 = ((w.alloc (.map #[] 0)).alloc (.cells #[.map (some w.heap.size)] 124)).alloc (.cells #[.slice none 0 0] 35) := ⟨_, rfl⟩
 change Code.wp _ _ _ _ (((w.alloc (.map #[] 0)).alloc (.cells #[.map (some w.heap.size)] 124)).alloc (.cells #[.slice none 0 0] 35))
 have HJ0 : Hid (VarsJ w (w.heap.size + 1) (w.heap.size + 1 + 1) w.heap.size 0 [] W0) := by
  rw [hW0]
  refine ⟨.slice none 0 0, ?_, ?_, ?_, World.ownsRow_nil _ _ _ _, (fun g hg => by cases hg), Nat.le_refl _, (((Quiet0.alloc _ _).trans (Quiet0.alloc _ _)).trans (Quiet0.alloc _ _))⟩
  ·refine Box1.alloc ?_ _
   have := Box1.new (w.alloc (.map #[] 0)) (.map (some w.heap.size)) 124
   rw [show (w.alloc (.map #[] 0)).heap.size = w.heap.size + 1 from by simp] at this
   exact this
  ·have := Box1.new ((w.alloc (.map #[] 0)).alloc (.cells #[.map (some w.heap.size)] 124)) (.slice none 0 0) 35
   rw [show ((w.alloc (.map #[] 0)).alloc (.cells #[.map (some w.heap.size)] 124)).heap.size = w.heap.size + 1 + 1 from by simp] at this
   exact this
  ·exact ((MapOf.made w).stay ((Quiet0.alloc _ _).trans (Quiet0.alloc _ _))).cong (fun v _ => by simp [seenP, inB])
 have HE := hid (each_any eg_vars (vars1_any w (w.heap.size + 1) (w.heap.size + 1 + 1) w.heap.size (by omega) (by omega) (by omega) (by omega) (by omega) (by omega)))
 rw [<- hW0]
 clear hW0
 generalize hB : w.heap.size = B at *
 go_loopw [10] (fun t wr => ∃ (i m : Nat) (l : List Int), t = .int .i64 i /\ i <= len /\ m + (f.drop i).size = f.size /\ Fo.vars l (f.drop i) = Fo.vars [] f /\ VarsJ w (B + 1) (B + 1 + 1) B m l wr) (fun t _ => len - (intOf t).toNat)
 case atStart => exact ⟨0, 0, [], rfl, Nat.zero_le _, by rw [Fo.drop_zero]; omega, by rw [Fo.drop_zero], HJ0.out⟩
 case round =>
  obtain ⟨i, m, l, rfl, hi, hm, hv, hj⟩ := hrel
  have HM := hid hm
  have HV := hid hv
  have HJ := hid hj
  have hqq : Quiet0 w wr := by obtain ⟨_, _, _, _, _, _, _, h⟩ := hj; exact h
  have HQ := hid hqq
  clear hm hv hj hqq
  by_cases hlt : i < len
  ·have hlt' : (i : Int) < len := by omega
   obtain ⟨b, off, k1, n1, qs, o1, len1, cap1, rfl, hd, hg, e0, e1, e2, hs1⟩ := (HS.out.stay HQ.out).nth hlt
   obtain ⟨_, _, _, _, _, _, _, _, ho, hd', hg', _, _, f2, hs0⟩ := HS.out.nth hlt
   rw [hg] at hg'
   cases hg'
   cases ho
   have f2' := HQ.out.at f2
   rw [e2] at f2'
   cases f2'
   have hjb : VarsJ w (B + 1) (B + 1 + 1) B m l (wr.alloc (.cells #[.int .i64 k1, .int .i64 n1, .slice o1 len1 cap1] 24)) := by
    obtain ⟨vo, h1, h2, h3, h4, h5, h6, h7⟩ := HJ.out
    exact ⟨vo, h1.alloc _, h2.alloc _, h3.stay (Quiet0.alloc _ _), h4.alloc _, h5, h6, h7.trans (Quiet0.alloc _ _)⟩
   have hgn := allF_get f i k1 n1 qs HWF.out hg
   have HC := hid (HE.out k1 n1 qs m l _ o1 len1 cap1 hjb hs0 (by
    have := HM.out; rw [hd] at this; simp only [Fo.size] at this; omega) hgn.1 hgn.2)
   have HM2 : Hid (m + (qs.size + 1) + (f.drop (i + 1)).size = f.size) := by
    have := HM.out; rw [hd] at this; simp only [Fo.size] at this; show _ = _; omega
   have HV2 : Hid (Fo.vars (foldF varStep (varStep l k1 n1 qs) qs) (f.drop (i + 1)) = Fo.vars [] f) := by
    show _ = _
    rw [<- HV.out, hd, vars_fold, vars_cons]
   unfold tyv at HC
   clear hd hg hs1 hd' f2 hs0 hjb hgn
   go_wp2_with fail
   refine HC.out.mono ?_; rintro e w2 ⟨rfl, hj2⟩
   have HJ2 := hid hj2
   clear hj2
   go_wp2_with fail
   go_roundw
   case rel => exact ⟨i + 1, _, _, by go_num, by omega, HM2.out, HV2.out, HJ2.out⟩
   case measure => simp [intOf]; omega
  ·have hlt' : ¬ (i : Int) < len := by omega
   have hfin : Fo.vars [] f = l := by
    have := HV.out
    rw [Fo.drop_end f i (by have := HL.out; omega)] at this
    exact this.symm
   have HFIN := hid hfin
   obtain ⟨vo, h1, h2, h3, h4, h5, h6, h7⟩ := HJ.out
   have c2 := cell_of_one h2
   have H4 := hid h4
   have H5 := hid h5
   have H7 := hid h7
   clear h1 h2 h3 h4 h5 h6 h7 hfin
   go_wp2_with fail
   go_ret
   refine ⟨vo, rfl, ?_, H7.out⟩
   rw [HFIN.out]
   exact ⟨H4.out, fun g hg => by have := (H5.out g hg).1; omega⟩
end
section
open Go.RowKit Go.Maps
theorem vars_len : ∀ (f : Fo) (l : List Int), (Fo.vars l f).length <= l.length + f.size
 | .nil, l => by simp [Fo.vars, Fo.size]
 | .cons k n ps r, l => by
  rw [vars_cons]
  have h1 := vars_len r (Fo.vars (varStep l k n ps) ps)
  have h2 := vars_len ps (varStep l k n ps)
  have h3 : (varStep l k n ps).length <= l.length + 1 := by unfold varStep; split <;> simp
  simp only [Fo.size]; omega
theorem IntRow.at {B : Nat} {w : World} {vo : Value} {l : List Int} (h : IntRow B w vo l) : ∃ a c, vo = .slice a l.length c /\ l.length <= c /\ (∀ g, (Value.slice a l.length c).ownBlock = some g -> B <= g) /\ w.ownsRow 0 3 1 (.slice a l.length c) l.length (ints l) := by
 obtain ⟨h1, h2⟩ := h
 have h1' := h1
 rcases h1.2 with ⟨rfl, h0⟩ | ⟨g, cap, cur, rfl, _, _, hc, _⟩
 ·exact ⟨none, 0, by rw [h0], by omega, by rw [h0]; exact h2, by rw [h0]; rw [h0] at h1'; exact h1'⟩
 ·exact ⟨some ⟨g, 0, none⟩, cap, rfl, by omega, h2, h1'⟩
theorem row_int {w : World} {a : Option Addr} {n c : Nat} {l : List Int} (h : w.ownsRow 0 3 1 (.slice a n c) l.length (ints l)) {i : Nat} {x : Int} (hx : l[i]? = some x) : ∃ g, a = some ⟨g, 0, none⟩ /\ w.cell? ⟨g, i, none⟩ = some (.int .i64 x) := by
 rcases h.2 with ⟨he, h0⟩ | ⟨g, cap, cur, he, _⟩
 ·rw [List.length_eq_zero_iff.1 h0] at hx; simp at hx
 ·injection he with h1 h2 h3
  subst h1
  have := h.cells (g := g) rfl i (.int .i64 x) (by unfold ints; rw [List.getElem?_map, hx]; rfl)
  exact ⟨g, rfl, by simpa [Addr.add_lit] using this⟩
end
end Go.Proofs.YtcninopmelmajaaGreatDoor
