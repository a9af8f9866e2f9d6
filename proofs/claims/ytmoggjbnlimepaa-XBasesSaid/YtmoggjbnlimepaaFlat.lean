/- The walks of math/bits and of package flat's small functions, over this seat's translation. -/
import Derived.Test.YtmoggjbnlimepaaRows
import Derived.Test.YtmoggjbnlimepaaMem
import Derived.Test.YtmoggjbnlimepaaNum
import Derived.WalkSpells
import Derived.StillTactics
import Derived.Laws.Pointers
import Derived.Laws.CopyOwn
import Derived.Laws.AppendOwnNone
import Derived.Deep.RegionHeld3
import Derived.RowKit3
import Derived.BigQuiet
import Derived.Deep.QuietTactic
import Derived.Deep.LoopGhost
import Derived.Deep.DeepFit
import Derived.WalkLawsBesides
import Derived.Shelf.Spec.BitsCarry
namespace Go.Proofs.Ytmoggjbnlimepaa
open Go.RowKit

theorem infoU8 : (Try.prog.info? 5).map (fun i => (i.zero, i.size, i.bytes)) = some (some (.int .u8 0), 1, 1) := by kernel_rfl

/-! ### math/bits -/
/-- The sum's word and its carry. -/
def adds (x y c : Int) : Int := (x + y + c) % 18446744073709551616
def addc (x y c : Int) : Int := (x + y + c) / 18446744073709551616
def subs (x y c : Int) : Int := (x - y - c) % 18446744073709551616
def subc (x y c : Int) : Int := if x < y + c then 1 else 0
/-- A word. -/
structure Wd (x : Int) : Prop where
  lo : 0 ≤ x
  hi : x < 18446744073709551616
structure Cy (x : Int) : Prop where
  lo : 0 ≤ x
  hi : x ≤ 1
theorem Cy.zero : Cy 0 := ⟨by omega, by omega⟩
theorem adds_wd (x y c : Int) : Wd (adds x y c) := by unfold adds; exact ⟨by omega, by omega⟩
theorem addc_cy {x y c : Int} (hx : Wd x) (hy : Wd y) (hc : Cy c) : Cy (addc x y c) := by
  have := hx.lo; have := hx.hi; have := hy.lo; have := hy.hi; have := hc.lo; have := hc.hi; unfold addc; exact ⟨by omega, by omega⟩
theorem subs_wd (x y c : Int) : Wd (subs x y c) := by unfold subs; exact ⟨by omega, by omega⟩
theorem subc_cy (x y c : Int) : Cy (subc x y c) := by unfold subc; split <;> exact ⟨by omega, by omega⟩
theorem add64 {x y c : Int} (hx : Wd x) (hy : Wd y) (hc : Cy c) (w : World) : (callFunc 51 #[.int .u64 x, .int .u64 y, .int .u64 c]).run Try.prog w = .ok (.value (.tuple #[.int .u64 (adds x y c), .int .u64 (addc x y c)])) w := by
  rw [run_callFunc_extern Try.func51 (by kernel_rfl) (by kernel_rfl) (by kernel_rfl) (e := add64Entry) (by kernel_rfl), run_add64 x y c hx.lo hy.lo hc.lo hc.hi]; rfl

theorem wrapU {x : Int} : IntKind.u64.wrap x = x % 18446744073709551616 := IntKind.wrap_u64 x
theorem and32 {x : Int} (h : Wd x) : bits BinOp.and IntKind.u64 x 4294967295 = x % 4294967296 := by
  obtain ⟨x, rfl⟩ := Int.eq_ofNat_of_zero_le h.lo
  have h1 := h.hi
  rw [show (4294967295 : Int) = ((4294967295 : Nat) : Int) from rfl, u64_and_nat x 4294967295 (by omega) (by omega)]
  have e : x &&& 4294967295 = x % 4294967296 := Nat.and_two_pow_sub_one_eq_mod x 32
  rw [e]; omega
/-- A product of two numbers below a bound. -/
theorem mul_bd {a b m : Int} (ha : 0 ≤ a) (hb : 0 ≤ b) (ha' : a ≤ m) (hb' : b ≤ m) : 0 ≤ a * b ∧ a * b ≤ m * m :=
  ⟨Int.mul_nonneg ha hb, Int.mul_le_mul ha' hb' hb (by omega)⟩
theorem mul64_num {x y : Int} (hx : Wd x) (hy : Wd y) :
    IntKind.u64.wrap (IntKind.u64.wrap (IntKind.u64.wrap (x / 4294967296 * (y / 4294967296)) + IntKind.u64.wrap (IntKind.u64.wrap (x / 4294967296 * bits BinOp.and IntKind.u64 y 4294967295) + IntKind.u64.wrap (bits BinOp.and IntKind.u64 x 4294967295 * bits BinOp.and IntKind.u64 y 4294967295) / 4294967296) / 4294967296) +
      IntKind.u64.wrap (bits BinOp.and IntKind.u64 (IntKind.u64.wrap (IntKind.u64.wrap (x / 4294967296 * bits BinOp.and IntKind.u64 y 4294967295) + IntKind.u64.wrap (bits BinOp.and IntKind.u64 x 4294967295 * bits BinOp.and IntKind.u64 y 4294967295) / 4294967296)) 4294967295 + IntKind.u64.wrap (bits BinOp.and IntKind.u64 x 4294967295 * (y / 4294967296))) / 4294967296)
    = x * y / 18446744073709551616 := by
  have e := and32 (x := IntKind.u64.wrap (IntKind.u64.wrap (x / 4294967296 * bits BinOp.and IntKind.u64 y 4294967295) + IntKind.u64.wrap (bits BinOp.and IntKind.u64 x 4294967295 * bits BinOp.and IntKind.u64 y 4294967295) / 4294967296)) (by rw [wrapU]; exact ⟨by omega, by omega⟩)
  rw [e, and32 hx, and32 hy]
  simp only [wrapU]
  obtain ⟨hx0, hx1⟩ := hx; obtain ⟨hy0, hy1⟩ := hy
  have ex : x = x / 4294967296 * 4294967296 + x % 4294967296 := by omega
  have ey : y = y / 4294967296 * 4294967296 + y % 4294967296 := by omega
  have bx1 : 0 ≤ x / 4294967296 ∧ x / 4294967296 ≤ 4294967295 := by omega
  have bx0 : 0 ≤ x % 4294967296 ∧ x % 4294967296 ≤ 4294967295 := by omega
  have by1 : 0 ≤ y / 4294967296 ∧ y / 4294967296 ≤ 4294967295 := by omega
  have by0 : 0 ≤ y % 4294967296 ∧ y % 4294967296 ≤ 4294967295 := by omega
  generalize x / 4294967296 = x1 at *
  generalize x % 4294967296 = x0 at *
  generalize y / 4294967296 = y1 at *
  generalize y % 4294967296 = y0 at *
  have e2 : x * y = 18446744073709551616 * (x1 * y1) + 4294967296 * (x1 * y0) + 4294967296 * (x0 * y1) + x0 * y0 := by rw [ex, ey]; grind
  rw [e2]
  have b11 := mul_bd bx1.1 by1.1 bx1.2 by1.2
  have b10 := mul_bd bx1.1 by0.1 bx1.2 by0.2
  have b01 := mul_bd bx0.1 by1.1 bx0.2 by1.2
  have b00 := mul_bd bx0.1 by0.1 bx0.2 by0.2
  generalize x1 * y1 = p11 at *
  generalize x1 * y0 = p10 at *
  generalize x0 * y1 = p01 at *
  generalize x0 * y0 = p00 at *
  clear ex ey e e2
  omega
set_option maxHeartbeats 400000 in
theorem mul64_any {x y : Int} (hx : Wd x) (hy : Wd y) (w : World) : Calls Try.prog 50 #[.int .u64 x, .int .u64 y] w fun e w' => e = .returned (.tuple #[.int .u64 (x * y / 18446744073709551616), .int .u64 (x * y % 18446744073709551616)]) ∧ w = w' := by
  have H := Lib.hid (mul64_num hx hy)
  obtain ⟨hx0, hx1⟩ := hx; obtain ⟨hy0, hy1⟩ := hy
  go_enter Try.func50, Try.ntmps50
  go_wp2
  go_ret2
  refine ⟨?_, rfl⟩
  rw [H.out, wrapU]; rfl

def mhi (x y : Int) : Int := x * y / 18446744073709551616
def mlo (x y : Int) : Int := x * y % 18446744073709551616
theorem mul64_o {x y : Int} (hx : Wd x) (hy : Wd y) (w : World) : Calls Try.prog 50 #[.int .u64 x, .int .u64 y] w fun e w' => e = .returned (.tuple #[.int .u64 (mhi x y), .int .u64 (mlo x y)]) ∧ w = w' := mul64_any hx hy w
theorem mlo_wd (x y : Int) : Wd (mlo x y) := by unfold mlo; exact ⟨by omega, by omega⟩

/-! ### package flat -/
/-- An append of bytes to a slice of the call's own. -/
theorem app_bytes (w : World) {ops : Array Oper} {rest : List Oper} {o : Oper} {a : Act} {Q : Exit → Act → World → Prop} (hgd : o.guard = none) (s x : Operand)
    (ho : o.op = .call { callee := .builtin .append, args := #[s, x], argTypes := #[22, 22] }) (base : Nat) (v : Value) (n : Nat) (l : List UInt8) (hs : a.eval s = v) (hown : w.ownsRow base 5 1 v n (l.map bV))
    (sa : Option Addr) (m sc : Nat) (r : List UInt8) (hx : a.eval x = .slice sa m sc) (hr : RdB w sa m sc r) (hlen : n + m ≤ 70368744177664) (hbase : base ≤ w.heap.size) (w0 : World) (hb0 : Below base w0 w)
    (h : ∀ v' w', w'.ownsRow base 5 1 v' (n + m) ((l ++ r).map bV) → Below base w0 w' → wpList Try.prog ops Q rest (a.put o.dst v') w') : wpList Try.prog ops Q (o :: rest) a w := by
  obtain ⟨i0, hi, hz0, hz1, hz2⟩ := info_parts (show (Try.prog.info? 5).map (fun i => (i.zero, i.size, i.bytes)) = some (some (.int .u8 0), 1, 1) from by kernel_rfl)
  cases sa with
  | none =>
    obtain rfl := hr.hnil rfl
    obtain rfl : m = 0 := by have := hr.hcap; omega
    obtain rfl : r = [] := List.eq_nil_of_length_eq_zero hr.hlen
    refine wpList_append_own_none hgd s x 22 ho base 5 i0 1 Try.underlying22 hi v n (l.map bV) hs hown hx ?_
    exact h v w (by simpa using hown) hb0
  | some ad =>
    refine wpList_append_own w hgd s x 22 ho base 5 i0 (.int .u8 0) 1 1 Try.underlying22 hi hz0 hz1 hz2 rfl (by decide) v n (l.map bV) hs hown ad m sc (r.map bV) hx (by simp [hr.hlen]) ?_ ?_ (by unfold maxLen; omega) (by omega) hbase ?_
    · intro j u hu
      obtain ⟨hj, hv⟩ := List.getElem?_eq_some_iff.1 hu
      simp at hj
      obtain ⟨b, q, hab, hc⟩ := hr.get j hj
      simp at hab
      subst hab
      rw [show Addr.add ⟨b, q, none⟩ j = ⟨b, q + j, none⟩ from by unfold Addr.add; split <;> simp_all, hc, ← hv]
      simp
    · intro u hu
      simp at hu
      obtain ⟨c, _, rfl⟩ := hu
      rfl
    · intro v' w' hown' hgr _
      rw [← List.map_append] at hown'
      refine h v' w' hown' (hb0.grown hgr hbase fun q hq => ?_)
      rcases hown.2 with ⟨h, _⟩ | ⟨g, cap, cur, hv, hg, _⟩
      · rw [h] at hq; simp [Value.ownBlock] at hq
      · rw [hv] at hq; simp [Value.ownBlock] at hq; omega
/-- So many bytes, with noughts for those that are wanting. -/
def first (l : List UInt8) (k : Nat) : List UInt8 := l.take k ++ List.replicate (k - l.length) 0
theorem first_len (l : List UInt8) (k : Nat) : (first l k).length = k := by unfold first; simp; omega

theorem bV_one (l : List UInt8) : ∀ v ∈ l.map bV, v.oneCell' = true := by intro v hv; simp at hv; obtain ⟨c, _, rfl⟩ := hv; rfl

theorem leN_first (l : List UInt8) (k : Nat) : leN (first l k) = leN (l.take k) := by
  unfold first; rw [leN_append, leN_zeros]; omega
/-- Noughts; what is copied. (Plain definitions: the walk's simp does not look into them.) -/
def zer (k : Nat) : List Value := (List.replicate k (0 : UInt8)).map bV
def cpy (l : List UInt8) (n : Nat) : List Value := (l.take n).map bV
theorem zer_len (k : Nat) : (zer k).length = k := by simp [zer]
theorem cpy_len (l : List UInt8) (n : Nat) : (cpy l n).length = min n l.length := by simp [cpy]
theorem cpy_one (l : List UInt8) (n : Nat) : ∀ v ∈ cpy l n, v.oneCell' = true := bV_one _
theorem madeU8 (k : Nat) : (madeCells #[Value.int .u8 0] k).toList = zer k := by
  apply List.ext_getElem
  · simp [size_madeCells, zer]
  · intro i h1 h2
    simp [madeCells, bV, Nat.mod_one, zer]
theorem splice_first (l : List UInt8) (k n : Nat) (hn : l.length = n) : splice (zer k) 0 (cpy l (Nat.min n k)) = (first l k).map bV := by
  unfold splice first zer cpy
  subst hn
  rw [show (Nat.min l.length k) = min l.length k from rfl]
  simp only [List.take_zero, List.nil_append, Nat.zero_add, ← List.map_drop, ← List.map_append, List.length_map, List.length_take, List.drop_replicate]
  congr 2
  · rw [Nat.min_comm, ← List.take_take, List.take_length]
  · congr 1; omega
theorem addr_add (b o j : Nat) : Addr.add ⟨b, o, none⟩ j = ⟨b, o + j, none⟩ := by
  unfold Addr.add; split
  · rename_i h; subst h; rfl
  · rfl
/-- Where bytes lie that are copied. -/
theorem RdB.src {w : World} {a : Option Addr} {n cap : Nat} {l : List UInt8} (h : RdB w a n cap l) (m : Nat) (hpos : 0 < (cpy l m).length) :
    ∃ ad, a = some ad ∧ ∀ j v, (cpy l m)[j]? = some v → w.cell? (ad.add j) = some v := by
  rcases h.cases with ⟨h0, h0'⟩ | ⟨b, o, hn0, ha, hc⟩
  · subst h0'; simp [cpy] at hpos
  · refine ⟨⟨b, o, none⟩, ha, fun j v hv => ?_⟩
    unfold cpy at hv
    obtain ⟨hj, hv⟩ := List.getElem?_eq_some_iff.1 hv
    simp at hj
    rw [addr_add, hc j (by omega), ← hv]
    simp
theorem infoSz : (Try.prog.info? 5).map (·.size) = some 1 := by kernel_rfl

set_option maxHeartbeats 400000 in
theorem first_any {a : Option Addr} {n cap : Nat} {l : List UInt8} (k : Nat) (hk : k ≤ 1000) (w : World) (h : RdB w a n cap l) :
    Calls Try.prog 28 #[.slice a n cap, .int .i64 k] w fun e w' => e = .returned (.slice (some ⟨w.heap.size, 0, none⟩) k k) ∧ Blk w' w.heap.size ((first l k).map bV) 5 ∧ Below w.heap.size w w' := by
  obtain ⟨i0, hi, hz0, hz1, hz2⟩ := info_parts infoU8
  have hkk : k ≤ maxLen := by unfold maxLen; omega
  have hgl := Lib.hid h.hlen
  go_enter Try.func28, Try.ntmps28
  go_wp2_with (at_make; refine wpList_make_full _ rfl _ _ 22 rfl w.heap.size 5 i0 (.int .u8 0) 1 Try.underlying22 hi hz0 hz1 .i64 .i64 _ _ k rfl rfl rfl rfl ?_ hkk (Nat.le_refl _) ?_)
  · rw [hz2]; omega
  · intro w1 hown hgr
    have hB := Blk.own hown
    have hb1 : Below w.heap.size w w1 := (Below.refl _ _).grown hgr (Nat.le_refl _) (by simp)
    rw [madeU8 k] at hB
    clear hown hgr hi hz0 hz1 hz2
    have h1 := h.below hb1
    go_wp2_with (refine wpList_copy_splice rfl (.tmp 8) (.tmp 9) 22 22 rfl 5 Try.underlying22 infoSz _ _ _ _ _ _ rfl rfl w.heap.size 0 (zer k) 5 hB (cpy l (Nat.min n k)) ?_ ?_ ?_ (cpy_one _ _) w.heap.size w hb1 (Nat.le_refl _) ?_)
    · rw [cpy_len, hgl.out]; show min (min n k) n = min n k; omega
    · exact fun hpos => h1.src _ hpos
    · rw [zer_len, cpy_len]; show 0 + min (min n k) l.length ≤ k; omega
    · intro w2 hB2 hb2
      have hB3 : Hid (Blk w2 w.heap.size ((first l k).map bV) 5) := by
        rw [splice_first l k n hgl.out] at hB2; exact hB2
      clear hB2
      go_wp2
      go_ret
      exact ⟨rfl, hB3.out, hb2⟩

theorem wrap8 (x : Int) : IntKind.u8.wrap x = x % 256 := by simp [IntKind.wrap, IntKind.bits, IntKind.signed]
theorem make8 (w : World) : (Instr.makeSlice 22 (.int .i64 8) (.int .i64 8)).run Try.prog w = .ok (.slice (some ⟨w.heap.size, 0, none⟩) 8 8) (w.alloc (.cells #[.int .u8 0, .int .u8 0, .int .u8 0, .int .u8 0, .int .u8 0, .int .u8 0, .int .u8 0, .int .u8 0] 5)) := by kernel_rfl
theorem le64_cells (n : Nat) (hn : n < 18446744073709551616) : (leB 8 n).map bV = [.int .u8 ((n : Int) % 256), .int .u8 ((n : Int) / 256 % 256), .int .u8 ((n : Int) / 65536 % 256), .int .u8 ((n : Int) / 16777216 % 256), .int .u8 ((n : Int) / 4294967296 % 256),
    .int .u8 ((n : Int) / 1099511627776 % 256), .int .u8 ((n : Int) / 281474976710656 % 256), .int .u8 ((n : Int) / 72057594037927936)] := by
  have h : n / 72057594037927936 % 256 = n / 72057594037927936 := by omega
  simp [leB, bV, List.range, List.range.loop]
  omega
set_option maxHeartbeats 400000 in
theorem little_any {n : Nat} (hn : n < 18446744073709551616) (w : World) :
    Calls Try.prog 45 #[.int .u64 n] w fun e w' => e = .returned (.slice (some ⟨w.heap.size, 0, none⟩) 8 8) ∧ Blk w' w.heap.size ((leB 8 n).map bV) 5 ∧ Below w.heap.size w w' := by
  have hn0 : (0 : Int) ≤ (n : Int) := by omega
  have hn1 : (n : Int) < 18446744073709551616 := by omega
  have hmk := make8
  go_enter Try.func45, Try.ntmps45
  go_wp2
  refine wp_loop_rounds 9 ?_
  iterate 9 (rw [rounds_succ]; go_wp2)
  go_ret
  refine ⟨rfl, ?_, (Below.refl _ _).alloc (Nat.le_refl _) _⟩
  rw [le64_cells n hn]
  exact Blk.new w _ _

/-! ### slices.Equal over bytes -/
theorem eq_snoc {l m : List UInt8} (k : Nat) (hl : k < l.length) (hm : k < m.length) (h : l.take k = m.take k) (e : l[k] = m[k]) : l.take (k + 1) = m.take (k + 1) := by
  rw [List.take_succ_eq_append_getElem hl, List.take_succ_eq_append_getElem hm, h, e]
set_option maxHeartbeats 400000 in
theorem slEqual_any {a b : Option Addr} {n m cap cap' : Nat} {l r : List UInt8} (w : World) (hl : RdB w a n cap l) (hr : RdB w b m cap' r) :
    Calls Try.prog 37 #[.slice a n cap, .slice b m cap'] w fun e w' => e = .returned (.bool (decide (l = r))) ∧ Below w.heap.size w w' := by
  by_cases hnm : n = m
  · subst hnm
    have HL := Lib.hid hl.hlen; have HR := Lib.hid hr.hlen
    rcases hl.cases with ⟨h0, h1⟩ | ⟨ba, oa, hn0, rfl, hca⟩
    · subst h0 h1
      obtain rfl : r = [] := List.eq_nil_of_length_eq_zero HR.out
      go_enter Try.func37, Try.ntmps37
      go_wp2
      refine wp_loop_rounds 1 ?_
      rw [rounds_succ]
      go_wp2
      go_ret
      exact ⟨rfl, Below.refl _ _⟩
    · rcases hr.cases with ⟨h0, h1⟩ | ⟨bb, ob, _, rfl, hcb⟩
      · omega
      · have hm63 : (n : Int) ≤ 9223372036854775807 := by have := hl.hcap; have := hl.hmax; unfold maxLen at *; omega
        clear hl hr
        go_enter Try.func37, Try.ntmps37
        go_wp2
        go_loopw [13] (fun i wr => ∃ k : Nat, k ≤ n ∧ i = .int .i64 k ∧ l.take k = r.take k ∧ Below w.heap.size w wr) (fun i _ => n - (intOf i).toNat)
        case atStart => exact ⟨0, Nat.zero_le _, rfl, by simp, Below.refl _ _⟩
        case round =>
          obtain ⟨k, hk, rfl, htk, hbel⟩ := hrel
          by_cases hlt : k < n
          · have hkl : k < l.length := by rw [HL.out]; exact hlt
            have hkr : k < r.length := by rw [HR.out]; exact hlt
            have c1 : wr.cell? ⟨ba, oa + k, none⟩ = some (.int .u8 (l[k].toNat : Int)) := by have := hca k hkl; rw [hbel.cell (cell_lt this)]; exact this
            have c2 : wr.cell? ⟨bb, ob + k, none⟩ = some (.int .u8 (r[k].toNat : Int)) := by have := hcb k hkr; rw [hbel.cell (cell_lt this)]; exact this
            have HT := Lib.hid htk; clear htk
            clear hca hcb
            by_cases he : l[k] = r[k]
            · have HE := Lib.hid (eq_snoc k hkl hkr HT.out he)
              have hz : ((l[k].toNat : Int) != (r[k].toNat : Int)) = false := by rw [he]; simp
              clear he
              generalize (l[k].toNat : Int) = x at *
              generalize (r[k].toNat : Int) = y at *
              go_wp2
              go_quiet (fail)
              go_wp2
              go_roundw
              case rel => exact ⟨k + 1, by omega, by go_num, HE.out, by repeat (first | exact hbel | apply Below.drew | apply below_drewN)⟩
              case measure => simp [intOf]; omega
            · have HE : Hid (decide (l = r) = false) := Lib.hid (by simp; intro h; subst h; exact he rfl)
              have hz : ((l[k].toNat : Int) != (r[k].toNat : Int)) = true := by
                simp; intro h; exact he (UInt8.toNat_inj.1 (by omega))
              clear he
              generalize (l[k].toNat : Int) = x at *
              generalize (r[k].toNat : Int) = y at *
              go_wp2
              go_quiet (fail)
              go_wp2
              go_ret
              exact ⟨by rw [HE.out]; rfl, by repeat (first | exact hbel | apply Below.drew | apply below_drewN)⟩
          · have hkn : k = n := by omega
            have HE : Hid (decide (l = r) = true) := Lib.hid (by simp; rw [← List.take_of_length_le (show l.length ≤ k by rw [HL.out]; omega), htk, List.take_of_length_le (by rw [HR.out]; omega)])
            clear htk hkn hca hcb
            go_wp2
            go_ret
            exact ⟨by rw [HE.out]; rfl, hbel⟩
  · have HE : Hid (decide (l = r) = false) := Lib.hid (by simp; intro h; subst h; exact hnm (hl.hlen.symm.trans hr.hlen))
    have hz : ((n : Int) != (m : Int)) = true := by simp; omega
    clear hl hr
    go_enter Try.func37, Try.ntmps37
    go_wp2
    go_ret
    exact ⟨by rw [HE.out]; rfl, Below.refl _ _⟩
set_option maxHeartbeats 400000 in
theorem equal_any {a b : Option Addr} {n m cap cap' : Nat} {l r : List UInt8} (w : World) (hl : RdB w a n cap l) (hr : RdB w b m cap' r) :
    Calls Try.prog 20 #[.slice a n cap, .slice b m cap'] w fun e w' => e = .returned (.bool (decide (l = r))) ∧ Below w.heap.size w w' := by
  go_enter Try.func20, Try.ntmps20
  go_wp2_with (go_at_call 37; refine (slEqual_any _ hl hr).mono ?_; rintro e w' ⟨rfl, hb⟩)
  go_ret
  exact ⟨rfl, hb⟩
def wV (n i : Nat) : Value := .int .u64 (lw n i : Nat)
theorem row4 (f : Nat → Value) : row 4 f = [f 0, f 1, f 2, f 3] := rfl
theorem wV0 (i : Nat) : wV 0 i = .int .u64 0 := by unfold wV lw; rw [Nat.zero_div]; rfl
theorem or_byteI (x k c : Nat) (ci : Int) (hci : ci = (c : Int)) (hx : x < 256 ^ k) (hc : c < 256) :
    bits BinOp.or IntKind.u64 (lw x (k / 8) : Nat) (IntKind.u64.wrap (ci * 2 ^ (8 * (k % 8)))) = (lw (x + c * 256 ^ k) (k / 8) : Nat) := by
  subst hci
  have h1 : c * 2 ^ (8 * (k % 8)) < 18446744073709551616 := by
    have h2 : 2 ^ (8 * (k % 8)) ≤ 2 ^ 56 := Nat.pow_le_pow_right (by omega) (by omega)
    have h3 : c * 2 ^ (8 * (k % 8)) ≤ 255 * 2 ^ 56 := Nat.mul_le_mul (by omega) h2
    omega
  have e : (c : Int) * 2 ^ (8 * (k % 8)) = ((c * 2 ^ (8 * (k % 8)) : Nat) : Int) := by simp
  rw [e, wrapU, show ((c * 2 ^ (8 * (k % 8)) : Nat) : Int) % 18446744073709551616 = ((c * 2 ^ (8 * (k % 8)) : Nat) : Int) from by omega, u64_or_nat _ _ (lw_lt _ _) h1, or_byte x k c hx hc]
end Go.Proofs.Ytmoggjbnlimepaa
