/- The walks of slices.Grow, slices.Concat over bytes, and of flat.Cat. -/
import Derived.Test.YtmoggjbnlimepaaFlat
import Derived.Lib.AppendZerosOnto
import Derived.Lib.SliceRun
namespace Go.Proofs.Ytmoggjbnlimepaa
open Go.RowKit

/-- The slice (a, n, cap) holds slices that read as the rows ls. -/
structure RdRows (w : World) (a : Option Addr) (n cap : Nat) (ls : List (List UInt8)) : Prop where
  hlen : ls.length = n
  hcap : n ≤ cap
  hmax : cap ≤ maxLen
  get : ∀ i (h : i < ls.length), ∃ b o sa sn sc, a = some ⟨b, o, none⟩ ∧ w.cell? ⟨b, o + i, none⟩ = some (.slice sa sn sc) ∧ RdB w sa sn sc ls[i]
theorem RdRows.below {w w' : World} {a : Option Addr} {n cap : Nat} {ls : List (List UInt8)} (h : RdRows w a n cap ls) (hb : Below w.heap.size w w') : RdRows w' a n cap ls := by
  refine ⟨h.hlen, h.hcap, h.hmax, fun i hi => ?_⟩
  obtain ⟨b, o, sa, sn, sc, ha, hc, hr⟩ := h.get i hi
  exact ⟨b, o, sa, sn, sc, ha, by rw [hb.cell (cell_lt hc)]; exact hc, hr.below hb⟩
theorem RdRows.cases {w : World} {a : Option Addr} {n cap : Nat} {ls : List (List UInt8)} (h : RdRows w a n cap ls) :
    (n = 0 ∧ ls = []) ∨ ∃ b o, 0 < n ∧ a = some ⟨b, o, none⟩ ∧ ∀ i (hi : i < ls.length), ∃ sa sn sc, w.cell? ⟨b, o + i, none⟩ = some (.slice sa sn sc) ∧ RdB w sa sn sc ls[i] := by
  by_cases h0 : n = 0
  · exact .inl ⟨h0, List.eq_nil_of_length_eq_zero (by rw [h.hlen, h0])⟩
  · obtain ⟨b, o, _, _, _, ha, _, _⟩ := h.get 0 (by have := h.hlen; omega)
    refine .inr ⟨b, o, by omega, ha, fun i hi => ?_⟩
    obtain ⟨b', o', sa, sn, sc, ha', hc, hr⟩ := h.get i hi
    rw [ha] at ha'
    simp at ha'
    obtain ⟨rfl, rfl⟩ := ha'
    exact ⟨sa, sn, sc, hc, hr⟩
/-- How many bytes the first k rows have. -/
def lens (ls : List (List UInt8)) (k : Nat) : Nat := (ls.take k).flatten.length
theorem lens_zero (ls : List (List UInt8)) : lens ls 0 = 0 := rfl
theorem lens_succ (ls : List (List UInt8)) (k : Nat) (h : k < ls.length) : lens ls (k + 1) = lens ls k + ls[k].length := by
  unfold lens; rw [List.take_succ_eq_append_getElem h, List.flatten_append, List.length_append, List.flatten_singleton]
theorem flat_succ (ls : List (List UInt8)) (k : Nat) (h : k < ls.length) : (ls.take (k + 1)).flatten = (ls.take k).flatten ++ ls[k] := by
  rw [List.take_succ_eq_append_getElem h, List.flatten_append, List.flatten_singleton]
theorem lens_le (ls : List (List UInt8)) (k : Nat) : lens ls k ≤ ls.flatten.length := by
  unfold lens
  conv => rhs; rw [← List.take_append_drop k ls, List.flatten_append, List.length_append]
  omega
set_option maxHeartbeats 4000000 in
theorem grow_any (n : Nat) (hn : n ≤ 70368744177664) (w : World) :
    Calls Try.prog 54 #[.slice none 0 0, .int .i64 n] w fun e w' => ∃ v, e = .returned v ∧ w'.ownsRow w.heap.size 5 1 v 0 [] ∧ Below w.heap.size w w' := by
  obtain ⟨i0, hi, hz0, hz1, hz2⟩ := info_parts infoU8
  by_cases h0 : n = 0
  · subst h0
    go_enter Try.func54, Try.ntmps54
    go_wp2
    go_ret
    exact ⟨_, rfl, World.ownsRow_nil _ _ _ _, Below.refl _ _⟩
  · have h1 : ¬ ((n : Int) < 0) := by omega
    have h4 : (n : Int) > 0 := by omega
    have hrz : ∀ ty, (Builtin.append_ #[22, 3] ty #[.slice none 0 0, .int .i64 (n : Int)]).run Try.prog w =
        .ok (.slice (some ⟨w.heap.size, 0, none⟩) n (grownCap w n 0 5)) (w.drew.alloc (.cells (([] : List Value).toArray ++ Builtin.zeroCells (Value.int .u8 0).cells n ++ Builtin.zeroCells (Value.int .u8 0).cells (grownCap w n 0 5 - n)) 5)) := fun ty => by
      have h := Lib.run_append_grow_zeros w 22 3 ty 5 i0 (.int .u8 0) .i64 .i64 Try.underlying22 Try.underlying3 hi hz0 none 0 0 [] (run_firstCells_none w.drew i0.size 0 0 0) n (by omega) (by omega) (by omega) (by omega)
        (by rw [hz2]; omega)
        (by rw [Nat.zero_add]; exact growslice_fits (by omega) (by rw [hz2]; omega))
      rw [Nat.zero_add] at h
      exact h
    have hGn : n ≤ grownCap w n 0 5 := grownCap_ge w _ _ _
    obtain ⟨G, hG⟩ : ∃ G, G = grownCap w n 0 5 := ⟨_, rfl⟩
    rw [← hG] at hrz hGn
    have hGm : G ≤ maxLen := by
      have := grownCap_le_maxLen w n 0 5 (by unfold maxLen; omega)
      rw [← hG] at this; exact this
    have hG63 : G ≤ 9223372036854775807 := by unfold maxLen at hGm; omega
    obtain ⟨O, hO⟩ : ∃ O, O = Obj.cells (([] : List Value).toArray ++ Builtin.zeroCells (Value.int .u8 0).cells n ++ Builtin.zeroCells (Value.int .u8 0).cells (G - n)) 5 (0, 0) := ⟨_, rfl⟩
    rw [← hO] at hrz
    have hown : World.ownsRow (w.alloc O).drew w.heap.size 5 1 (.slice (some ⟨w.heap.size, 0, none⟩) 0 G) 0 [] := by
      rw [hO]
      refine World.ownsRow_made w.drew _ G (Nat.le_refl _) hGm ?_
      simp [size_zeroCells, Value.cells]; omega
    have HO := Lib.hid hown
    clear hG hown hi hz0 hz1 hz2 hGm hO
    go_enter Try.func54, Try.ntmps54
    go_wp2_with (at_builtin; refine Lib.wpList_append_run _ rfl _ _ _ _ rfl _ _ rfl rfl _ _ (hrz _) ?_)
    all_goals (go_ret; exact ⟨_, rfl, HO.out, (by repeat (first | (with_reducible refine Below.alloc' ?_ _) | (with_reducible refine Below.drew ?_) | (with_reducible refine below_drewN ?_ _) | ((with_reducible refine Below.setCell ?_ ?_ _); rotate_left; (focus (first | exact Nat.le_refl _ | (simp; done) | (simp; omega)))) | (with_reducible assumption) | (with_reducible exact Below.refl _ _)))⟩)
set_option maxHeartbeats 4000000 in
theorem concat_any {a : Option Addr} {n cap : Nat} {ls : List (List UInt8)} (w : World) (h : RdRows w a n cap ls) (hs : ls.flatten.length ≤ 70368744177664) :
    Calls Try.prog 52 #[.slice a n cap] w fun e w' => ∃ v, e = .returned v ∧ w'.ownsRow w.heap.size 5 1 v ls.flatten.length (ls.flatten.map bV) ∧ Below w.heap.size w w' := by
  have HL := Lib.hid h.hlen
  have HS := Lib.hid hs
  have hm63 : (n : Int) ≤ 9223372036854775807 := by have := h.hcap; have := h.hmax; unfold maxLen at *; omega
  have HR := Lib.hid h
  clear h
  go_enter Try.func52, Try.ntmps52
  go_wp2
  go_loopw [3, 11] (fun s i wr => ∃ k : Nat, k ≤ n ∧ i = .int .i64 k ∧ s = .int .i64 (lens ls k : Nat) ∧ Below w.heap.size w wr) (fun _ i _ => n - (intOf i).toNat)
  case atStart => exact ⟨0, by omega, rfl, rfl, Below.refl _ _⟩
  case round =>
    obtain ⟨k, hk, rfl, rfl, hbel⟩ := hrel
    by_cases hlt : k < n
    · rcases HR.out.cases with ⟨h0, _⟩ | ⟨b, o, _, rfl, hget⟩
      · omega
      · have hkl : k < ls.length := by rw [HL.out]; exact hlt
        obtain ⟨sa, sn, sc, hc, hr⟩ := hget k hkl
        have hc2 : wr.cell? ⟨b, o + k, none⟩ = some (.slice sa sn sc) := by rw [hbel.cell (cell_lt hc)]; exact hc
        have e1 := lens_succ ls k hkl
        rw [hr.hlen] at e1
        have h2 := lens_le ls (k + 1)
        have hsum : lens ls k + sn ≤ 70368744177664 := by have := HS.out; omega
        have HE := Lib.hid e1
        have hcp := hr.hcap
        have hsn : sn ≤ 70368744177664 := by omega
        clear h2 e1 hc hr hget
        generalize lens ls k = s at *
        have hw : IntKind.i64.wrap ((s : Int) + (sn : Int)) = ((s + sn : Nat) : Int) := by rw [IntKind.wrap_i64]; omega
        have hpos : decide (((s + sn : Nat) : Int) < 0) = false := by simp; omega
        go_wp2
        go_roundw
        case rel => exact ⟨k + 1, by omega, by go_num, by rw [HE.out, Int.natCast_add], (by repeat (first | (with_reducible refine Below.alloc' ?_ _) | (with_reducible refine Below.drew ?_) | (with_reducible refine below_drewN ?_ _) | ((with_reducible refine Below.setCell ?_ ?_ _); rotate_left; (focus (first | exact Nat.le_refl _ | (simp; done) | (simp; omega)))) | (with_reducible assumption) | (with_reducible exact Below.refl _ _)))⟩
        case measure => simp [intOf]; omega
    · obtain rfl : k = n := by omega
      have HT : Hid (lens ls k = ls.flatten.length) := Lib.hid (by unfold lens; rw [List.take_of_length_le (by rw [HL.out]; omega)])
      obtain ⟨wo, rfl⟩ : ∃ wo : World, wo = wr := ⟨_, rfl⟩
      have HS2 : Hid (lens ls k ≤ 70368744177664) := Lib.hid (by rw [HT.out]; exact HS.out)
      go_wp2_with (go_at_call 54; go_must (refine (grow_any _ HS2.out _).mono ?_; rintro e w1 ⟨v, rfl, hown, hb⟩; have hbel1 := Below.call hbel hb; have hown1 : World.ownsRow w1 w.heap.size 5 1 v (lens ls 0) ((ls.take 0).flatten.map bV) := ⟨hown.1, by rcases hown.2 with h | ⟨g, c, cur, h1, h2, h3⟩; exact .inl h; exact .inr ⟨g, c, cur, h1, Nat.le_trans hbel.size h2, h3⟩⟩; clear hown hb))
      clear hlt
      go_loopw [6, 27] (fun s i wr => ∃ j : Nat, j ≤ k ∧ i = .int .i64 j ∧ wr.ownsRow w.heap.size 5 1 s (lens ls j) ((ls.take j).flatten.map bV) ∧ Below w.heap.size w wr) (fun _ i _ => k - (intOf i).toNat)
      case atStart => exact ⟨0, by omega, rfl, hown1, hbel1⟩
      case round =>
        clear hown1 hbel1 hbel
        obtain ⟨j, hj, rfl, hown, hbel⟩ := hrel
        by_cases hlt : j < k
        · rcases HR.out.cases with ⟨h0, _⟩ | ⟨b, o, _, rfl, hget⟩
          · omega
          · have hkl : j < ls.length := by rw [HL.out]; exact hlt
            obtain ⟨sa, sn, sc, hc, hr⟩ := hget j hkl
            have hc2 : wr.cell? ⟨b, o + j, none⟩ = some (.slice sa sn sc) := by rw [hbel.cell (cell_lt hc)]; exact hc
            have e1 := lens_succ ls j hkl
            rw [hr.hlen] at e1
            have h2 := lens_le ls (j + 1)
            have hsum : lens ls j + sn ≤ 70368744177664 := by have := HS.out; omega
            have HE := Lib.hid e1
            have HF := Lib.hid (flat_succ ls j hkl)
            have HRD := Lib.hid (hr.below hbel)
            clear h2 e1 hc hr hget
            go_wp2_with (at_builtin; refine app_bytes _ rfl (.tmp 31) (.tmp 32) rfl w.heap.size _ (lens ls j) ((ls.take j).flatten) rfl hown sa sn sc ls[j] rfl HRD.out hsum hbel.size w hbel ?_; intro v' w2 hown2 hbel2; have HO2 : Hid (w2.ownsRow w.heap.size 5 1 v' (lens ls (j + 1)) ((ls.take (j + 1)).flatten.map bV)) := Lib.hid (by rw [HE.out, HF.out]; exact hown2); clear hown2)
            go_roundw
            case rel => exact ⟨j + 1, by omega, by go_num, HO2.out, hbel2⟩
            case measure => simp [intOf]; omega
        · obtain rfl : j = k := by omega
          have hO := Lib.hid (show wr.ownsRow w.heap.size 5 1 _ ls.flatten.length (ls.flatten.map bV) from by
            have := hown
            rw [HT.out, List.take_of_length_le (by rw [HL.out]; omega)] at this; exact this)
          clear hown
          go_wp2
          go_ret
          exact ⟨_, rfl, hO.out, hbel⟩
set_option maxHeartbeats 4000000 in
theorem cat_any {a : Option Addr} {n cap : Nat} {ls : List (List UInt8)} (w : World) (h : RdRows w a n cap ls) (hs : ls.flatten.length ≤ 70368744177664) :
    Calls Try.prog 44 #[.slice a n cap] w fun e w' => ∃ v, e = .returned v ∧ w'.ownsRow w.heap.size 5 1 v ls.flatten.length (ls.flatten.map bV) ∧ Below w.heap.size w w' := by
  go_enter Try.func44, Try.ntmps44
  go_wp2_with (go_at_call 52; go_must (refine (concat_any _ h hs).mono ?_; rintro e w1 ⟨v, rfl, ho, hb⟩; have HO := Lib.hid ho; clear ho))
  go_ret
  exact ⟨_, rfl, HO.out, hb⟩
/-- Slices that read as rows. -/
inductive Rows (w : World) : List Value → List (List UInt8) → Prop
  | nil : Rows w [] []
  | cons {sa : Option Addr} {sn sc : Nat} {l : List UInt8} {cs : List Value} {ls : List (List UInt8)} : RdB w sa sn sc l → Rows w cs ls → Rows w (.slice sa sn sc :: cs) (l :: ls)
theorem Rows.len {w : World} {cs : List Value} {ls : List (List UInt8)} (h : Rows w cs ls) : cs.length = ls.length := by
  induction h with
  | nil => rfl
  | cons _ _ ih => simp [ih]
theorem Rows.get {w : World} {cs : List Value} {ls : List (List UInt8)} (h : Rows w cs ls) : ∀ i (hi : i < ls.length), ∃ sa sn sc, cs[i]? = some (.slice sa sn sc) ∧ RdB w sa sn sc ls[i] := by
  induction h with
  | nil => intro i hi; simp at hi
  | cons h1 _ ih =>
    intro i hi
    cases i with
    | zero => exact ⟨_, _, _, rfl, h1⟩
    | succ i => obtain ⟨sa, sn, sc, h2, h3⟩ := ih i (by simpa using hi); exact ⟨sa, sn, sc, by simpa using h2, by simpa using h3⟩
theorem RdRows.blk {w : World} {g E n : Nat} {cs : List Value} {ls : List (List UInt8)} (h : Blk w g cs E) (hr : Rows w cs ls) (hn : ls.length = n) (hm : n ≤ maxLen) : RdRows w (some ⟨g, 0, none⟩) n n ls :=
  ⟨hn, Nat.le_refl _, hm, fun i hi => by
    obtain ⟨sa, sn, sc, h2, h3⟩ := hr.get i hi
    exact ⟨g, 0, sa, sn, sc, rfl, by rw [Nat.zero_add, h.cell]; exact h2, h3⟩⟩
end Go.Proofs.Ytmoggjbnlimepaa
