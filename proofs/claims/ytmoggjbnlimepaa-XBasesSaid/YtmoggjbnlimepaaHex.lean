/- The document's Unhex: bytes out of their digits. -/
import Derived.Test.YtmoggjbnlimepaaFlat
namespace Go.Proofs.Ytmoggjbnlimepaa
open Go.RowKit

/-- A digit's value. -/
def hexd (c : UInt8) : Nat := if c.toNat ≤ 57 then c.toNat - 48 else c.toNat - 87
def hexc (c : UInt8) : Bool := (decide (48 ≤ c.toNat) && decide (c.toNat ≤ 57)) || (decide (97 ≤ c.toNat) && decide (c.toNat ≤ 102))
/-- The digits s are those of the bytes l. -/
def hexB : List UInt8 → List UInt8 → Bool
  | [], [] => true
  | a :: b :: s, c :: l => hexc a && hexc b && decide (16 * hexd a + hexd b = c.toNat) && hexB s l
  | _, _ => false
theorem hexB_len : ∀ (l s : List UInt8), hexB s l = true → s.length = 2 * l.length
  | [], [], _ => rfl
  | [], _ :: _, h => by simp [hexB] at h
  | c :: l, [], h => by simp [hexB] at h
  | c :: l, [_], h => by simp [hexB] at h
  | c :: l, a :: b :: s, h => by
    simp only [hexB, Bool.and_eq_true] at h
    have := hexB_len l s h.2
    simp; omega
theorem hexB_at : ∀ (l s : List UInt8) (_ : hexB s l = true) (i : Nat) (hi : i < l.length), hexc (s.getD (2 * i) 0) = true ∧ hexc (s.getD (2 * i + 1) 0) = true ∧ 16 * hexd (s.getD (2 * i) 0) + hexd (s.getD (2 * i + 1) 0) = l[i].toNat
  | [], s, h, i, hi => by simp at hi
  | c :: l, [], h, i, hi => by simp [hexB] at h
  | c :: l, [_], h, i, hi => by simp [hexB] at h
  | c :: l, a :: b :: s, h, i, hi => by
    simp only [hexB, Bool.and_eq_true, decide_eq_true_eq] at h
    obtain ⟨⟨⟨h1, h2⟩, h3⟩, h4⟩ := h
    cases i with
    | zero => exact ⟨h1, h2, h3⟩
    | succ i =>
      have := hexB_at l s h4 i (by simpa using hi)
      rw [show 2 * (i + 1) = 2 * i + 1 + 1 by omega]
      exact this
/-- The value ahead of digit k of two. -/
def pv (a b : Int) (k : Nat) : Int := if k = 0 then 0 else if k = 1 then a else 16 * a + b
theorem hexc_cases {c : UInt8} (h : hexc c = true) : (48 ≤ (c.toNat : Int) ∧ (c.toNat : Int) ≤ 57 ∧ (hexd c : Int) = (c.toNat : Int) - 48) ∨ (97 ≤ (c.toNat : Int) ∧ (c.toNat : Int) ≤ 102 ∧ (hexd c : Int) = (c.toNat : Int) - 97 + 10) := by
  simp only [hexc, Bool.or_eq_true, Bool.and_eq_true, decide_eq_true_eq] at h
  rcases h with ⟨h1, h2⟩ | ⟨h1, h2⟩
  · left; refine ⟨by omega, by omega, ?_⟩; unfold hexd; rw [if_pos h2]; omega
  · right; refine ⟨by omega, by omega, ?_⟩; unfold hexd; rw [if_neg (by omega)]; omega
set_option maxHeartbeats 1000000 in
theorem unhex_any (s : ByteArray) (l : List UInt8) (h : hexB s.data.toList l = true) (h0 : 0 < l.length) (hm : l.length ≤ 10000) (w : World) :
    Calls Try.prog 19 #[.string s] w fun e w' => ∃ g cap r, e = .returned (.tuple #[.slice (some ⟨g, 0, none⟩) l.length cap, .bool true]) ∧ w.heap.size ≤ g ∧ Blk w' g (l.map bV ++ r) 5 ∧ l.length ≤ cap ∧ cap ≤ maxLen ∧ Below w.heap.size w w' := by
  have hlen := hexB_len _ _ h
  have hsz : s.size = 2 * l.length := by rw [← hlen]; rfl
  have HAt := Lib.hid (hexB_at _ _ h)
  obtain ⟨n, hn⟩ : ∃ n, n = l.length := ⟨_, rfl⟩
  have hs0 : (s.size : Int) = 2 * n := by omega
  have hmod : ((2 : Int) * n).tmod 2 = 0 := by rw [Int.mul_comm, Int.mul_tmod_left]
  have HN := Lib.hid hn
  have HSZ := Lib.hid hsz
  rw [← hn] at hm h0
  clear h hlen hn hsz
  have hn0 : (0 : Int) ≤ (n : Int) := by omega
  have hn1 : (n : Int) ≤ 10000 := by omega
  go_enter Try.func19, Try.ntmps19
  go_wp2
  go_loopw [4, 5] (fun v i wr => ∃ (k : Nat) (I : Int), k ≤ n ∧ I = 2 * (k : Int) ∧ i = .int .i64 I ∧ wr.ownsRow w.heap.size 5 1 v k ((l.take k).map bV) ∧ Below w.heap.size w wr) (fun _ i _ => 2 * n - (intOf i).toNat)
  case atStart => exact ⟨0, 0, by omega, rfl, rfl, World.ownsRow_nil _ _ _ _, Below.refl _ _⟩
  case round =>
    obtain ⟨k, I, hk, hI, rfl, hown, hbel⟩ := hrel
    by_cases hlt : k < n
    · obtain ⟨q1, q2, q3⟩ := HAt.out k (by have := HN.out; omega)
      obtain ⟨C0, hC0⟩ : ∃ C : Int, C = ((s.data.toList.getD (2 * k) 0).toNat : Int) := ⟨_, rfl⟩
      obtain ⟨C1, hC1⟩ : ∃ C : Int, C = ((s.data.toList.getD (2 * k + 1) 0).toNat : Int) := ⟨_, rfl⟩
      obtain ⟨D0, hD0⟩ : ∃ D : Int, D = (hexd (s.data.toList.getD (2 * k) 0) : Int) := ⟨_, rfl⟩
      obtain ⟨D1, hD1⟩ : ∃ D : Int, D = (hexd (s.data.toList.getD (2 * k + 1) 0) : Int) := ⟨_, rfl⟩
      have hi0 : ∀ h, ((s[I.toNat]'h).toNat : Int) = C0 := fun h => by
        rw [hC0]
        have e : I.toNat = 2 * k := by omega
        rw [List.getD_eq_getElem?_getD, List.getElem?_eq_getElem (by have := HSZ.out; have := HN.out; show 2 * k < s.size; omega)]
        simp only [e]; rfl
      have hi1 : ∀ h, ((s[(I + 1).toNat]'h).toNat : Int) = C1 := fun h => by
        rw [hC1]
        have e : (I + 1).toNat = 2 * k + 1 := by omega
        rw [List.getD_eq_getElem?_getD, List.getElem?_eq_getElem (by have := HSZ.out; have := HN.out; show 2 * k + 1 < s.size; omega)]
        simp only [e]; rfl
      obtain ⟨c, hc⟩ : ∃ c, c = l[k]'(by have := HN.out; omega) := ⟨_, rfl⟩
      rw [← hc] at q3
      have hsum : 16 * D0 + D1 = (c.toNat : Int) := by omega
      have hcl := c.toNat_lt
      have HTK : Hid (l.take (k + 1) = l.take k ++ [c]) := Lib.hid (by rw [hc, List.take_succ_eq_append_getElem])
      have k0 := hexc_cases q1
      have k1 := hexc_cases q2
      rw [← hC0, ← hD0] at k0
      rw [← hC1, ← hD1] at k1
      have t1 : 0 ≤ I := by omega
      have t2 : I + 1 < 2 * (n : Int) := by omega
      have d1 : 0 ≤ D0 := by omega
      have d2 : D0 ≤ 15 := by omega
      obtain ⟨V, hV⟩ : ∃ V, V = 16 * D0 + D1 := ⟨_, rfl⟩
      have v1 : 0 ≤ V := by omega
      have v2 : V < 256 := by omega
      have HVS := Lib.hid (show V = (c.toNat : Int) by omega)
      have HV := Lib.hid hV
      clear hV
      have HI := Lib.hid hI; have HSUM := Lib.hid hsum; have HK0 := Lib.hid k0; have HK1 := Lib.hid k1
      have t3 : I < 2 * (n : Int) := by omega
      clear hc hcl q1 q2 q3 hC0 hC1 hD0 hD1 hI hsum k0 k1
      go_wp2
      go_loop [6, 7] (fun v q => (v = .int .i64 0 ∧ q = .int .i64 0) ∨ (v = .int .i64 D0 ∧ q = .int .i64 1) ∨ (v = .int .i64 V ∧ q = .int .i64 2)) (fun _ q => (2 - intOf q).toNat)
      case atStart => exact .inl ⟨rfl, rfl⟩
      case round =>
        rcases hrel with ⟨rfl, rfl⟩ | ⟨rfl, rfl⟩ | ⟨rfl, rfl⟩
        · rcases HK0.out with ⟨a1, a2, a3⟩ | ⟨a1, a2, a3⟩
          · have A3 := Lib.hid a3
            clear a3
            go_wp2
            go_round
            case rel => exact .inr (.inl ⟨by rw [A3.out], rfl⟩)
            case measure => simp [intOf]
          · have A3 := Lib.hid a3
            clear a3
            have a4 : ¬ C0 ≤ 57 := by omega
            have a5 : 48 ≤ C0 := by omega
            go_wp2
            go_round
            case rel => exact .inr (.inl ⟨by rw [A3.out], rfl⟩)
            case measure => simp [intOf]
        · rcases HK1.out with ⟨a1, a2, a3⟩ | ⟨a1, a2, a3⟩
          · have A3 := Lib.hid a3
            clear a3
            go_wp2
            go_round
            case rel => exact .inr (.inr ⟨by rw [HV.out, A3.out], rfl⟩)
            case measure => simp [intOf]
          · have A3 := Lib.hid a3
            clear a3
            have a4 : ¬ C1 ≤ 57 := by omega
            have a5 : 48 ≤ C1 := by omega
            go_wp2
            go_round
            case rel => exact .inr (.inr ⟨by rw [HV.out, A3.out]; go_num, rfl⟩)
            case measure => simp [intOf]
        · clear hi0 hi1
          have HO := Lib.hid hown
          clear hown
          have hRD : ∀ W : World, ∀ g, g = W.heap.size → RdB (W.alloc (.cells #[.int .u8 V] 5)) (some ⟨g, 0, none⟩) 1 1 [c] := fun W g hg => by
            subst hg
            rw [HVS.out]
            exact RdB.blk (l := [c]) [] (Blk.new W #[bV c] 5) rfl (by omega) (by unfold maxLen; omega)
          have HR := Lib.hid hRD
          clear hRD
          go_wp2_with (at_builtin; refine app_bytes _ rfl (.tmp 55) (.tmp 58) rfl w.heap.size _ k (l.take k) rfl (own_below HO.out (by repeat (first | (with_reducible refine Below.alloc' ?_ _) | (with_reducible refine Below.drew ?_) | (with_reducible refine below_drewN ?_ _) | ((with_reducible refine Below.setCell ?_ ?_ _); rotate_left; (focus (first | exact Nat.le_refl _ | (simp; done) | (simp; omega)))) | (with_reducible assumption) | (with_reducible exact Below.refl _ _)))) _ 1 1 [c] rfl (HR.out _ _ rfl) (by omega) (by have := hbel.size; simp; omega) w (by repeat (first | (with_reducible refine Below.alloc' ?_ _) | (with_reducible refine Below.drew ?_) | (with_reducible refine below_drewN ?_ _) | ((with_reducible refine Below.setCell ?_ ?_ _); rotate_left; (focus (first | exact Nat.le_refl _ | (simp; done) | (simp; omega)))) | (with_reducible assumption) | (with_reducible exact Below.refl _ _))) ?_; intro v' w2 hown2 hbel2; have HO2 : Hid (w2.ownsRow w.heap.size 5 1 v' (k + 1) ((l.take (k + 1)).map bV)) := Lib.hid (by rw [HTK.out]; exact hown2); clear hown2)
          go_roundw
          case rel => exact ⟨k + 1, I + 2, by omega, by rw [HI.out]; omega, rfl, HO2.out, hbel2⟩
          case measure => simp [intOf]; omega
    · obtain rfl : k = n := by omega
      rw [List.take_of_length_le (by rw [← HN.out]; omega)] at hown
      obtain ⟨g, cap, r, rfl, hg, hB, hl, hc, hm'⟩ := own_rdb hown h0
      have t9 : ¬ I < 2 * (k : Int) := by omega
      have HB := Lib.hid hB
      have HI := Lib.hid hI
      clear hB hown hI hlt hl
      go_wp2
      go_ret2
      exact ⟨g, cap, by rw [HN.out]; rfl, hg, ⟨r, HB.out⟩, by rw [← HN.out]; exact hc, hm', hbel⟩
end Go.Proofs.Ytmoggjbnlimepaa
