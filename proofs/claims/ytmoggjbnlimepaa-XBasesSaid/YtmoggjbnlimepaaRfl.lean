/- The walks of the document's own field, ninth part: the bytes of a number. -/
import Derived.Test.YtmoggjbnlimepaaRfk
import Derived.Deep.RegionHeld3
import Derived.Deep.AppendLies
namespace Go.Proofs.Ytmoggjbnlimepaa
open Go.RowKit

/-- An append of bytes to a slice of the call's own, at a step of a region that draws. -/
theorem app_step {ops : Array Oper} {o : Oper} {a : Act} {w : World} {K : Act → World → Prop} {Q : Exit → Act → World → Prop} {E : Prop} (hgd : o.guard = none) (s x : Operand)
    (ho : o.op = .call { callee := .builtin .append, args := #[s, x], argTypes := #[22, 22] }) (base : Nat) (v : Value) (n : Nat) (l : List UInt8) (hs : a.eval s = v) (hown : w.ownsRow base 5 1 v n (l.map bV))
    (ad : Addr) (m sc : Nat) (r : List UInt8) (hx : a.eval x = .slice (some ad) m sc) (hr : RdB w (some ad) m sc r) (hm : 0 < m) (hlen : n + m ≤ 70368744177664) (hbase : base ≤ w.heap.size) (w0 : World) (hb0 : Below base w0 w)
    (h : ∀ v' w', w'.ownsRow base 5 1 v' (n + m) ((l ++ r).map bV) → Below base w0 w' → K (a.put o.dst v') w') : if Region.wanted o (yielded ops a.tmps) = true then Oper.wp Try.prog o a w K Q else E := by
  obtain ⟨i0, hi, hz0, hz1, hz2⟩ := info_parts (show (Try.prog.info? 5).map (fun i => (i.zero, i.size, i.bytes)) = some (some (.int .u8 0), 1, 1) from by kernel_rfl)
  refine step_append_lies w hgd s x 22 ho base 5 i0 (.int .u8 0) 1 1 Try.underlying22 hi hz0 hz1 hz2 rfl (by decide) v n (l.map bV) hs hown ad m sc (r.map bV) hx (by simp [hr.hlen]) ?_ ?_ hm (by unfold maxLen; omega) (by omega) hbase _ rfl ?_
  · intro j u hu
    obtain ⟨hj, hv⟩ := List.getElem?_eq_some_iff.1 hu
    simp at hj
    obtain ⟨b, q, hab, hc⟩ := hr.get j hj
    simp at hab
    subst hab
    rw [show Addr.add ⟨b, q, none⟩ j = ⟨b, q + j, none⟩ from by unfold Addr.add; split <;> simp_all, hc, ← hv]
    simp
  · intro u hu
    simp at hu
    obtain ⟨c, _, rfl⟩ := hu
    rfl
  · intro g cap w' hown' hgr _ _
    rw [← List.map_append] at hown'
    refine h _ w' hown' (hb0.grown hgr hbase fun q hq => ?_)
    rcases hown.2 with ⟨h, _⟩ | ⟨g, cap, cur, hv, hg, _⟩
    · rw [h] at hq; simp [Value.ownBlock] at hq
    · rw [hv] at hq; simp [Value.ownBlock] at hq; omega
theorem two_bytes (n k : Nat) (x : Int) (hx : x = (d16 n k : Nat)) : ∃ (x0 x1 : Int) (b0 b1 : UInt8), IntKind.u8.wrap x = x0 ∧ IntKind.u8.wrap x1 = x1 ∧ x / 256 = x1 ∧ bV b0 = .int .u8 x0 ∧ bV b1 = .int .u8 x1 ∧ leB (2 * (k + 1)) n = leB (2 * k) n ++ [b0, b1] := by
  have h := d16_lt n k
  refine ⟨x % 256, x / 256, UInt8.ofNat (n / 2 ^ (8 * (2 * k))), UInt8.ofNat (n / 2 ^ (8 * (2 * k + 1))), wrap8 _, by rw [wrap8]; omega, rfl, ?_, ?_, ?_⟩
  · subst hx; simp only [bV, d16, UInt8.toNat_ofNat']
    rw [show 65536 ^ k = 2 ^ (8 * (2 * k)) from by rw [show 8 * (2 * k) = 16 * k from by omega, Nat.pow_mul]]
    generalize n / 2 ^ (8 * (2 * k)) = q
    congr 1; omega
  · subst hx; simp only [bV, d16, UInt8.toNat_ofNat']
    rw [show 65536 ^ k = 2 ^ (8 * (2 * k)) from by rw [show 8 * (2 * k) = 16 * k from by omega, Nat.pow_mul], show 2 ^ (8 * (2 * k + 1)) = 2 ^ (8 * (2 * k)) * 256 from by rw [show 8 * (2 * k + 1) = 8 * (2 * k) + 8 from by omega, Nat.pow_add], ← Nat.div_div_eq_div_mul]
    generalize n / 2 ^ (8 * (2 * k)) = q
    congr 1; omega
  · rw [show 2 * (k + 1) = 2 * k + 1 + 1 from by omega]
    rw [leB_append (2 * k + 1) 1, leB_append (2 * k) 1, List.append_assoc]
    simp [leB]
theorem rd2 {w : World} {x0 x1 : Int} {b0 b1 : UInt8} (h0 : bV b0 = .int .u8 x0) (h1 : bV b1 = .int .u8 x1) {g : Nat} (hg : g = w.heap.size) : RdB (w.alloc (.cells #[.int .u8 x0, .int .u8 x1] 5)) (some ⟨g, 0, none⟩) 2 2 [b0, b1] := by
  rw [← h0, ← h1]
  exact RdB.blk (l := [b0, b1]) [] (Blk.new' (cs := #[bV b0, bV b1]) hg) rfl (by omega) (by unfold maxLen; omega)
set_option maxHeartbeats 1000000 in
theorem rbytes_any (n : Nat) (w : World) :
    Calls Try.prog 36 #[.agg (row 16 (fV (d16 n))).toArray] w fun e w' => ∃ g cap r, e = .returned (.slice (some ⟨g, 0, none⟩) 32 cap) ∧ w.heap.size ≤ g ∧ Blk w' g ((leB 32 n).map bV ++ r) 5 ∧ 32 ≤ cap ∧ cap ≤ maxLen ∧ Below w.heap.size w w' := by
  have HF : Hid (∀ k, ∃ x : Int, x = (d16 n k : Nat)) := Lib.hid (fun k => ⟨_, rfl⟩)
  go_enter Try.func36, Try.ntmps36
  go_wp2
  go_loopw [3, 4] (fun v i wr => ∃ k : Nat, k ≤ 16 ∧ i = .int .i64 k ∧ wr.ownsRow (w.heap.size + 1) 5 1 v (2 * k) ((leB (2 * k) n).map bV) ∧ Blk wr w.heap.size (row 16 (fV (d16 n))) 54 ∧ Below w.heap.size w wr ∧ w.heap.size + 1 ≤ wr.heap.size) (fun _ i _ => 16 - (intOf i).toNat)
  case atStart => exact ⟨0, by omega, rfl, ⟨rfl, .inl ⟨rfl, rfl⟩⟩, Blk.new w _ _, (by repeat (first | (with_reducible refine Below.alloc' ?_ _) | (with_reducible refine Below.drew ?_) | (with_reducible refine below_drewN ?_ _) | ((with_reducible refine Below.setCell ?_ ?_ _); rotate_left; (focus (first | exact Nat.le_refl _ | (simp; done) | (simp; omega)))) | (with_reducible assumption) | (with_reducible exact Below.refl _ _))), by simp⟩
  case round =>
    obtain ⟨k, hk, rfl, hown, hA, hbel, hsz⟩ := hrel
    by_cases hlt : k < 16
    · obtain ⟨x, hx⟩ := HF.out k
      have ca : wr.cell? ⟨w.heap.size, k, none⟩ = some (.int .u64 x) := by rw [hx]; exact hA.at hlt
      have h0 : 0 ≤ x := by omega
      obtain ⟨x0, x1, b0, b1, e0, e1, e2, q0, q1, hlb⟩ := two_bytes n k x hx
      have HQ0 := Lib.hid q0; have HQ1 := Lib.hid q1; have HL := Lib.hid hlb
      have HA := Lib.hid hA; have HX := Lib.hid hx; have HO := Lib.hid hown
      clear hA hx hown q0 q1 hlb
      go_upto_region 5 with fail
      go_region_held3 (fun W => W.cell? ⟨w.heap.size, k, none⟩ = some (.int .u64 x)) (first | assumption | go_keep) ((refine app_step (by rfl) (.tmp 9) (.tmp 19) (by rfl) (w.heap.size + 1) _ (2 * k) (leB (2 * k) n) (by rfl) (own_below HO.out (by repeat (first | (with_reducible refine Below.alloc' ?_ _) | (with_reducible refine Below.drew ?_) | (with_reducible refine below_drewN ?_ _) | ((with_reducible refine Below.setCell ?_ ?_ _); rotate_left; (focus (first | exact Nat.le_refl _ | (simp; done) | (simp; omega)))) | (with_reducible assumption) | (with_reducible exact Below.refl _ _)))) _ 2 2 [b0, b1] (by rfl) (rd2 HQ0.out HQ1.out rfl).drew (by omega) (by omega) (Nat.le_trans hsz (Below.size (show Below wr.heap.size wr _ from (by repeat (first | (with_reducible refine Below.alloc' ?_ _) | (with_reducible refine Below.drew ?_) | (with_reducible refine below_drewN ?_ _) | ((with_reducible refine Below.setCell ?_ ?_ _); rotate_left; (focus (first | exact Nat.le_refl _ | (simp; done) | (simp; omega)))) | (with_reducible assumption) | (with_reducible exact Below.refl _ _)))))) wr (Below.drew ((Below.refl _ _).alloc hsz _)) ?_; intro v' w' hown' hbel'; have hca' : w'.cell? ⟨w.heap.size, k, none⟩ = some (.int .u64 x) := (by rw [hbel'.cell (show w.heap.size < w.heap.size + 1 by omega)]; exact ca)))
      have hA2 := HA.out.below hbel' (Nat.lt_succ_self _)
      have hbel2 : Below w.heap.size w w' := hbel.trans (hbel'.mono (by omega))
      have hsz2 : w.heap.size + 1 ≤ w'.heap.size := Nat.le_trans hsz hbel'.size
      have HO3 : Hid (w'.ownsRow (w.heap.size + 1) 5 1 v' (2 * (k + 1)) ((leB (2 * (k + 1)) n).map bV)) := Lib.hid (by rw [HL.out]; exact hown')
      clear hown' hbel' hbel hca'
      go_wp2
      go_roundw
      case rel => exact ⟨k + 1, by omega, by go_num, HO3.out, hA2, hbel2, hsz2⟩
      case measure => simp [intOf]; omega
    · obtain rfl : k = 16 := by omega
      obtain ⟨g, cap, r, rfl, hg, hB, hl, hc, hm⟩ := own_rdb hown (by omega)
      have HB := Lib.hid hB
      clear hown hB hl hA hlt hk
      go_wp2
      go_ret
      exact ⟨g, cap, r, rfl, by omega, HB.out, hc, hm, hbel⟩
end Go.Proofs.Ytmoggjbnlimepaa
