/- The document's Fill: bytes filled up; rows of bytes. -/
import Derived.Test.YtbgfokdchpcifaaFlat
namespace Go.Proofs.Ytbgfokdchpcifaa
open Go.RowKit

set_option maxHeartbeats 400000 in
theorem fill_any {a : Option Addr} {n cap : Nat} {l : List UInt8} (k : Nat) (hk : k ≤ 1000) (w : World) (h : RdB w a n cap l) :
    Calls Try.prog 34 #[.slice a n cap, .int .i64 k] w fun e w' => e = .returned (.slice (some ⟨w.heap.size, 0, none⟩) k k) ∧ Blk w' w.heap.size ((first l k).map bV) 5 ∧ Below w.heap.size w w' := by
  obtain ⟨i0, hi, hz0, hz1, hz2⟩ := info_parts infoU8
  have hkk : k ≤ maxLen := by unfold maxLen; omega
  have hgl := Lib.hid h.hlen
  go_enter Try.func34, Try.ntmps34
  go_wp2_with (at_make; refine wpList_make_full _ rfl _ _ 22 rfl w.heap.size 5 i0 (.int .u8 0) 1 Try.underlying22 hi hz0 hz1 .i64 .i64 _ _ k rfl rfl rfl rfl ?_ hkk (Nat.le_refl _) ?_)
  · rw [hz2]; omega
  · intro w1 hown hgr
    have hB := Blk.own hown
    have hb1 : Below w.heap.size w w1 := (Below.refl _ _).grown hgr (Nat.le_refl _) (by simp)
    rw [madeU8 k] at hB
    clear hown hgr hi hz0 hz1 hz2
    have h1 := h.below hb1
    go_wp2_with (refine wpList_copy_splice rfl (.tmp 8) (.tmp 9) 22 22 rfl 5 Try.underlying22 infoSz _ _ _ _ _ _ rfl rfl w.heap.size 0 (zer k) 5 hB (cpy l (Nat.min n k)) ?_ ?_ ?_ (cpy_one _ _) w.heap.size w hb1 (Nat.le_refl _) ?_)
    · rw [cpy_len, hgl.out]; show min (min n k) n = min n k; omega
    · exact fun hpos => h1.src _ hpos
    · rw [zer_len, cpy_len]; show 0 + min (min n k) l.length ≤ k; omega
    · intro w2 hB2 hb2
      have hB3 : Hid (Blk w2 w.heap.size ((first l k).map bV) 5) := by
        rw [splice_first l k n hgl.out] at hB2; exact hB2
      clear hB2
      go_wp2
      go_ret
      exact ⟨rfl, hB3.out, hb2⟩
/-- Bytes as a row. -/
def uV (f : Nat → Nat) (i : Nat) : Value := .int .u8 (f i : Nat)
def byF (l : List UInt8) (i : Nat) : Nat := (l.getD i 0).toNat
theorem byF_lt (l : List UInt8) (i : Nat) : byF l i < 256 := UInt8.toNat_lt _
theorem bytes_row (l : List UInt8) (n : Nat) (h : l.length = n) : l.map bV = row n (uV (byF l)) := by
  apply List.ext_getElem
  · simp [row, h]
  · intro i h1 h2
    have hi : i < l.length := by simpa using h1
    simp [row, uV, byF, bV, hi]
end Go.Proofs.Ytbgfokdchpcifaa
