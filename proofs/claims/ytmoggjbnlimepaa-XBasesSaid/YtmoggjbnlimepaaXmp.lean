/- x25519: two points the other way round, a step, digits of the secret, over numbers. -/
import Derived.Test.YtmoggjbnlimepaaXst
namespace Go.Proofs.Ytmoggjbnlimepaa
open Go Go.RowKit

def sw (y : Bool) (a b : Pj) : Pj × Pj := if y then (b, a) else (a, b)
theorem of_isP {v : Value} {x z : F} (h : IsFs rE v [x, z]) : ∃ f g, v = .agg #[.int .u64 (f 0 : Nat),.int .u64 (f 1 : Nat),.int .u64 (f 2 : Nat),.int .u64 (f 3 : Nat),.int .u64 (f 4 : Nat), .int .u64 (g 0 : Nat),.int .u64 (g 1 : Nat),.int .u64 (g 2 : Nat),.int .u64 (g 3 : Nat),.int .u64 (g 4 : Nat)] ∧ FF f x ∧ FF g z := by
  obtain ⟨cs, rfl, f, r, ⟨f', hf, rfl⟩, rfl, hc⟩ := h
  obtain ⟨g', hg, rfl⟩ := Lims.of_single hc
  exact ⟨f', g', rfl, hf, hg⟩
theorem isP {f g : Nat → Nat} {x z : F} (h : FF f x) (k : FF g z) : IsFs rE (.agg #[.int .u64 (f 0 : Nat),.int .u64 (f 1 : Nat),.int .u64 (f 2 : Nat),.int .u64 (f 3 : Nat),.int .u64 (f 4 : Nat), .int .u64 (g 0 : Nat),.int .u64 (g 1 : Nat),.int .u64 (g 2 : Nat),.int .u64 (g 3 : Nat),.int .u64 (g 4 : Nat)]) [x, z] :=
  ⟨_, rfl, _, _, ⟨f, h, rfl⟩, rfl, Lims.single (R := rE) ⟨g, k, rfl⟩⟩
theorem cSwap {y : Bool} {v v' : Value} {a b : Pj} (h : IsFs rE v [a.x, a.z]) (h' : IsFs rE v' [b.x, b.z]) (w : World) :
    Calls Try.prog 23 #[.bool y, v, v'] w fun e w' => ∃ r, e = .returned r ∧ IsT2 rE r [(sw y a b).1.x, (sw y a b).1.z] [(sw y a b).2.x, (sw y a b).2.z] ∧ Below w.heap.size w w' := by
  obtain ⟨f, g, rfl, hf, hg⟩ := of_isP h
  obtain ⟨p, q, rfl, hp, hq⟩ := of_isP h'
  refine (swap_any y f g p q w).mono fun e w' ⟨he, hb⟩ => ⟨_, he, ?_, hb⟩
  cases y
  · exact ⟨_, _, rfl, isP hf hg, isP hp hq⟩
  · exact ⟨_, _, rfl, isP hp hq, isP hf hg⟩
theorem cStep {v0 v v' : Value} {U : F} {a b : Pj} (h0 : IsFs rE v0 [U]) (h : IsFs rE v [a.x, a.z]) (h' : IsFs rE v' [b.x, b.z]) (w : World) :
    Calls Try.prog 24 #[v0, v, v'] w fun e w' => ∃ r, e = .returned r ∧ IsT2 rE r [(lstep U a b).1.x, (lstep U a b).1.z] [(lstep U a b).2.x, (lstep U a b).2.z] ∧ Below w.heap.size w w' :=
  (step_any h0 h h' w).mono fun _ _ ⟨r1, r2, he, i1, i2, hb⟩ => ⟨_, he, ⟨r1, r2, rfl, i1, i2⟩, hb⟩
theorem leN_cons (c : UInt8) (l : List UInt8) : leN (c :: l) = c.toNat + 256 * leN l := rfl
theorem leN_bit : ∀ (l : List UInt8) (j : Nat) (h : j / 8 < l.length), leN l / 2 ^ j % 2 = (l[j / 8]).toNat / 2 ^ (j % 8) % 2
  | [], j, h => by simp at h
  | c :: l, j, h => by
    by_cases h8 : j < 8
    · have e : j / 8 = 0 := by omega
      have e2 : j % 8 = j := by omega
      simp only [e, e2, List.getElem_cons_zero]
      rw [leN_cons]
      have : j = 0 ∨ j = 1 ∨ j = 2 ∨ j = 3 ∨ j = 4 ∨ j = 5 ∨ j = 6 ∨ j = 7 := by omega
      rcases this with rfl | rfl | rfl | rfl | rfl | rfl | rfl | rfl <;> omega
    · obtain ⟨i, rfl⟩ : ∃ i, j = i + 8 := ⟨j - 8, by omega⟩
      have e : (i + 8) / 8 = i / 8 + 1 := by omega
      have e2 : (i + 8) % 8 = i % 8 := by omega
      have ih := leN_bit l i (by simp at h; omega)
      simp only [e, e2, List.getElem_cons_succ]
      rw [← ih, leN_cons, Nat.pow_add, Nat.mul_comm (2 ^ i), ← Nat.div_div_eq_div_mul]
      have hc := c.toNat_lt
      rw [show (c.toNat + 256 * leN l) / 2 ^ 8 = leN l by omega]
theorem kbit_test {l : List UInt8} {j : Nat} (h : j / 8 < l.length) : (bits BinOp.and IntKind.u8 (((l[j / 8]).toNat : Int) / 2 ^ (j % 8)) 1 == 1) = kbit (leN l) j := by
  unfold kbit
  rw [leN_bit l j h]
  generalize l[j / 8] = c
  have hc := c.toNat_lt
  have h1 : c.toNat / 2 ^ (j % 8) < 256 := Nat.lt_of_le_of_lt (Nat.div_le_self _ _) hc
  rw [show ((c.toNat : Int) / 2 ^ (j % 8)) = ((c.toNat / 2 ^ (j % 8) : Nat) : Int) from by simp]
  generalize c.toNat / 2 ^ (j % 8) = q at *
  revert h1; revert q; decide +kernel
end Go.Proofs.Ytmoggjbnlimepaa
