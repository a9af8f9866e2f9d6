/- Plain: the ladder reckoned on plain numbers, for what the document fixes. No program in sight. -/
import Derived.Test.YtmoggjbnlimepaaXfn
import Derived.Test.YtmoggjbnlimepaaXcl
namespace Go.Proofs.Ytmoggjbnlimepaa

/-- The number is reckoned ahead of what follows. -/
def frc {α : Type} (n : Nat) (k : Nat → α) : α := Nat.rec (k 0) (fun m _ => k (Nat.succ m)) n
theorem frc_eq {α : Type} (n : Nat) (k : Nat → α) : frc n k = k n := by cases n <;> rfl
def mulP (a b : Nat) : Nat := a * b % Pq
def addP (a b : Nat) : Nat := (a + b) % Pq
def subP (a b : Nat) : Nat := (Pq - b + a) % Pq
def stepN {α : Type} (u a b c d : Nat) (k : Nat → Nat → Nat → Nat → α) : α :=
  frc (addP a b) fun s => frc (subP a b) fun l => frc (mulP s s) fun ss => frc (mulP l l) fun ll => frc (subP ss ll) fun e =>
  frc (mulP (subP c d) s) fun da => frc (mulP (addP c d) l) fun cb => frc (addP da cb) fun p => frc (subP da cb) fun q =>
  frc (mulP ss ll) fun x => frc (mulP e (addP ss (mulP e 121665))) fun z => frc (mulP p p) fun x' => frc (mulP u (mulP q q)) fun z' => k x z x' z'
def ladN (k u : Nat) : Nat → Nat → Nat → Nat → Nat → Bool → Nat × Nat
  | 0, a, b, c, d, was => if was then (c, d) else (a, b)
  | t + 1, a, b, c, d, was => if kbit k t != was then stepN u c d a b fun x z x' z' => ladN k u t x z x' z' (kbit k t) else stepN u a b c d fun x z x' z' => ladN k u t x z x' z' (kbit k t)
theorem F.sub_val (x y : F) : (x - y).val = (Pq - y.val + x.val) % Pq := rfl
theorem stepN_eq {α : Type} (u : F) (a b : Pj) (k : Nat → Nat → Nat → Nat → α) :
    stepN u.val a.x.val a.z.val b.x.val b.z.val k = k (lstep u a b).1.x.val (lstep u a b).1.z.val (lstep u a b).2.x.val (lstep u a b).2.z.val := by
  simp only [stepN, frc_eq]
  rfl
theorem ladN_eq (k : Nat) (u : F) : ∀ (t : Nat) (a b : Pj) (was : Bool),
    ladN k u.val t a.x.val a.z.val b.x.val b.z.val was = (let s := lstate k u t (a, b, was); let p := if s.2.2 then s.2.1 else s.1; (p.x.val, p.z.val))
  | 0, a, b, was => by cases was <;> rfl
  | t + 1, a, b, was => by
    by_cases h : (kbit k t != was) = true
    · simp only [ladN, lstate, h, if_true]
      rw [stepN_eq, ladN_eq k u t]
    · rw [Bool.not_eq_true] at h
      simp only [ladN, lstate, h, Bool.false_eq_true, if_false]
      rw [stepN_eq, ladN_eq k u t]
def ladV (k u : Nat) : Nat := (fun p : Nat × Nat => frc p.1 fun x => frc p.2 fun z => mulP x (powMod Pq 256 z expInv)) (ladN k u 255 1 0 u 1 false)
theorem ladder_val (k : Nat) (u : F) : (ladder k u).val = ladV k u.val := by
  have h := ladN_eq k u 255 ⟨fn 1, 0⟩ ⟨u, fn 1⟩ false
  unfold ladV
  rw [show (fn 1).val = 1 from rfl, show (0 : F).val = 0 from rfl] at h
  rw [h]
  simp only [frc_eq]
  unfold ladder finv
  rw [F.mul_val, fpow_val, powMod_spec Pq 256 _ expInv (by decide +kernel)]
  rfl
/-- What is fixed. -/
def awK : List UInt8 := [0xa5, 0x46, 0xe3, 0x6b, 0xf0, 0x52, 0x7c, 0x9d, 0x3b, 0x16, 0x15, 0x4b, 0x82, 0x46, 0x5e, 0xdd, 0x62, 0x14, 0x4c, 0x0a, 0xc1, 0xfc, 0x5a, 0x18, 0x50, 0x6a, 0x22, 0x44, 0xba, 0x44, 0x9a, 0xc4]
def awU : List UInt8 := [0xe6, 0xdb, 0x68, 0x67, 0x58, 0x30, 0x30, 0xdb, 0x35, 0x94, 0xc1, 0xa4, 0x24, 0xb1, 0x5f, 0x7c, 0x72, 0x66, 0x24, 0xec, 0x26, 0xb3, 0x35, 0x3b, 0x10, 0xa9, 0x03, 0xa6, 0xd0, 0xab, 0x1c, 0x4c]
theorem aw_lad : (leB 32 (ladder (leN (clampB awK)) (feF awU)).val).take 4 = [0xc3, 0xda, 0x55, 0x37] := by
  rw [ladder_val]
  decide +kernel
end Go.Proofs.Ytmoggjbnlimepaa
