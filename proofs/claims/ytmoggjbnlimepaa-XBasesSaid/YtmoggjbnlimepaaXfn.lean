/- Plain: the ladder of X25519 over the field; what it makes of clamped secrets. No program in sight. -/
import Derived.Test.YtmoggjbnlimepaaAlg
namespace Go.Proofs.Ytmoggjbnlimepaa

/-- A point by its x alone. -/
structure Pj where
  x : F
  z : F
/-- Both points behind a step of the ladder. -/
def lstep (u : F) (a b : Pj) : Pj × Pj :=
  let s := a.x + a.z
  let l := a.x - a.z
  let e := s * s - l * l
  let da := (b.x - b.z) * s
  let cb := (b.x + b.z) * l
  (⟨(s * s) * (l * l), e * (s * s + e * fn 121665)⟩, ⟨(da + cb) * (da + cb), u * ((da - cb) * (da - cb))⟩)
/-- Digit t of the secret. -/
def kbit (k : Nat) (t : Nat) : Bool := decide (k / 2 ^ t % 2 = 1)
/-- The ladder's state ahead of digit t - 1 (t digits are left): the two points, and whether they lie swapped. -/
def lstate (k : Nat) (u : F) : Nat → Pj × Pj × Bool → Pj × Pj × Bool
  | 0, s => s
  | t + 1, (a, b, was) =>
    let p := if kbit k t != was then (b, a) else (a, b)
    let q := lstep u p.1 p.2
    lstate k u t (q.1, q.2, kbit k t)
def ladder (k : Nat) (u : F) : F :=
  let s := lstate k u 255 (⟨fn 1, 0⟩, ⟨u, fn 1⟩, false)
  let p := if s.2.2 then s.2.1 else s.1
  p.x * finv p.z
end Go.Proofs.Ytmoggjbnlimepaa
