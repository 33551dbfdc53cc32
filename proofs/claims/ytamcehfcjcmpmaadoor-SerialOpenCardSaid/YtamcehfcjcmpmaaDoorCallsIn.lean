/- A list of calls in memory, each with its own group. No program is named. -/
import Derived.Test.YtamcehfcjcmpmaaDoorIdl2
namespace Go.Proofs.YtamcehfcjcmpmaaDoor
open Go.RowKit

/-- a list of calls in memory, each with its own group, as far as it is gone through -/
structure CallsIn (w : World) (B : Nat) (A : Option Addr) (c : Nat) (l : List Call0) (gs : List (List Call0)) : Prop where
  arr : Arr Call0.enc 5 w B A l
  cap : l.length ≤ c
  max : c ≤ 9223372036854775807
  len : gs.length = l.length
  each : ∀ i (h : i < l.length) (h' : i < gs.length), CallIn w B l[i] gs[i]
theorem CallsIn.below {w w' : World} {B : Nat} {A : Option Addr} {c : Nat} {l : List Call0} {gs : List (List Call0)} (h : CallsIn w B A c l gs) (hb : Below B w w') : CallsIn w' B A c l gs :=
  ⟨h.arr.below hb, h.cap, h.max, h.len, fun i hi hi' => (h.each i hi hi').below hb⟩
end Go.Proofs.YtamcehfcjcmpmaaDoor
