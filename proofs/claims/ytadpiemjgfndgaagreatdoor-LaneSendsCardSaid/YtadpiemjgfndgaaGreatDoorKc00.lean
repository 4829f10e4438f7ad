/- Proved here, for use further on: a fact may be kept out of sight. Conditions: none. -/
import Derived.Lib.Hide
namespace Go.Proofs.YtadpiemjgfndgaaGreatDoor
theorem Lh {p : Prop} (h : p) : Go.RowKit.Hid p := h
end Go.Proofs.YtadpiemjgfndgaaGreatDoor
