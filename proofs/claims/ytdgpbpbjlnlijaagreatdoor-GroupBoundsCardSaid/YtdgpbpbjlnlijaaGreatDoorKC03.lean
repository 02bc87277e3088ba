/- joined texts of a proof: Keep, BagB, GenA, GenB, BagC, Ord -/
import Derived.Test.YtdgpbpbjlnlijaaGreatDoorKC02
import Derived.Test.YtdgpbpbjlnlijaaGreatDoorKC01
import Derived.IntWalk

/- What a region that draws its order keeps: cells that were there are there behind a growth of the world. -/
namespace Go.Proofs.YtdgpbpbjlnlijaaGreatDoor
open Go.RowKit

theorem keepE1 {W wa wb : World} {p1 : Addr} {v1 : Value} (h : Ext W wa ∧ wa.cell? p1 = some v1) (hx : Ext wa wb) : Ext W wb ∧ wb.cell? p1 = some v1 :=
  ⟨h.1.trans hx, hx.at (h.2)⟩
theorem keepE2 {W wa wb : World} {p1 p2 : Addr} {v1 v2 : Value} (h : Ext W wa ∧ wa.cell? p1 = some v1 ∧ wa.cell? p2 = some v2) (hx : Ext wa wb) : Ext W wb ∧ wb.cell? p1 = some v1 ∧ wb.cell? p2 = some v2 :=
  ⟨h.1.trans hx, hx.at (h.2.1), hx.at (h.2.2)⟩
theorem keepE3 {W wa wb : World} {p1 p2 p3 : Addr} {v1 v2 v3 : Value} (h : Ext W wa ∧ wa.cell? p1 = some v1 ∧ wa.cell? p2 = some v2 ∧ wa.cell? p3 = some v3) (hx : Ext wa wb) : Ext W wb ∧ wb.cell? p1 = some v1 ∧ wb.cell? p2 = some v2 ∧ wb.cell? p3 = some v3 :=
  ⟨h.1.trans hx, hx.at (h.2.1), hx.at (h.2.2.1), hx.at (h.2.2.2)⟩
theorem keepE4 {W wa wb : World} {p1 p2 p3 p4 : Addr} {v1 v2 v3 v4 : Value} (h : Ext W wa ∧ wa.cell? p1 = some v1 ∧ wa.cell? p2 = some v2 ∧ wa.cell? p3 = some v3 ∧ wa.cell? p4 = some v4) (hx : Ext wa wb) : Ext W wb ∧ wb.cell? p1 = some v1 ∧ wb.cell? p2 = some v2 ∧ wb.cell? p3 = some v3 ∧ wb.cell? p4 = some v4 :=
  ⟨h.1.trans hx, hx.at (h.2.1), hx.at (h.2.2.1), hx.at (h.2.2.2.1), hx.at (h.2.2.2.2)⟩
theorem keepE5 {W wa wb : World} {p1 p2 p3 p4 p5 : Addr} {v1 v2 v3 v4 v5 : Value} (h : Ext W wa ∧ wa.cell? p1 = some v1 ∧ wa.cell? p2 = some v2 ∧ wa.cell? p3 = some v3 ∧ wa.cell? p4 = some v4 ∧ wa.cell? p5 = some v5) (hx : Ext wa wb) : Ext W wb ∧ wb.cell? p1 = some v1 ∧ wb.cell? p2 = some v2 ∧ wb.cell? p3 = some v3 ∧ wb.cell? p4 = some v4 ∧ wb.cell? p5 = some v5 :=
  ⟨h.1.trans hx, hx.at (h.2.1), hx.at (h.2.2.1), hx.at (h.2.2.2.1), hx.at (h.2.2.2.2.1), hx.at (h.2.2.2.2.2)⟩
theorem keepE6 {W wa wb : World} {p1 p2 p3 p4 p5 p6 : Addr} {v1 v2 v3 v4 v5 v6 : Value} (h : Ext W wa ∧ wa.cell? p1 = some v1 ∧ wa.cell? p2 = some v2 ∧ wa.cell? p3 = some v3 ∧ wa.cell? p4 = some v4 ∧ wa.cell? p5 = some v5 ∧ wa.cell? p6 = some v6) (hx : Ext wa wb) : Ext W wb ∧ wb.cell? p1 = some v1 ∧ wb.cell? p2 = some v2 ∧ wb.cell? p3 = some v3 ∧ wb.cell? p4 = some v4 ∧ wb.cell? p5 = some v5 ∧ wb.cell? p6 = some v6 :=
  ⟨h.1.trans hx, hx.at (h.2.1), hx.at (h.2.2.1), hx.at (h.2.2.2.1), hx.at (h.2.2.2.2.1), hx.at (h.2.2.2.2.2.1), hx.at (h.2.2.2.2.2.2)⟩
theorem keepE7 {W wa wb : World} {p1 p2 p3 p4 p5 p6 p7 : Addr} {v1 v2 v3 v4 v5 v6 v7 : Value} (h : Ext W wa ∧ wa.cell? p1 = some v1 ∧ wa.cell? p2 = some v2 ∧ wa.cell? p3 = some v3 ∧ wa.cell? p4 = some v4 ∧ wa.cell? p5 = some v5 ∧ wa.cell? p6 = some v6 ∧ wa.cell? p7 = some v7) (hx : Ext wa wb) : Ext W wb ∧ wb.cell? p1 = some v1 ∧ wb.cell? p2 = some v2 ∧ wb.cell? p3 = some v3 ∧ wb.cell? p4 = some v4 ∧ wb.cell? p5 = some v5 ∧ wb.cell? p6 = some v6 ∧ wb.cell? p7 = some v7 :=
  ⟨h.1.trans hx, hx.at (h.2.1), hx.at (h.2.2.1), hx.at (h.2.2.2.1), hx.at (h.2.2.2.2.1), hx.at (h.2.2.2.2.2.1), hx.at (h.2.2.2.2.2.2.1), hx.at (h.2.2.2.2.2.2.2)⟩
theorem keepE8 {W wa wb : World} {p1 p2 p3 p4 p5 p6 p7 p8 : Addr} {v1 v2 v3 v4 v5 v6 v7 v8 : Value} (h : Ext W wa ∧ wa.cell? p1 = some v1 ∧ wa.cell? p2 = some v2 ∧ wa.cell? p3 = some v3 ∧ wa.cell? p4 = some v4 ∧ wa.cell? p5 = some v5 ∧ wa.cell? p6 = some v6 ∧ wa.cell? p7 = some v7 ∧ wa.cell? p8 = some v8) (hx : Ext wa wb) : Ext W wb ∧ wb.cell? p1 = some v1 ∧ wb.cell? p2 = some v2 ∧ wb.cell? p3 = some v3 ∧ wb.cell? p4 = some v4 ∧ wb.cell? p5 = some v5 ∧ wb.cell? p6 = some v6 ∧ wb.cell? p7 = some v7 ∧ wb.cell? p8 = some v8 :=
  ⟨h.1.trans hx, hx.at (h.2.1), hx.at (h.2.2.1), hx.at (h.2.2.2.1), hx.at (h.2.2.2.2.1), hx.at (h.2.2.2.2.2.1), hx.at (h.2.2.2.2.2.2.1), hx.at (h.2.2.2.2.2.2.2.1), hx.at (h.2.2.2.2.2.2.2.2)⟩
theorem keepE9 {W wa wb : World} {p1 p2 p3 p4 p5 p6 p7 p8 p9 : Addr} {v1 v2 v3 v4 v5 v6 v7 v8 v9 : Value} (h : Ext W wa ∧ wa.cell? p1 = some v1 ∧ wa.cell? p2 = some v2 ∧ wa.cell? p3 = some v3 ∧ wa.cell? p4 = some v4 ∧ wa.cell? p5 = some v5 ∧ wa.cell? p6 = some v6 ∧ wa.cell? p7 = some v7 ∧ wa.cell? p8 = some v8 ∧ wa.cell? p9 = some v9) (hx : Ext wa wb) : Ext W wb ∧ wb.cell? p1 = some v1 ∧ wb.cell? p2 = some v2 ∧ wb.cell? p3 = some v3 ∧ wb.cell? p4 = some v4 ∧ wb.cell? p5 = some v5 ∧ wb.cell? p6 = some v6 ∧ wb.cell? p7 = some v7 ∧ wb.cell? p8 = some v8 ∧ wb.cell? p9 = some v9 :=
  ⟨h.1.trans hx, hx.at (h.2.1), hx.at (h.2.2.1), hx.at (h.2.2.2.1), hx.at (h.2.2.2.2.1), hx.at (h.2.2.2.2.2.1), hx.at (h.2.2.2.2.2.2.1), hx.at (h.2.2.2.2.2.2.2.1), hx.at (h.2.2.2.2.2.2.2.2.1), hx.at (h.2.2.2.2.2.2.2.2.2)⟩
theorem keepE10 {W wa wb : World} {p1 p2 p3 p4 p5 p6 p7 p8 p9 p10 : Addr} {v1 v2 v3 v4 v5 v6 v7 v8 v9 v10 : Value} (h : Ext W wa ∧ wa.cell? p1 = some v1 ∧ wa.cell? p2 = some v2 ∧ wa.cell? p3 = some v3 ∧ wa.cell? p4 = some v4 ∧ wa.cell? p5 = some v5 ∧ wa.cell? p6 = some v6 ∧ wa.cell? p7 = some v7 ∧ wa.cell? p8 = some v8 ∧ wa.cell? p9 = some v9 ∧ wa.cell? p10 = some v10) (hx : Ext wa wb) : Ext W wb ∧ wb.cell? p1 = some v1 ∧ wb.cell? p2 = some v2 ∧ wb.cell? p3 = some v3 ∧ wb.cell? p4 = some v4 ∧ wb.cell? p5 = some v5 ∧ wb.cell? p6 = some v6 ∧ wb.cell? p7 = some v7 ∧ wb.cell? p8 = some v8 ∧ wb.cell? p9 = some v9 ∧ wb.cell? p10 = some v10 :=
  ⟨h.1.trans hx, hx.at (h.2.1), hx.at (h.2.2.1), hx.at (h.2.2.2.1), hx.at (h.2.2.2.2.1), hx.at (h.2.2.2.2.2.1), hx.at (h.2.2.2.2.2.2.1), hx.at (h.2.2.2.2.2.2.2.1), hx.at (h.2.2.2.2.2.2.2.2.1), hx.at (h.2.2.2.2.2.2.2.2.2.1), hx.at (h.2.2.2.2.2.2.2.2.2.2)⟩
theorem keepE11 {W wa wb : World} {p1 p2 p3 p4 p5 p6 p7 p8 p9 p10 p11 : Addr} {v1 v2 v3 v4 v5 v6 v7 v8 v9 v10 v11 : Value} (h : Ext W wa ∧ wa.cell? p1 = some v1 ∧ wa.cell? p2 = some v2 ∧ wa.cell? p3 = some v3 ∧ wa.cell? p4 = some v4 ∧ wa.cell? p5 = some v5 ∧ wa.cell? p6 = some v6 ∧ wa.cell? p7 = some v7 ∧ wa.cell? p8 = some v8 ∧ wa.cell? p9 = some v9 ∧ wa.cell? p10 = some v10 ∧ wa.cell? p11 = some v11) (hx : Ext wa wb) : Ext W wb ∧ wb.cell? p1 = some v1 ∧ wb.cell? p2 = some v2 ∧ wb.cell? p3 = some v3 ∧ wb.cell? p4 = some v4 ∧ wb.cell? p5 = some v5 ∧ wb.cell? p6 = some v6 ∧ wb.cell? p7 = some v7 ∧ wb.cell? p8 = some v8 ∧ wb.cell? p9 = some v9 ∧ wb.cell? p10 = some v10 ∧ wb.cell? p11 = some v11 :=
  ⟨h.1.trans hx, hx.at (h.2.1), hx.at (h.2.2.1), hx.at (h.2.2.2.1), hx.at (h.2.2.2.2.1), hx.at (h.2.2.2.2.2.1), hx.at (h.2.2.2.2.2.2.1), hx.at (h.2.2.2.2.2.2.2.1), hx.at (h.2.2.2.2.2.2.2.2.1), hx.at (h.2.2.2.2.2.2.2.2.2.1), hx.at (h.2.2.2.2.2.2.2.2.2.2.1), hx.at (h.2.2.2.2.2.2.2.2.2.2.2)⟩
theorem keepE12 {W wa wb : World} {p1 p2 p3 p4 p5 p6 p7 p8 p9 p10 p11 p12 : Addr} {v1 v2 v3 v4 v5 v6 v7 v8 v9 v10 v11 v12 : Value} (h : Ext W wa ∧ wa.cell? p1 = some v1 ∧ wa.cell? p2 = some v2 ∧ wa.cell? p3 = some v3 ∧ wa.cell? p4 = some v4 ∧ wa.cell? p5 = some v5 ∧ wa.cell? p6 = some v6 ∧ wa.cell? p7 = some v7 ∧ wa.cell? p8 = some v8 ∧ wa.cell? p9 = some v9 ∧ wa.cell? p10 = some v10 ∧ wa.cell? p11 = some v11 ∧ wa.cell? p12 = some v12) (hx : Ext wa wb) : Ext W wb ∧ wb.cell? p1 = some v1 ∧ wb.cell? p2 = some v2 ∧ wb.cell? p3 = some v3 ∧ wb.cell? p4 = some v4 ∧ wb.cell? p5 = some v5 ∧ wb.cell? p6 = some v6 ∧ wb.cell? p7 = some v7 ∧ wb.cell? p8 = some v8 ∧ wb.cell? p9 = some v9 ∧ wb.cell? p10 = some v10 ∧ wb.cell? p11 = some v11 ∧ wb.cell? p12 = some v12 :=
  ⟨h.1.trans hx, hx.at (h.2.1), hx.at (h.2.2.1), hx.at (h.2.2.2.1), hx.at (h.2.2.2.2.1), hx.at (h.2.2.2.2.2.1), hx.at (h.2.2.2.2.2.2.1), hx.at (h.2.2.2.2.2.2.2.1), hx.at (h.2.2.2.2.2.2.2.2.1), hx.at (h.2.2.2.2.2.2.2.2.2.1), hx.at (h.2.2.2.2.2.2.2.2.2.2.1), hx.at (h.2.2.2.2.2.2.2.2.2.2.2.1), hx.at (h.2.2.2.2.2.2.2.2.2.2.2.2)⟩
theorem keepG1 {W wa wb : World} {p1 : Addr} {v1 : Value} (h : Gro W wa ∧ wa.cell? p1 = some v1) (hx : Gro wa wb) : Gro W wb ∧ wb.cell? p1 = some v1 :=
  ⟨h.1.trans hx, hx.at (h.2)⟩
theorem keepG2 {W wa wb : World} {p1 p2 : Addr} {v1 v2 : Value} (h : Gro W wa ∧ wa.cell? p1 = some v1 ∧ wa.cell? p2 = some v2) (hx : Gro wa wb) : Gro W wb ∧ wb.cell? p1 = some v1 ∧ wb.cell? p2 = some v2 :=
  ⟨h.1.trans hx, hx.at (h.2.1), hx.at (h.2.2)⟩
theorem keepG3 {W wa wb : World} {p1 p2 p3 : Addr} {v1 v2 v3 : Value} (h : Gro W wa ∧ wa.cell? p1 = some v1 ∧ wa.cell? p2 = some v2 ∧ wa.cell? p3 = some v3) (hx : Gro wa wb) : Gro W wb ∧ wb.cell? p1 = some v1 ∧ wb.cell? p2 = some v2 ∧ wb.cell? p3 = some v3 :=
  ⟨h.1.trans hx, hx.at (h.2.1), hx.at (h.2.2.1), hx.at (h.2.2.2)⟩
theorem keepG4 {W wa wb : World} {p1 p2 p3 p4 : Addr} {v1 v2 v3 v4 : Value} (h : Gro W wa ∧ wa.cell? p1 = some v1 ∧ wa.cell? p2 = some v2 ∧ wa.cell? p3 = some v3 ∧ wa.cell? p4 = some v4) (hx : Gro wa wb) : Gro W wb ∧ wb.cell? p1 = some v1 ∧ wb.cell? p2 = some v2 ∧ wb.cell? p3 = some v3 ∧ wb.cell? p4 = some v4 :=
  ⟨h.1.trans hx, hx.at (h.2.1), hx.at (h.2.2.1), hx.at (h.2.2.2.1), hx.at (h.2.2.2.2)⟩
theorem keepG5 {W wa wb : World} {p1 p2 p3 p4 p5 : Addr} {v1 v2 v3 v4 v5 : Value} (h : Gro W wa ∧ wa.cell? p1 = some v1 ∧ wa.cell? p2 = some v2 ∧ wa.cell? p3 = some v3 ∧ wa.cell? p4 = some v4 ∧ wa.cell? p5 = some v5) (hx : Gro wa wb) : Gro W wb ∧ wb.cell? p1 = some v1 ∧ wb.cell? p2 = some v2 ∧ wb.cell? p3 = some v3 ∧ wb.cell? p4 = some v4 ∧ wb.cell? p5 = some v5 :=
  ⟨h.1.trans hx, hx.at (h.2.1), hx.at (h.2.2.1), hx.at (h.2.2.2.1), hx.at (h.2.2.2.2.1), hx.at (h.2.2.2.2.2)⟩
theorem keepG6 {W wa wb : World} {p1 p2 p3 p4 p5 p6 : Addr} {v1 v2 v3 v4 v5 v6 : Value} (h : Gro W wa ∧ wa.cell? p1 = some v1 ∧ wa.cell? p2 = some v2 ∧ wa.cell? p3 = some v3 ∧ wa.cell? p4 = some v4 ∧ wa.cell? p5 = some v5 ∧ wa.cell? p6 = some v6) (hx : Gro wa wb) : Gro W wb ∧ wb.cell? p1 = some v1 ∧ wb.cell? p2 = some v2 ∧ wb.cell? p3 = some v3 ∧ wb.cell? p4 = some v4 ∧ wb.cell? p5 = some v5 ∧ wb.cell? p6 = some v6 :=
  ⟨h.1.trans hx, hx.at (h.2.1), hx.at (h.2.2.1), hx.at (h.2.2.2.1), hx.at (h.2.2.2.2.1), hx.at (h.2.2.2.2.2.1), hx.at (h.2.2.2.2.2.2)⟩
theorem keepG7 {W wa wb : World} {p1 p2 p3 p4 p5 p6 p7 : Addr} {v1 v2 v3 v4 v5 v6 v7 : Value} (h : Gro W wa ∧ wa.cell? p1 = some v1 ∧ wa.cell? p2 = some v2 ∧ wa.cell? p3 = some v3 ∧ wa.cell? p4 = some v4 ∧ wa.cell? p5 = some v5 ∧ wa.cell? p6 = some v6 ∧ wa.cell? p7 = some v7) (hx : Gro wa wb) : Gro W wb ∧ wb.cell? p1 = some v1 ∧ wb.cell? p2 = some v2 ∧ wb.cell? p3 = some v3 ∧ wb.cell? p4 = some v4 ∧ wb.cell? p5 = some v5 ∧ wb.cell? p6 = some v6 ∧ wb.cell? p7 = some v7 :=
  ⟨h.1.trans hx, hx.at (h.2.1), hx.at (h.2.2.1), hx.at (h.2.2.2.1), hx.at (h.2.2.2.2.1), hx.at (h.2.2.2.2.2.1), hx.at (h.2.2.2.2.2.2.1), hx.at (h.2.2.2.2.2.2.2)⟩
theorem keepG8 {W wa wb : World} {p1 p2 p3 p4 p5 p6 p7 p8 : Addr} {v1 v2 v3 v4 v5 v6 v7 v8 : Value} (h : Gro W wa ∧ wa.cell? p1 = some v1 ∧ wa.cell? p2 = some v2 ∧ wa.cell? p3 = some v3 ∧ wa.cell? p4 = some v4 ∧ wa.cell? p5 = some v5 ∧ wa.cell? p6 = some v6 ∧ wa.cell? p7 = some v7 ∧ wa.cell? p8 = some v8) (hx : Gro wa wb) : Gro W wb ∧ wb.cell? p1 = some v1 ∧ wb.cell? p2 = some v2 ∧ wb.cell? p3 = some v3 ∧ wb.cell? p4 = some v4 ∧ wb.cell? p5 = some v5 ∧ wb.cell? p6 = some v6 ∧ wb.cell? p7 = some v7 ∧ wb.cell? p8 = some v8 :=
  ⟨h.1.trans hx, hx.at (h.2.1), hx.at (h.2.2.1), hx.at (h.2.2.2.1), hx.at (h.2.2.2.2.1), hx.at (h.2.2.2.2.2.1), hx.at (h.2.2.2.2.2.2.1), hx.at (h.2.2.2.2.2.2.2.1), hx.at (h.2.2.2.2.2.2.2.2)⟩
theorem keepG9 {W wa wb : World} {p1 p2 p3 p4 p5 p6 p7 p8 p9 : Addr} {v1 v2 v3 v4 v5 v6 v7 v8 v9 : Value} (h : Gro W wa ∧ wa.cell? p1 = some v1 ∧ wa.cell? p2 = some v2 ∧ wa.cell? p3 = some v3 ∧ wa.cell? p4 = some v4 ∧ wa.cell? p5 = some v5 ∧ wa.cell? p6 = some v6 ∧ wa.cell? p7 = some v7 ∧ wa.cell? p8 = some v8 ∧ wa.cell? p9 = some v9) (hx : Gro wa wb) : Gro W wb ∧ wb.cell? p1 = some v1 ∧ wb.cell? p2 = some v2 ∧ wb.cell? p3 = some v3 ∧ wb.cell? p4 = some v4 ∧ wb.cell? p5 = some v5 ∧ wb.cell? p6 = some v6 ∧ wb.cell? p7 = some v7 ∧ wb.cell? p8 = some v8 ∧ wb.cell? p9 = some v9 :=
  ⟨h.1.trans hx, hx.at (h.2.1), hx.at (h.2.2.1), hx.at (h.2.2.2.1), hx.at (h.2.2.2.2.1), hx.at (h.2.2.2.2.2.1), hx.at (h.2.2.2.2.2.2.1), hx.at (h.2.2.2.2.2.2.2.1), hx.at (h.2.2.2.2.2.2.2.2.1), hx.at (h.2.2.2.2.2.2.2.2.2)⟩
theorem keepG10 {W wa wb : World} {p1 p2 p3 p4 p5 p6 p7 p8 p9 p10 : Addr} {v1 v2 v3 v4 v5 v6 v7 v8 v9 v10 : Value} (h : Gro W wa ∧ wa.cell? p1 = some v1 ∧ wa.cell? p2 = some v2 ∧ wa.cell? p3 = some v3 ∧ wa.cell? p4 = some v4 ∧ wa.cell? p5 = some v5 ∧ wa.cell? p6 = some v6 ∧ wa.cell? p7 = some v7 ∧ wa.cell? p8 = some v8 ∧ wa.cell? p9 = some v9 ∧ wa.cell? p10 = some v10) (hx : Gro wa wb) : Gro W wb ∧ wb.cell? p1 = some v1 ∧ wb.cell? p2 = some v2 ∧ wb.cell? p3 = some v3 ∧ wb.cell? p4 = some v4 ∧ wb.cell? p5 = some v5 ∧ wb.cell? p6 = some v6 ∧ wb.cell? p7 = some v7 ∧ wb.cell? p8 = some v8 ∧ wb.cell? p9 = some v9 ∧ wb.cell? p10 = some v10 :=
  ⟨h.1.trans hx, hx.at (h.2.1), hx.at (h.2.2.1), hx.at (h.2.2.2.1), hx.at (h.2.2.2.2.1), hx.at (h.2.2.2.2.2.1), hx.at (h.2.2.2.2.2.2.1), hx.at (h.2.2.2.2.2.2.2.1), hx.at (h.2.2.2.2.2.2.2.2.1), hx.at (h.2.2.2.2.2.2.2.2.2.1), hx.at (h.2.2.2.2.2.2.2.2.2.2)⟩
theorem keepG11 {W wa wb : World} {p1 p2 p3 p4 p5 p6 p7 p8 p9 p10 p11 : Addr} {v1 v2 v3 v4 v5 v6 v7 v8 v9 v10 v11 : Value} (h : Gro W wa ∧ wa.cell? p1 = some v1 ∧ wa.cell? p2 = some v2 ∧ wa.cell? p3 = some v3 ∧ wa.cell? p4 = some v4 ∧ wa.cell? p5 = some v5 ∧ wa.cell? p6 = some v6 ∧ wa.cell? p7 = some v7 ∧ wa.cell? p8 = some v8 ∧ wa.cell? p9 = some v9 ∧ wa.cell? p10 = some v10 ∧ wa.cell? p11 = some v11) (hx : Gro wa wb) : Gro W wb ∧ wb.cell? p1 = some v1 ∧ wb.cell? p2 = some v2 ∧ wb.cell? p3 = some v3 ∧ wb.cell? p4 = some v4 ∧ wb.cell? p5 = some v5 ∧ wb.cell? p6 = some v6 ∧ wb.cell? p7 = some v7 ∧ wb.cell? p8 = some v8 ∧ wb.cell? p9 = some v9 ∧ wb.cell? p10 = some v10 ∧ wb.cell? p11 = some v11 :=
  ⟨h.1.trans hx, hx.at (h.2.1), hx.at (h.2.2.1), hx.at (h.2.2.2.1), hx.at (h.2.2.2.2.1), hx.at (h.2.2.2.2.2.1), hx.at (h.2.2.2.2.2.2.1), hx.at (h.2.2.2.2.2.2.2.1), hx.at (h.2.2.2.2.2.2.2.2.1), hx.at (h.2.2.2.2.2.2.2.2.2.1), hx.at (h.2.2.2.2.2.2.2.2.2.2.1), hx.at (h.2.2.2.2.2.2.2.2.2.2.2)⟩
theorem keepG12 {W wa wb : World} {p1 p2 p3 p4 p5 p6 p7 p8 p9 p10 p11 p12 : Addr} {v1 v2 v3 v4 v5 v6 v7 v8 v9 v10 v11 v12 : Value} (h : Gro W wa ∧ wa.cell? p1 = some v1 ∧ wa.cell? p2 = some v2 ∧ wa.cell? p3 = some v3 ∧ wa.cell? p4 = some v4 ∧ wa.cell? p5 = some v5 ∧ wa.cell? p6 = some v6 ∧ wa.cell? p7 = some v7 ∧ wa.cell? p8 = some v8 ∧ wa.cell? p9 = some v9 ∧ wa.cell? p10 = some v10 ∧ wa.cell? p11 = some v11 ∧ wa.cell? p12 = some v12) (hx : Gro wa wb) : Gro W wb ∧ wb.cell? p1 = some v1 ∧ wb.cell? p2 = some v2 ∧ wb.cell? p3 = some v3 ∧ wb.cell? p4 = some v4 ∧ wb.cell? p5 = some v5 ∧ wb.cell? p6 = some v6 ∧ wb.cell? p7 = some v7 ∧ wb.cell? p8 = some v8 ∧ wb.cell? p9 = some v9 ∧ wb.cell? p10 = some v10 ∧ wb.cell? p11 = some v11 ∧ wb.cell? p12 = some v12 :=
  ⟨h.1.trans hx, hx.at (h.2.1), hx.at (h.2.2.1), hx.at (h.2.2.2.1), hx.at (h.2.2.2.2.1), hx.at (h.2.2.2.2.2.1), hx.at (h.2.2.2.2.2.2.1), hx.at (h.2.2.2.2.2.2.2.1), hx.at (h.2.2.2.2.2.2.2.2.1), hx.at (h.2.2.2.2.2.2.2.2.2.1), hx.at (h.2.2.2.2.2.2.2.2.2.2.1), hx.at (h.2.2.2.2.2.2.2.2.2.2.2.1), hx.at (h.2.2.2.2.2.2.2.2.2.2.2.2)⟩

end Go.Proofs.YtdgpbpbjlnlijaaGreatDoor

/- Contracts of value.Compare, value.CompareRows, slices.Compare at ints, bag.Compare. -/
namespace Go.Proofs.YtdgpbpbjlnlijaaGreatDoor
open Go.RowKit

@[reducible] def valV (x : Val) : Value := .agg #[.int .i64 x.kind, .int .i64 x.n, .string x.s]
def cmpS (a b : ByteArray) : Int := Lib.compareBytes a.data.toList b.data.toList
def cmpVal (a b : Val) : Int := orI [cmpI a.kind b.kind, cmpI a.n b.n, cmpS a.s b.s]

theorem or_new (W : World) (l : List Int) (T : TypeId) : ∀ k (h : k < l.length), (W.alloc (.cells (l.map (Value.int .i64)).toArray T)).cell? ⟨W.heap.size, 0 + k, none⟩ = some (.int .i64 l[k]) := by
  intro k h
  rw [Nat.zero_add, World.cell?_alloc_at _ _ _ _ rfl]
  simp [h]

set_option maxHeartbeats 1000000 in
theorem compare_val (a b : Val) (w : World) : Calls Tryz.prog 136 #[valV a, valV b] w fun e w' => e = .returned (.int .i64 (cmpVal a b)) ∧ Gro w w' := by
  obtain ⟨ak, an, sa⟩ := a
  obtain ⟨bk, bn, sb⟩ := b
  unfold cmpVal
  dsimp only
  go_enter Tryz.func136, Tryz.ntmps136
  go_wp2_with fail
  have c1 : ((w.alloc (.cells #[.int .i64 ak, .int .i64 an, .string sa] 44)).alloc (.cells #[.int .i64 bk, .int .i64 bn, .string sb] 44)).cell? ⟨w.heap.size, 0, none⟩ = some (.int .i64 ak) := by go_simp
  have c2 : ((w.alloc (.cells #[.int .i64 ak, .int .i64 an, .string sa] 44)).alloc (.cells #[.int .i64 bk, .int .i64 bn, .string sb] 44)).cell? ⟨w.heap.size, 1, none⟩ = some (.int .i64 an) := by go_simp
  have c3 : ((w.alloc (.cells #[.int .i64 ak, .int .i64 an, .string sa] 44)).alloc (.cells #[.int .i64 bk, .int .i64 bn, .string sb] 44)).cell? ⟨w.heap.size, 2, none⟩ = some (.string sa) := by go_simp
  have c4 : ((w.alloc (.cells #[.int .i64 ak, .int .i64 an, .string sa] 44)).alloc (.cells #[.int .i64 bk, .int .i64 bn, .string sb] 44)).cell? ⟨w.heap.size + 1, 0, none⟩ = some (.int .i64 bk) := by go_simp
  have c5 : ((w.alloc (.cells #[.int .i64 ak, .int .i64 an, .string sa] 44)).alloc (.cells #[.int .i64 bk, .int .i64 bn, .string sb] 44)).cell? ⟨w.heap.size + 1, 1, none⟩ = some (.int .i64 bn) := by go_simp
  have c6 : ((w.alloc (.cells #[.int .i64 ak, .int .i64 an, .string sa] 44)).alloc (.cells #[.int .i64 bk, .int .i64 bn, .string sb] 44)).cell? ⟨w.heap.size + 1, 2, none⟩ = some (.string sb) := by go_simp
  have hxx := ((Gro.refl w).alloc (.cells #[.int .i64 ak, .int .i64 an, .string sa] 44)).alloc (.cells #[.int .i64 bk, .int .i64 bn, .string sb] 44)
  generalize ((w.alloc (.cells #[.int .i64 ak, .int .i64 an, .string sa] 44)).alloc (.cells #[.int .i64 bk, .int .i64 bn, .string sb] 44)) = w1 at c1 c2 c3 c4 c5 c6 hxx ⊢
  go_region_held3 (fun w' => Gro w w' ∧ w'.cell? ⟨w.heap.size, 0, none⟩ = some (.int .i64 ak) ∧ w'.cell? ⟨w.heap.size, 1, none⟩ = some (.int .i64 an) ∧ w'.cell? ⟨w.heap.size, 2, none⟩ = some (.string sa) ∧ w'.cell? ⟨w.heap.size + 1, 0, none⟩ = some (.int .i64 bk) ∧ w'.cell? ⟨w.heap.size + 1, 1, none⟩ = some (.int .i64 bn) ∧ w'.cell? ⟨w.heap.size + 1, 2, none⟩ = some (.string sb))
    (first | exact ⟨hxx.drew, c1, c2, c3, c4, c5, c6⟩ | assumption | exact keepG6 (by assumption) ((Gro.refl _).alloc _))
    (first | (go_at_call 112; refine (compare_int _ _ _).mono ?_; rintro e w2 ⟨rfl, rfl⟩) | (go_at_call 191; refine (compare_int64 _ _ _).mono ?_; rintro e w2 ⟨rfl, rfl⟩) | (go_at_call 192; refine (Tryz.strings_Compare _ _ _).mono ?_; rintro e w2 ⟨rfl, rfl⟩) | (go_at_call 114; refine (or_any w1.heap.size 0 3 [cmpI ak bk, cmpI an bn, cmpS sa sb] _ (by simp [maxLen]) (by exact fun k hk => or_new w1 [cmpI ak bk, cmpI an bn, cmpS sa sb] 3 k hk)).mono ?_; rintro e w2 ⟨rfl, rfl⟩))
  all_goals (obtain ⟨hfin, _⟩ := ‹Gro w _ ∧ _›)
  all_goals go_wp2_with fail
  all_goals go_ret
  all_goals exact ⟨rfl, hfin⟩

end Go.Proofs.YtdgpbpbjlnlijaaGreatDoor

/- the values that the laws build out of numbers (annalistlaw0): IntValue, Value, Vals, Period -/
namespace Go.Proofs.YtdgpbpbjlnlijaaGreatDoor
open Go.RowKit

/-- the value Null -/
def nV : Val := ⟨0, 0, ByteArray.empty⟩
def intVal (n : Int) : Val := ⟨1, n, ByteArray.empty⟩
theorem int_value (n : Int) (w : World) : Calls Tryz.prog 38 #[.int .i64 n] w fun e w' => e = .returned (valV (intVal n)) ∧ Ext w w' := by
  go_enter Tryz.func38, Tryz.ntmps38
  go_wp2_with fail
  exact bodyPost_ret (v := valV (intVal n)) (by simp [results, Tryz.results38, go_sem, valV, intVal]; rfl) rfl ⟨rfl, by first | exact ((Ext.refl w).alloc _) | exact Below.setCell (Below.setCell (Below.setCell ((Ext.refl w).alloc _) (by simp) _) (by simp) _) (by simp) _⟩

def genStr (x : Int) : ByteArray := if x % 3 = 0 then ⟨#[]⟩ else if x % 3 = 1 then ⟨#[97]⟩ else ⟨#[98, 39]⟩
def genV0 (x : Int) : Val := if x % 7 = 6 then nV else intVal (x % 3 - 1)
def genV1 (x : Int) : Val := if x % 7 = 6 then nV else ⟨2, 0, genStr x⟩

theorem value_0 (x : Int) (w : World) (h0 : 0 ≤ x) (h1 : x ≤ 65535) : Calls Tryz.prog 115 #[.int .i64 0, .int .u16 x] w fun e w' => e = .returned (valV (genV0 x)) ∧ Ext w w' := by
  by_cases h7 : x % 7 = 6
  · have hb : (x % 7 == 6) = true := by simp [h7]
    have hv : genV0 x = nV := if_pos h7
    have HV := Lib.hid hv
    clear h7 hv
    go_enter Tryz.func115, Tryz.ntmps115
    go_wp2_with fail
    exact bodyPost_ret (v := valV (genV0 x)) (by rw [HV.out]; simp [results, Tryz.results115, go_sem, valV, nV]; rfl) rfl ⟨rfl, (Ext.refl w).alloc _⟩
  · have hb : (x % 7 == 6) = false := by simp [h7]
    have hv : genV0 x = intVal (x % 3 - 1) := if_neg h7
    have HV := Lib.hid hv
    clear h7 hv
    go_enter Tryz.func115, Tryz.ntmps115
    go_wp2_with fail
    refine (int_value _ _).mono ?_
    rintro e w1 ⟨rfl, x1⟩
    have z1 := x1.size
    simp at z1
    have c0 := x1.at (p := ⟨w.heap.size, 0, none⟩) (v := .int .i64 0) (by go_simp)
    have c1 := x1.at (p := ⟨w.heap.size, 1, none⟩) (v := .int .i64 0) (by go_simp)
    have c2 := x1.at (p := ⟨w.heap.size, 2, none⟩) (v := .string ⟨#[]⟩) (by go_simp)
    have f0 := x1.unfrozen (p := ⟨w.heap.size, 0, none⟩) (v := .int .i64 0) (by go_simp) (by go_simp)
    have f1 := x1.unfrozen (p := ⟨w.heap.size, 1, none⟩) (v := .int .i64 0) (by go_simp) (by go_simp)
    have f2 := x1.unfrozen (p := ⟨w.heap.size, 2, none⟩) (v := .string ⟨#[]⟩) (by go_simp) (by go_simp)
    go_wp2_with fail
    exact bodyPost_ret (v := valV (genV0 x)) (by rw [HV.out]; simp [results, Tryz.results115, go_sem, valV, intVal, c0, c1, c2]) rfl ⟨rfl, Below.setCell (Below.setCell (Below.setCell (((Ext.refl w).alloc _).trans x1) (by simp) _) (by simp) _) (by simp) _⟩

theorem value_1 (x : Int) (w : World) (h0 : 0 ≤ x) (h1 : x ≤ 65535) : Calls Tryz.prog 115 #[.int .i64 1, .int .u16 x] w fun e w' => e = .returned (valV (genV1 x)) ∧ Ext w w' := by
  by_cases h7 : x % 7 = 6
  · have hb : (x % 7 == 6) = true := by simp [h7]
    have hv : genV1 x = nV := if_pos h7
    have HV := Lib.hid hv
    clear h7 hv
    go_enter Tryz.func115, Tryz.ntmps115
    go_wp2_with fail
    exact bodyPost_ret (v := valV (genV1 x)) (by rw [HV.out]; simp [results, Tryz.results115, go_sem, valV, nV]; rfl) rfl ⟨rfl, (Ext.refl w).alloc _⟩
  · have hb : (x % 7 == 6) = false := by simp [h7]
    have hv : genV1 x = ⟨2, 0, genStr x⟩ := if_neg h7
    have h3 : x % 3 = 0 ∨ x % 3 = 1 ∨ x % 3 = 2 := by omega
    unfold genStr at hv
    clear h7
    rcases h3 with h3 | h3 | h3
    all_goals
      rw [h3] at hv
      simp at hv
      have HV := Lib.hid hv
      clear hv
      go_enter Tryz.func115, Tryz.ntmps115
      go_wp2_with fail
      exact bodyPost_ret (v := valV (genV1 x)) (by rw [HV.out]; simp [results, Tryz.results115, go_sem, valV]) rfl ⟨rfl, by first | exact Below.setCell (Below.setCell (Below.setCell (((Ext.refl w).alloc _).alloc _) (by simp) _) (by simp) _) (by simp) _ | exact ((Ext.refl w).alloc _).alloc _⟩

def okVal (x : Val) : Prop := (-9223372036854775808 ≤ x.kind ∧ x.kind ≤ 9223372036854775807) ∧ (-9223372036854775808 ≤ x.n ∧ x.n ≤ 9223372036854775807) ∧ x.s.size ≤ maxLen
theorem ok_nV : okVal nV := ⟨by decide, by decide, by simp [nV, maxLen]⟩
theorem ok_genV0 (x : Int) : okVal (genV0 x) := by
  unfold genV0
  split
  · exact ok_nV
  · exact ⟨by simp [intVal], by simp [intVal]; omega, by simp [intVal, maxLen]⟩
theorem ok_genV1 (x : Int) : okVal (genV1 x) := by
  unfold genV1
  split
  · exact ok_nV
  · refine ⟨by simp, by simp, ?_⟩
    unfold genStr
    (repeat' split) <;> simp [maxLen, ByteArray.size]
/-- what the two values are that make a row -/
def genVals (x y : Int) : List Val := [genV0 x, genV1 y]
theorem vals_gen (x y : Int) (w : World) (h0 : 0 ≤ x) (h1 : x ≤ 65535) (h2 : 0 ≤ y) (h3 : y ≤ 65535) :
    Calls Tryz.prog 66 #[.int .u16 x, .int .u16 y] w fun e w' => ∃ v, e = .returned v ∧ SliceOf Rep.val (on w' (fun k => w.heap.size ≤ k)) v (genVals x y) ∧ Ext w w' := by
  go_enter Tryz.func66, Tryz.ntmps66
  go_wp2_with fail
  refine (value_0 x _ h0 h1).mono ?_
  rintro e w1 ⟨rfl, x1⟩
  go_wp2_with fail
  refine (value_1 y _ h2 h3).mono ?_
  rintro e w2 ⟨rfl, x2⟩
  go_wp2_with fail
  refine bodyPost_ret (v := .slice (some ⟨w2.heap.size, 0, none⟩) 2 2) (by simp [results, Tryz.results66, go_sem]) rfl ⟨_, rfl, ?_, (x1.trans x2).alloc _⟩
  refine SliceOf.flatOn flat_val (slice_lit Rep.val w2 _ 44 [[.int .i64 (genV0 x).kind, .int .i64 (genV0 x).n, .string (genV0 x).s], [.int .i64 (genV1 y).kind, .int .i64 (genV1 y).n, .string (genV1 y).s]] (genVals x y) rfl ⟨⟨rfl, ok_genV0 x⟩, ⟨rfl, ok_genV1 y⟩, trivial⟩ (by simp [genVals, maxLen])) fun ad n c h => ?_
  injection h with h _ _
  injection h with h
  rw [← h]
  exact (x1.trans x2).size

def genFrom (x : Int) : Int := x % 40
def genTo (x y : Int) : Int := if y % 11 = 0 then 1000000 else x % 40 + 1 + y % 15
theorem gen_per (x y : Int) : 0 ≤ genFrom x ∧ genFrom x < 40 ∧ genFrom x < genTo x y ∧ genTo x y ≤ 1000000 := by
  unfold genFrom genTo
  split <;> omega
theorem period_gen (x y : Int) (w : World) (h0 : 0 ≤ x) (h1 : x ≤ 65535) (h2 : 0 ≤ y) (h3 : y ≤ 65535) :
    Calls Tryz.prog 101 #[.int .u16 x, .int .u16 y] w fun e w' => e = .returned (.agg #[.int .i64 (genFrom x), .int .i64 (genTo x y)]) ∧ Ext w w' := by
  by_cases h7 : y % 11 = 0
  · have hb : (y % 11 == 0) = true := by simp [h7]
    have hv : genTo x y = 1000000 := if_pos h7
    have HV := Lib.hid hv
    clear h7 hv
    go_enter Tryz.func101, Tryz.ntmps101
    go_wp2_with fail
    exact bodyPost_ret (v := .agg #[.int .i64 (genFrom x), .int .i64 (genTo x y)]) (by rw [HV.out]; simp [results, Tryz.results101, go_sem, genFrom]) rfl ⟨rfl, ((Ext.refl w).alloc _).alloc _⟩
  · have hb : (y % 11 == 0) = false := by simp [h7]
    have hv : genTo x y = x % 40 + 1 + y % 15 := if_neg h7
    have HV := Lib.hid hv
    clear h7 hv
    go_enter Tryz.func101, Tryz.ntmps101
    go_wp2_with fail
    exact bodyPost_ret (v := .agg #[.int .i64 (genFrom x), .int .i64 (genTo x y)]) (by rw [HV.out]; simp [results, Tryz.results101, go_sem, genFrom]) rfl ⟨rfl, ((Ext.refl w).alloc _).alloc _⟩

end Go.Proofs.YtdgpbpbjlnlijaaGreatDoor

/- the tuples that the laws build out of numbers (annalistlaw0.Tuple) -/
namespace Go.Proofs.YtdgpbpbjlnlijaaGreatDoor
open Go.RowKit

/-- five numbers of 16 bits -/
structure Num5 where
  a : Int
  b : Int
  c : Int
  d : Int
  e : Int
def okNum (x : Num5) : Prop := (0 ≤ x.a ∧ x.a ≤ 65535) ∧ (0 ≤ x.b ∧ x.b ≤ 65535) ∧ (0 ≤ x.c ∧ x.c ≤ 65535) ∧ (0 ≤ x.d ∧ x.d ≤ 65535) ∧ (0 ≤ x.e ∧ x.e ≤ 65535)
def Rep.num : Rep Num5 where
  size := 5
  holds _ cs x := cs = [.int .u16 x.a, .int .u16 x.b, .int .u16 x.c, .int .u16 x.d, .int .u16 x.e] ∧ okNum x
  len := by rintro w cs x ⟨rfl, _⟩; rfl
  ext := by rintro w w' cs x h _; exact h
  one := by rintro w cs x ⟨rfl, _⟩; simp [Value.oneCell']
def genTup (x : Num5) : Tup := ⟨genVals x.c x.d, genFrom x.a, genTo x.a x.b, [1 + x.e % 5]⟩

/-- five cells of a block, kept by the store of four others -/
theorem keepW4 {W wa : World} {B b : Nat} {u0 u1 u2 u3 v0 v1 v2 v3 v4 : Value}
    (h : Ext W wa ∧ wa.cell? ⟨b, 0, none⟩ = some v0 ∧ wa.cell? ⟨b, 1, none⟩ = some v1 ∧ wa.cell? ⟨b, 2, none⟩ = some v2 ∧ wa.cell? ⟨b, 3, none⟩ = some v3 ∧ wa.cell? ⟨b, 4, none⟩ = some v4) (hB : W.heap.size ≤ B) (hb : B ≠ b) :
    Ext W ((((wa.setCell ⟨B, 0, none⟩ u0).setCell ⟨B, 1, none⟩ u1).setCell ⟨B, 2, none⟩ u2).setCell ⟨B, 3, none⟩ u3) ∧ ((((wa.setCell ⟨B, 0, none⟩ u0).setCell ⟨B, 1, none⟩ u1).setCell ⟨B, 2, none⟩ u2).setCell ⟨B, 3, none⟩ u3).cell? ⟨b, 0, none⟩ = some v0 ∧ ((((wa.setCell ⟨B, 0, none⟩ u0).setCell ⟨B, 1, none⟩ u1).setCell ⟨B, 2, none⟩ u2).setCell ⟨B, 3, none⟩ u3).cell? ⟨b, 1, none⟩ = some v1 ∧ ((((wa.setCell ⟨B, 0, none⟩ u0).setCell ⟨B, 1, none⟩ u1).setCell ⟨B, 2, none⟩ u2).setCell ⟨B, 3, none⟩ u3).cell? ⟨b, 2, none⟩ = some v2 ∧ ((((wa.setCell ⟨B, 0, none⟩ u0).setCell ⟨B, 1, none⟩ u1).setCell ⟨B, 2, none⟩ u2).setCell ⟨B, 3, none⟩ u3).cell? ⟨b, 3, none⟩ = some v3 ∧ ((((wa.setCell ⟨B, 0, none⟩ u0).setCell ⟨B, 1, none⟩ u1).setCell ⟨B, 2, none⟩ u2).setCell ⟨B, 3, none⟩ u3).cell? ⟨b, 4, none⟩ = some v4 :=
  ⟨Below.setCell (Below.setCell (Below.setCell (Below.setCell h.1 hB u0) hB u1) hB u2) hB u3, cell_set (cell_set (cell_set (cell_set h.2.1 hb) hb) hb) hb, cell_set (cell_set (cell_set (cell_set h.2.2.1 hb) hb) hb) hb, cell_set (cell_set (cell_set (cell_set h.2.2.2.1 hb) hb) hb) hb, cell_set (cell_set (cell_set (cell_set h.2.2.2.2.1 hb) hb) hb) hb, cell_set (cell_set (cell_set (cell_set h.2.2.2.2.2 hb) hb) hb) hb⟩
/-- four cells that may be written, as they stand in a later world -/
def Free4 (w : World) (B : Nat) : Prop := (∃ u, w.cell? ⟨B, 0, none⟩ = some u) ∧ (∃ u, w.cell? ⟨B, 1, none⟩ = some u) ∧ (∃ u, w.cell? ⟨B, 2, none⟩ = some u) ∧ (∃ u, w.cell? ⟨B, 3, none⟩ = some u) ∧ w.frozen? ⟨B, 0, none⟩ = false ∧ w.frozen? ⟨B, 1, none⟩ = false ∧ w.frozen? ⟨B, 2, none⟩ = false ∧ w.frozen? ⟨B, 3, none⟩ = false
theorem Free4.ext {w w' : World} {B : Nat} (h : Free4 w B) (hx : Ext w w') : Free4 w' B := by
  obtain ⟨⟨a, ha⟩, ⟨b, hb⟩, ⟨c, hc⟩, ⟨d, hd⟩, fa, fb, fc, fd⟩ := h
  exact ⟨⟨a, hx.at ha⟩, ⟨b, hx.at hb⟩, ⟨c, hx.at hc⟩, ⟨d, hx.at hd⟩, hx.unfrozen ha fa, hx.unfrozen hb fb, hx.unfrozen hc fc, hx.unfrozen hd fd⟩

theorem set4_read {wa : World} {B : Nat} (h : Free4 wa B) (u0 u1 u2 u3 : Value) :
    ((((wa.setCell ⟨B, 0, none⟩ u0).setCell ⟨B, 1, none⟩ u1).setCell ⟨B, 2, none⟩ u2).setCell ⟨B, 3, none⟩ u3).cell? ⟨B, 0, none⟩ = some u0 ∧ ((((wa.setCell ⟨B, 0, none⟩ u0).setCell ⟨B, 1, none⟩ u1).setCell ⟨B, 2, none⟩ u2).setCell ⟨B, 3, none⟩ u3).cell? ⟨B, 1, none⟩ = some u1 ∧ ((((wa.setCell ⟨B, 0, none⟩ u0).setCell ⟨B, 1, none⟩ u1).setCell ⟨B, 2, none⟩ u2).setCell ⟨B, 3, none⟩ u3).cell? ⟨B, 2, none⟩ = some u2 ∧ ((((wa.setCell ⟨B, 0, none⟩ u0).setCell ⟨B, 1, none⟩ u1).setCell ⟨B, 2, none⟩ u2).setCell ⟨B, 3, none⟩ u3).cell? ⟨B, 3, none⟩ = some u3 := by
  obtain ⟨⟨a, ha⟩, ⟨b, hb⟩, ⟨c, hc⟩, ⟨d, hd⟩, _⟩ := h
  refine ⟨?_, ?_, ?_, ?_⟩ <;> go_simp
theorem alloc4_read {w : World} {B : Nat} {u0 u1 u2 u3 : Value} (h : w.cell? ⟨B, 0, none⟩ = some u0 ∧ w.cell? ⟨B, 1, none⟩ = some u1 ∧ w.cell? ⟨B, 2, none⟩ = some u2 ∧ w.cell? ⟨B, 3, none⟩ = some u3) (o : Obj) :
    (w.alloc o).cell? ⟨B, 0, none⟩ = some u0 ∧ (w.alloc o).cell? ⟨B, 1, none⟩ = some u1 ∧ (w.alloc o).cell? ⟨B, 2, none⟩ = some u2 ∧ (w.alloc o).cell? ⟨B, 3, none⟩ = some u3 :=
  ⟨cell_alloc h.1 o, cell_alloc h.2.1 o, cell_alloc h.2.2.1 o, cell_alloc h.2.2.2 o⟩

theorem ret4 {P : Program} {fn : Func} {R : Ending → World → Prop} {a : Act} {wa : World} {B : Nat} {u0 u1 u2 u3 : Value} (h : Free4 wa B)
    (hr : (((((wa.setCell ⟨B, 0, none⟩ u0).setCell ⟨B, 1, none⟩ u1).setCell ⟨B, 2, none⟩ u2).setCell ⟨B, 3, none⟩ u3).cell? ⟨B, 0, none⟩ = some u0 ∧ ((((wa.setCell ⟨B, 0, none⟩ u0).setCell ⟨B, 1, none⟩ u1).setCell ⟨B, 2, none⟩ u2).setCell ⟨B, 3, none⟩ u3).cell? ⟨B, 1, none⟩ = some u1 ∧ ((((wa.setCell ⟨B, 0, none⟩ u0).setCell ⟨B, 1, none⟩ u1).setCell ⟨B, 2, none⟩ u2).setCell ⟨B, 3, none⟩ u3).cell? ⟨B, 2, none⟩ = some u2 ∧ ((((wa.setCell ⟨B, 0, none⟩ u0).setCell ⟨B, 1, none⟩ u1).setCell ⟨B, 2, none⟩ u2).setCell ⟨B, 3, none⟩ u3).cell? ⟨B, 3, none⟩ = some u3) → (results fn a.tmps).run P ((((wa.setCell ⟨B, 0, none⟩ u0).setCell ⟨B, 1, none⟩ u1).setCell ⟨B, 2, none⟩ u2).setCell ⟨B, 3, none⟩ u3) = .ok (.agg #[u0, u1, u2, u3]) ((((wa.setCell ⟨B, 0, none⟩ u0).setCell ⟨B, 1, none⟩ u1).setCell ⟨B, 2, none⟩ u2).setCell ⟨B, 3, none⟩ u3)) (hd : a.defers = [])
    (hR : R (.returned (.agg #[u0, u1, u2, u3])) ((((wa.setCell ⟨B, 0, none⟩ u0).setCell ⟨B, 1, none⟩ u1).setCell ⟨B, 2, none⟩ u2).setCell ⟨B, 3, none⟩ u3)) : bodyPost P fn R .ret a ((((wa.setCell ⟨B, 0, none⟩ u0).setCell ⟨B, 1, none⟩ u1).setCell ⟨B, 2, none⟩ u2).setCell ⟨B, 3, none⟩ u3) := bodyPost_ret (hr (set4_read h u0 u1 u2 u3)) hd hR
theorem ret4a {P : Program} {fn : Func} {R : Ending → World → Prop} {a : Act} {wa : World} {B : Nat} {u0 u1 u2 u3 : Value} {o : Obj} (h : Free4 wa B)
    (hr : ((((((wa.setCell ⟨B, 0, none⟩ u0).setCell ⟨B, 1, none⟩ u1).setCell ⟨B, 2, none⟩ u2).setCell ⟨B, 3, none⟩ u3).alloc o).cell? ⟨B, 0, none⟩ = some u0 ∧ (((((wa.setCell ⟨B, 0, none⟩ u0).setCell ⟨B, 1, none⟩ u1).setCell ⟨B, 2, none⟩ u2).setCell ⟨B, 3, none⟩ u3).alloc o).cell? ⟨B, 1, none⟩ = some u1 ∧ (((((wa.setCell ⟨B, 0, none⟩ u0).setCell ⟨B, 1, none⟩ u1).setCell ⟨B, 2, none⟩ u2).setCell ⟨B, 3, none⟩ u3).alloc o).cell? ⟨B, 2, none⟩ = some u2 ∧ (((((wa.setCell ⟨B, 0, none⟩ u0).setCell ⟨B, 1, none⟩ u1).setCell ⟨B, 2, none⟩ u2).setCell ⟨B, 3, none⟩ u3).alloc o).cell? ⟨B, 3, none⟩ = some u3) → (results fn a.tmps).run P (((((wa.setCell ⟨B, 0, none⟩ u0).setCell ⟨B, 1, none⟩ u1).setCell ⟨B, 2, none⟩ u2).setCell ⟨B, 3, none⟩ u3).alloc o) = .ok (.agg #[u0, u1, u2, u3]) (((((wa.setCell ⟨B, 0, none⟩ u0).setCell ⟨B, 1, none⟩ u1).setCell ⟨B, 2, none⟩ u2).setCell ⟨B, 3, none⟩ u3).alloc o)) (hd : a.defers = [])
    (hR : R (.returned (.agg #[u0, u1, u2, u3])) (((((wa.setCell ⟨B, 0, none⟩ u0).setCell ⟨B, 1, none⟩ u1).setCell ⟨B, 2, none⟩ u2).setCell ⟨B, 3, none⟩ u3).alloc o)) : bodyPost P fn R .ret a (((((wa.setCell ⟨B, 0, none⟩ u0).setCell ⟨B, 1, none⟩ u1).setCell ⟨B, 2, none⟩ u2).setCell ⟨B, 3, none⟩ u3).alloc o) := bodyPost_ret (hr (alloc4_read (set4_read h u0 u1 u2 u3) o)) hd hR

theorem sub4 (wa : World) {B : Nat} (u0 u1 u2 u3 : Value) {S : Nat → Prop} (hB : ¬ S B) : Sub (on wa S) (on ((((wa.setCell ⟨B, 0, none⟩ u0).setCell ⟨B, 1, none⟩ u1).setCell ⟨B, 2, none⟩ u2).setCell ⟨B, 3, none⟩ u3) S) :=
  (((set_sub wa _ u0 hB).trans (set_sub _ _ u1 hB)).trans (set_sub _ _ u2 hB)).trans (set_sub _ _ u3 hB)
theorem vals_end {w w2 w3 : World} {B : Nat} {u0 u1 u2 u3 v : Value} {T : Nat → Prop} {xs : List Val} (s2 : SliceOf Rep.val (on w2 T) v xs) (hT : ∀ k, k < w2.heap.size → T k → B < k) (hB : w.heap.size ≤ B) (hx : Ext w2 w3) :
    SliceOf Rep.val (on ((((w3.setCell ⟨B, 0, none⟩ u0).setCell ⟨B, 1, none⟩ u1).setCell ⟨B, 2, none⟩ u2).setCell ⟨B, 3, none⟩ u3) (fun j => w.heap.size ≤ j)) v xs :=
  s2.ext (((on_mono w2 (T := fun k => B < k) hT).trans (hx.sub _)).trans ((sub4 w3 u0 u1 u2 u3 (Nat.lt_irrefl B)).trans (on_mono _ fun k _ (hk : B < k) => Nat.le_trans hB (Nat.le_of_lt hk))))
theorem vals_enda {w w2 w3 : World} {B : Nat} {u0 u1 u2 u3 v : Value} {T : Nat → Prop} {xs : List Val} {o : Obj} (s2 : SliceOf Rep.val (on w2 T) v xs) (hT : ∀ k, k < w2.heap.size → T k → B < k) (hB : w.heap.size ≤ B) (hx : Ext w2 w3) :
    SliceOf Rep.val (on (((((w3.setCell ⟨B, 0, none⟩ u0).setCell ⟨B, 1, none⟩ u1).setCell ⟨B, 2, none⟩ u2).setCell ⟨B, 3, none⟩ u3).alloc o) (fun j => w.heap.size ≤ j)) v xs :=
  (vals_end (u0 := u0) (u1 := u1) (u2 := u2) (u3 := u3) s2 hT hB hx).ext (((Ext.refl _).alloc o).sub _)
theorem lin_end {w w3 : World} {B b : Nat} {u0 u1 u2 u3 : Value} {x : Int} (hr : -9223372036854775808 ≤ x ∧ x ≤ 9223372036854775807) (hb : w.heap.size ≤ b) (hne : B ≠ b) (hc : w3.cell? ⟨b, 0, none⟩ = some (.int .i64 x)) :
    SliceOf Rep.int (on ((((w3.setCell ⟨B, 0, none⟩ u0).setCell ⟨B, 1, none⟩ u1).setCell ⟨B, 2, none⟩ u2).setCell ⟨B, 3, none⟩ u3) (fun j => w.heap.size ≤ j)) (.slice (some ⟨b, 0, none⟩) 1 1) [x] :=
  int_lone _ _ _ hr (on_some.2 ⟨hb, cell_set (cell_set (cell_set (cell_set hc hne) hne) hne) hne⟩)
theorem lin_enda {w w3 : World} {B : Nat} {u0 u1 u2 u3 : Value} {x : Int} {T : TypeId} (hr : -9223372036854775808 ≤ x ∧ x ≤ 9223372036854775807) (hb : w.heap.size ≤ w3.heap.size) :
    SliceOf Rep.int (on (((((w3.setCell ⟨B, 0, none⟩ u0).setCell ⟨B, 1, none⟩ u1).setCell ⟨B, 2, none⟩ u2).setCell ⟨B, 3, none⟩ u3).alloc (.cells #[.int .i64 x] T)) (fun j => w.heap.size ≤ j)) (.slice (some ⟨w3.heap.size, 0, none⟩) 1 1) [x] := by
  have h := cells_new ((((w3.setCell ⟨B, 0, none⟩ u0).setCell ⟨B, 1, none⟩ u1).setCell ⟨B, 2, none⟩ u2).setCell ⟨B, 3, none⟩ u3) [.int .i64 x] T 0 _ rfl
  rw [show (((((w3.setCell ⟨B, 0, none⟩ u0).setCell ⟨B, 1, none⟩ u1).setCell ⟨B, 2, none⟩ u2).setCell ⟨B, 3, none⟩ u3).heap.size) = w3.heap.size by simp] at h
  exact int_lone _ _ _ hr (on_some.2 ⟨hb, h⟩)

set_option maxRecDepth 100000 in
set_option maxHeartbeats 4000000 in
theorem tuple_gen (x : Num5) (w : World) (h : okNum x) :
    Calls Tryz.prog 53 #[.agg #[.int .u16 x.a, .int .u16 x.b, .int .u16 x.c, .int .u16 x.d, .int .u16 x.e]] w fun e w' => ∃ a b, e = .returned (.agg #[a, .int .i64 (genTup x).from_, .int .i64 (genTup x).to_, b]) ∧ SliceOf Rep.val (on w' (fun j => w.heap.size ≤ j)) a (genTup x).vals ∧ SliceOf Rep.int (on w' (fun j => w.heap.size ≤ j)) b (genTup x).lin ∧ Ext w w' := by
  obtain ⟨⟨a0, a1⟩, ⟨b0, b1⟩, ⟨c0, c1⟩, ⟨d0, d1⟩, e0, e1⟩ := h
  obtain ⟨xa, xb, xc, xd, xe⟩ := x
  dsimp only [genTup] at *
  go_enter Tryz.func53, Tryz.ntmps53
  go_wp2_with fail
  have k0 : ((w.alloc (.cells #[.int .u16 xa, .int .u16 xb, .int .u16 xc, .int .u16 xd, .int .u16 xe] 96)).alloc (.cells #[.slice none 0 0, .int .i64 0, .int .i64 0, .slice none 0 0] 77)).cell? ⟨w.heap.size, 0, none⟩ = some (.int .u16 xa) := by go_simp
  have k1 : ((w.alloc (.cells #[.int .u16 xa, .int .u16 xb, .int .u16 xc, .int .u16 xd, .int .u16 xe] 96)).alloc (.cells #[.slice none 0 0, .int .i64 0, .int .i64 0, .slice none 0 0] 77)).cell? ⟨w.heap.size, 1, none⟩ = some (.int .u16 xb) := by go_simp
  have k2 : ((w.alloc (.cells #[.int .u16 xa, .int .u16 xb, .int .u16 xc, .int .u16 xd, .int .u16 xe] 96)).alloc (.cells #[.slice none 0 0, .int .i64 0, .int .i64 0, .slice none 0 0] 77)).cell? ⟨w.heap.size, 2, none⟩ = some (.int .u16 xc) := by go_simp
  have k3 : ((w.alloc (.cells #[.int .u16 xa, .int .u16 xb, .int .u16 xc, .int .u16 xd, .int .u16 xe] 96)).alloc (.cells #[.slice none 0 0, .int .i64 0, .int .i64 0, .slice none 0 0] 77)).cell? ⟨w.heap.size, 3, none⟩ = some (.int .u16 xd) := by go_simp
  have k4 : ((w.alloc (.cells #[.int .u16 xa, .int .u16 xb, .int .u16 xc, .int .u16 xd, .int .u16 xe] 96)).alloc (.cells #[.slice none 0 0, .int .i64 0, .int .i64 0, .slice none 0 0] 77)).cell? ⟨w.heap.size, 4, none⟩ = some (.int .u16 xe) := by go_simp
  have g0 : ((w.alloc (.cells #[.int .u16 xa, .int .u16 xb, .int .u16 xc, .int .u16 xd, .int .u16 xe] 96)).alloc (.cells #[.slice none 0 0, .int .i64 0, .int .i64 0, .slice none 0 0] 77)).cell? ⟨w.heap.size + 1, 0, none⟩ = some (.slice none 0 0) := by go_simp
  have f0 : ((w.alloc (.cells #[.int .u16 xa, .int .u16 xb, .int .u16 xc, .int .u16 xd, .int .u16 xe] 96)).alloc (.cells #[.slice none 0 0, .int .i64 0, .int .i64 0, .slice none 0 0] 77)).frozen? ⟨w.heap.size + 1, 0, none⟩ = false := by go_simp
  have g1 : ((w.alloc (.cells #[.int .u16 xa, .int .u16 xb, .int .u16 xc, .int .u16 xd, .int .u16 xe] 96)).alloc (.cells #[.slice none 0 0, .int .i64 0, .int .i64 0, .slice none 0 0] 77)).cell? ⟨w.heap.size + 1, 1, none⟩ = some (.int .i64 0) := by go_simp
  have f1 : ((w.alloc (.cells #[.int .u16 xa, .int .u16 xb, .int .u16 xc, .int .u16 xd, .int .u16 xe] 96)).alloc (.cells #[.slice none 0 0, .int .i64 0, .int .i64 0, .slice none 0 0] 77)).frozen? ⟨w.heap.size + 1, 1, none⟩ = false := by go_simp
  have g2 : ((w.alloc (.cells #[.int .u16 xa, .int .u16 xb, .int .u16 xc, .int .u16 xd, .int .u16 xe] 96)).alloc (.cells #[.slice none 0 0, .int .i64 0, .int .i64 0, .slice none 0 0] 77)).cell? ⟨w.heap.size + 1, 2, none⟩ = some (.int .i64 0) := by go_simp
  have f2 : ((w.alloc (.cells #[.int .u16 xa, .int .u16 xb, .int .u16 xc, .int .u16 xd, .int .u16 xe] 96)).alloc (.cells #[.slice none 0 0, .int .i64 0, .int .i64 0, .slice none 0 0] 77)).frozen? ⟨w.heap.size + 1, 2, none⟩ = false := by go_simp
  have g3 : ((w.alloc (.cells #[.int .u16 xa, .int .u16 xb, .int .u16 xc, .int .u16 xd, .int .u16 xe] 96)).alloc (.cells #[.slice none 0 0, .int .i64 0, .int .i64 0, .slice none 0 0] 77)).cell? ⟨w.heap.size + 1, 3, none⟩ = some (.slice none 0 0) := by go_simp
  have f3 : ((w.alloc (.cells #[.int .u16 xa, .int .u16 xb, .int .u16 xc, .int .u16 xd, .int .u16 xe] 96)).alloc (.cells #[.slice none 0 0, .int .i64 0, .int .i64 0, .slice none 0 0] 77)).frozen? ⟨w.heap.size + 1, 3, none⟩ = false := by go_simp
  have hxx : Ext w ((w.alloc (.cells #[.int .u16 xa, .int .u16 xb, .int .u16 xc, .int .u16 xd, .int .u16 xe] 96)).alloc (.cells #[.slice none 0 0, .int .i64 0, .int .i64 0, .slice none 0 0] 77)) := ((Ext.refl w).alloc _).alloc _
  generalize ((w.alloc (.cells #[.int .u16 xa, .int .u16 xb, .int .u16 xc, .int .u16 xd, .int .u16 xe] 96)).alloc (.cells #[.slice none 0 0, .int .i64 0, .int .i64 0, .slice none 0 0] 77)) = W1 at k0 k1 k2 k3 k4 g0 g1 g2 g3 f0 f1 f2 f3 hxx ⊢
  have hF0 : Free4 W1 (w.heap.size + 1) := ⟨⟨_, g0⟩, ⟨_, g1⟩, ⟨_, g2⟩, ⟨_, g3⟩, f0, f1, f2, f3⟩
  have hF1 : Free4 W1.drew (w.heap.size + 1) := Free4.ext hF0 (Ext.refl W1).drew
  have hz1 := cell_lt g0
  clear g0 g1 g2 g3 f0 f1 f2 f3
  have e2 : xe.tmod 5 = xe % 5 := Int.tmod_eq_emod_of_nonneg e0
  have e3 : IntKind.i64.wrap (xe % 5) = xe % 5 := IntWalk.i64_in _ (by omega)
  have e4 : IntKind.i64.wrap (1 + xe % 5) = 1 + xe % 5 := IntWalk.i64_in _ (by omega)
  have hS0 : Ext w W1.drew ∧ W1.drew.cell? ⟨w.heap.size, 0, none⟩ = some (.int .u16 xa) ∧ W1.drew.cell? ⟨w.heap.size, 1, none⟩ = some (.int .u16 xb) ∧ W1.drew.cell? ⟨w.heap.size, 2, none⟩ = some (.int .u16 xc) ∧ W1.drew.cell? ⟨w.heap.size, 3, none⟩ = some (.int .u16 xd) ∧ W1.drew.cell? ⟨w.heap.size, 4, none⟩ = some (.int .u16 xe) := ⟨hxx.drew, k0, k1, k2, k3, k4⟩
  go_region_held3 (fun w' => Ext w w' ∧ w'.cell? ⟨w.heap.size, 0, none⟩ = some (.int .u16 xa) ∧ w'.cell? ⟨w.heap.size, 1, none⟩ = some (.int .u16 xb) ∧ w'.cell? ⟨w.heap.size, 2, none⟩ = some (.int .u16 xc) ∧ w'.cell? ⟨w.heap.size, 3, none⟩ = some (.int .u16 xd) ∧ w'.cell? ⟨w.heap.size, 4, none⟩ = some (.int .u16 xe))
    (first | with_reducible assumption | with_reducible exact keepE5 (by assumption) hx2 | with_reducible exact keepE5 (by assumption) hx3 | with_reducible exact keepE5 (by assumption) ((Ext.refl _).alloc _) | with_reducible exact keepW4 (by assumption) (Nat.le_succ _) (Nat.succ_ne_self _) | with_reducible exact keepE5 (keepW4 (by assumption) (Nat.le_succ _) (Nat.succ_ne_self _)) ((Ext.refl _).alloc _))
    (first | (go_at_call 66; refine (vals_gen xc xd _ c0 c1 d0 d1).mono ?_; rintro e w2 ⟨v2, rfl, s2, hx2⟩; obtain ⟨p2, q2, rfl, _⟩ := s2.form; have hS2 : Ext w w2 ∧ w2.cell? ⟨w.heap.size, 0, none⟩ = some (.int .u16 xa) ∧ w2.cell? ⟨w.heap.size, 1, none⟩ = some (.int .u16 xb) ∧ w2.cell? ⟨w.heap.size, 2, none⟩ = some (.int .u16 xc) ∧ w2.cell? ⟨w.heap.size, 3, none⟩ = some (.int .u16 xd) ∧ w2.cell? ⟨w.heap.size, 4, none⟩ = some (.int .u16 xe) := (by with_reducible exact keepE5 (by assumption) hx2); have hF2 : Free4 w2 (w.heap.size + 1) := (by first | exact Free4.ext (by assumption) hx2 | exact Free4.ext (by assumption) (((Ext.refl _).alloc _).trans hx2) | exact Free4.ext hF0 ((((Ext.refl W1).alloc _).drew).trans hx2)); obtain ⟨⟨m20, y20⟩, ⟨m21, y21⟩, ⟨m22, y22⟩, ⟨m23, y23⟩, y24, y25, y26, y27⟩ := id hF2; have z2 := cell_lt y20) | (go_at_call 101; refine (period_gen xa xb _ a0 a1 b0 b1).mono ?_; rintro e w3 ⟨rfl, hx3⟩; have hS3 : Ext w w3 ∧ w3.cell? ⟨w.heap.size, 0, none⟩ = some (.int .u16 xa) ∧ w3.cell? ⟨w.heap.size, 1, none⟩ = some (.int .u16 xb) ∧ w3.cell? ⟨w.heap.size, 2, none⟩ = some (.int .u16 xc) ∧ w3.cell? ⟨w.heap.size, 3, none⟩ = some (.int .u16 xd) ∧ w3.cell? ⟨w.heap.size, 4, none⟩ = some (.int .u16 xe) := (by with_reducible exact keepE5 (by assumption) hx3); have hF3 : Free4 w3 (w.heap.size + 1) := (by first | exact Free4.ext (by assumption) hx3 | exact Free4.ext (by assumption) (((Ext.refl _).alloc _).trans hx3) | exact Free4.ext hF0 ((((Ext.refl W1).alloc _).drew).trans hx3)); obtain ⟨⟨m30, y30⟩, ⟨m31, y31⟩, ⟨m32, y32⟩, ⟨m33, y33⟩, y34, y35, y36, y37⟩ := id hF3; have z3 := cell_lt y30))
  all_goals
    have hfin := And.left ‹Ext w (_ : World) ∧ _›
    clear hS0
    go_wp2_with fail
    have hr : -9223372036854775808 ≤ 1 + xe % 5 ∧ 1 + xe % 5 ≤ 9223372036854775807 := by omega
  · with_reducible refine ret4a hF3 ?_ ?_ ?_
    · intro j
      simp [results, Tryz.results53, go_sem, j]
    · rfl
    exact ⟨_, _, rfl, vals_enda s2 (fun k _ hk => by simp at hk; omega) (by omega) hx3, lin_enda hr (by omega), hfin⟩
  · with_reducible refine ret4 hF3 ?_ ?_ ?_
    · intro j
      simp [results, Tryz.results53, go_sem, j]
    · rfl
    exact ⟨_, _, rfl, vals_end s2 (fun k _ hk => by simp at hk; omega) (by omega) (((Ext.refl w2).alloc _).trans hx3), lin_end hr (by omega) (by omega) (hx3.at (cells_new w2 [.int .i64 (1 + xe % 5)] 3 0 _ rfl)), hfin⟩
  · with_reducible refine ret4 hF3 ?_ ?_ ?_
    · intro j
      simp [results, Tryz.results53, go_sem, j]
    · rfl
    exact ⟨_, _, rfl, vals_end s2 (fun k _ hk => by simp at hk; omega) (by omega) hx3, lin_end hr (by omega) (by omega) (hx3.at (hx2.at ((Ext.refl _).drew.at (cells_new W1 [.int .i64 (1 + xe % 5)] 3 0 _ rfl)))), hfin⟩

end Go.Proofs.YtdgpbpbjlnlijaaGreatDoor

/- Contracts of slices.CompareFunc at values, of value.CompareRows, of slices.Compare at ints. -/
namespace Go.Proofs.YtdgpbpbjlnlijaaGreatDoor
open Go.RowKit

/-- the lexicographic order by c -/
def lexI {α : Type} (c : α → α → Int) : List α → List α → Int
  | [], [] => 0
  | [], _ :: _ => -1
  | _ :: _, [] => 1
  | x :: xs, y :: ys => if c x y = 0 then lexI c xs ys else c x y
theorem lexI_drop {α : Type} (c : α → α → Int) (l l' : List α) (k : Nat) (h : k < l.length) (h' : k < l'.length) :
    lexI c (l.drop k) (l'.drop k) = if c l[k] l'[k] = 0 then lexI c (l.drop (k + 1)) (l'.drop (k + 1)) else c l[k] l'[k] := by
  rw [List.drop_eq_getElem_cons h, List.drop_eq_getElem_cons h']; rfl
theorem lexI_long {α : Type} (c : α → α → Int) (l l' : List α) (k : Nat) (h : k < l.length) (h' : l'.length ≤ k) : lexI c (l.drop k) (l'.drop k) = 1 := by
  rw [List.drop_eq_getElem_cons h, List.drop_eq_nil_of_le h']; rfl
theorem lexI_end {α : Type} (c : α → α → Int) (l l' : List α) : lexI c (l.drop l.length) (l'.drop l.length) = if l.length < l'.length then -1 else 0 := by
  rw [List.drop_length]
  split
  · rw [List.drop_eq_getElem_cons (by assumption)]; rfl
  · rw [List.drop_eq_nil_of_le (by omega)]; rfl
def cmpVals : List Val → List Val → Int := lexI cmpVal
def cmpInts : List Int → List Int → Int := lexI cmpI

set_option maxHeartbeats 2000000 in
theorem compareFunc_val (va vb : Value) (l l' : List Val) (w : World) (ha : SliceOf Rep.val w.cell? va l) (hb : SliceOf Rep.val w.cell? vb l') :
    Calls Tryz.prog 206 #[va, vb, .func (.func 136) #[] #[]] w
      fun e w' => e = .returned (.int .i64 (cmpVals l l')) ∧ Gro w w' := by
  obtain ⟨pa, ca, rfl, ha1, ha2, ha3⟩ := ha.form
  obtain ⟨pb, cb, rfl, hb1, hb2, hb3⟩ := hb.form
  unfold maxLen at ha2 hb2
  go_enter Tryz.func206, Tryz.ntmps206
  go_wp2_with fail
  go_loopg [13] l.length (fun gk i wr => ∃ k : Nat, k ≤ l.length ∧ gk = l.length - k ∧ i = .int .i64 k ∧ (k ≤ l'.length ∧ cmpVals l l' = lexI cmpVal (l.drop k) (l'.drop k)) ∧ Gro w wr)
  case atStart => exact ⟨0, by omega, rfl, rfl, ⟨by omega, rfl⟩, Gro.refl w⟩
  case round =>
    obtain ⟨k, hk, rfl, rfl, ⟨hk2, hc⟩, hx⟩ := hrel
    have HC := Lib.hid hc
    clear hc
    by_cases hlt : k < l.length
    · obtain ⟨ba, oa, rfl⟩ := ha3 (by decide) (by omega)
      obtain ⟨c1, c2, c3⟩ := val_at ha k hlt
      replace c1 := hx.at c1
      replace c2 := hx.at c2
      replace c3 := hx.at c3
      have hd : decide ((k : Int) < (l.length : Int)) = true := by simp; omega
      by_cases hlt2 : k < l'.length
      · obtain ⟨bb, ob, rfl⟩ := hb3 (by decide) (by omega)
        obtain ⟨d1, d2, d3⟩ := val_at hb k hlt2
        replace d1 := hx.at d1
        replace d2 := hx.at d2
        replace d3 := hx.at d3
        have hdr := lexI_drop cmpVal l l' k hlt hlt2
        have hd2 : (k : Int) < (l'.length : Int) := by omega
        generalize l[k] = x at c1 c2 c3 hdr
        generalize l'[k] = y at d1 d2 d3 hdr
        have HD := Lib.hid hdr
        clear hdr ha hb ha3 hb3
        have e1 := cell_lt c1
        have e2 := cell_lt d1
        go_wp2_with fail
        refine (compare_val x y _).mono ?_
        rintro e w1 ⟨rfl, hx1⟩
        replace hx := ((hx.alloc _).alloc _).trans hx1
        clear hx1 c1 c2 c3 d1 d2 d3 e1 e2
        generalize hq : cmpVal x y = q
        have HQ := Lib.hid hq
        clear hq
        by_cases hq0 : q = 0
        · have hqb : (q != 0) = false := by simp [hq0]
          have HQ0 := Lib.hid hq0
          clear hq0
          go_wp2_with fail
          go_roundg (l.length - (k + 1))
          case measure => omega
          case rel => exact ⟨k + 1, by omega, rfl, by go_num, ⟨by omega, by rw [HC.out, HD.out, HQ.out, if_pos HQ0.out]⟩, hx⟩
        · have hqb : (q != 0) = true := by simp [hq0]
          have HQ0 := Lib.hid hq0
          clear hq0
          go_wp2_with fail
          go_ret
          exact ⟨ret_int (by rw [HC.out, HD.out, HQ.out, if_neg HQ0.out]), hx⟩
      · have hlg := lexI_long cmpVal l l' k hlt (by omega)
        have HL := Lib.hid hlg
        clear hlg
        go_wp2_with fail
        go_ret
        exact ⟨ret_int (by rw [HC.out, HL.out]), hx.alloc _⟩
    · have : k = l.length := by omega
      subst this
      have hen := lexI_end cmpVal l l'
      have HE := Lib.hid hen
      clear hen
      by_cases hll : l.length < l'.length
      · go_wp2_with fail
        go_ret
        exact ⟨ret_int (by rw [HC.out, HE.out, if_pos hll]), hx⟩
      · go_wp2_with fail
        go_ret
        exact ⟨ret_int (by rw [HC.out, HE.out, if_neg hll]), hx⟩

theorem compareRows_any (va vb : Value) (l l' : List Val) (w : World) (ha : SliceOf Rep.val w.cell? va l) (hb : SliceOf Rep.val w.cell? vb l') :
    Calls Tryz.prog 144 #[va, vb] w fun e w' => e = .returned (.int .i64 (cmpVals l l')) ∧ Gro w w' := by
  have HA := Lib.hid ha
  have HB := Lib.hid hb
  obtain ⟨pa, ca, rfl, _⟩ := ha.form
  obtain ⟨pb, cb, rfl, _⟩ := hb.form
  clear ha hb
  go_enter Tryz.func144, Tryz.ntmps144
  go_wp2_with fail
  refine (compareFunc_val _ _ _ _ _ HA.out HB.out).mono ?_
  rintro e w1 ⟨rfl, hx⟩
  go_wp2_with fail
  go_ret
  exact ⟨rfl, hx⟩

set_option maxHeartbeats 2000000 in
theorem compare_ints (va vb : Value) (l l' : List Int) (w : World) (ha : SliceOf Rep.int w.cell? va l) (hb : SliceOf Rep.int w.cell? vb l') :
    Calls Tryz.prog 145 #[va, vb] w
      fun e w' => e = .returned (.int .i64 (cmpInts l l')) ∧ Gro w w' := by
  obtain ⟨pa, ca, rfl, ha1, ha2, ha3⟩ := ha.form
  obtain ⟨pb, cb, rfl, hb1, hb2, hb3⟩ := hb.form
  unfold maxLen at ha2 hb2
  go_enter Tryz.func145, Tryz.ntmps145
  go_wp2_with fail
  go_loopg [11] l.length (fun gk i wr => ∃ k : Nat, k ≤ l.length ∧ gk = l.length - k ∧ i = .int .i64 k ∧ (k ≤ l'.length ∧ cmpInts l l' = lexI cmpI (l.drop k) (l'.drop k)) ∧ Gro w wr)
  case atStart => exact ⟨0, by omega, rfl, rfl, ⟨by omega, rfl⟩, Gro.refl w⟩
  case round =>
    obtain ⟨k, hk, rfl, rfl, ⟨hk2, hc⟩, hx⟩ := hrel
    have HC := Lib.hid hc
    clear hc
    by_cases hlt : k < l.length
    · obtain ⟨ba, oa, rfl⟩ := ha3 (by decide) (by omega)
      obtain ⟨c1, _⟩ := int_at ha k hlt
      replace c1 := hx.at c1
      have hd : decide ((k : Int) < (l.length : Int)) = true := by simp; omega
      by_cases hlt2 : k < l'.length
      · obtain ⟨bb, ob, rfl⟩ := hb3 (by decide) (by omega)
        obtain ⟨d1, _⟩ := int_at hb k hlt2
        replace d1 := hx.at d1
        have hdr := lexI_drop cmpI l l' k hlt hlt2
        have hd2 : (k : Int) < (l'.length : Int) := by omega
        generalize l[k] = x at c1 hdr
        generalize l'[k] = y at d1 hdr
        have HD := Lib.hid hdr
        clear hdr ha hb ha3 hb3
        go_wp2_with fail
        refine (compare_int x y _).mono ?_
        rintro e w1 ⟨rfl, rfl⟩
        clear c1 d1
        generalize hq : cmpI x y = q
        have HQ := Lib.hid hq
        clear hq
        by_cases hq0 : q = 0
        · have hqb : (q != 0) = false := by simp [hq0]
          have HQ0 := Lib.hid hq0
          clear hq0
          go_wp2_with fail
          go_roundg (l.length - (k + 1))
          case measure => omega
          case rel => exact ⟨k + 1, by omega, rfl, by go_num, ⟨by omega, by rw [HC.out, HD.out, HQ.out, if_pos HQ0.out]⟩, hx⟩
        · have hqb : (q != 0) = true := by simp [hq0]
          have HQ0 := Lib.hid hq0
          clear hq0
          go_wp2_with fail
          go_ret
          exact ⟨ret_int (by rw [HC.out, HD.out, HQ.out, if_neg HQ0.out]), hx⟩
      · have hlg := lexI_long cmpI l l' k hlt (by omega)
        have HL := Lib.hid hlg
        clear hlg
        go_wp2_with fail
        go_ret
        exact ⟨ret_int (by rw [HC.out, HL.out]), hx⟩
    · have : k = l.length := by omega
      subst this
      have hen := lexI_end cmpI l l'
      have HE := Lib.hid hen
      clear hen
      by_cases hll : l.length < l'.length
      · go_wp2_with fail
        go_ret
        exact ⟨ret_int (by rw [HC.out, HE.out, if_pos hll]), hx⟩
      · go_wp2_with fail
        go_ret
        exact ⟨ret_int (by rw [HC.out, HE.out, if_neg hll]), hx⟩

/-- the canonical order of rows -/
def cmpRow (a b : Row) : Int := orI [cmpVals a.vals b.vals, cmpInts a.lin b.lin]

set_option maxHeartbeats 1000000 in
theorem compareRow_any (va vb ua ub : Value) (a b : Row) (w : World) (ha : SliceOf Rep.val w.cell? va a.vals) (hb : SliceOf Rep.val w.cell? vb b.vals) (ka : SliceOf Rep.int w.cell? ua a.lin) (kb : SliceOf Rep.int w.cell? ub b.lin) :
    Calls Tryz.prog 103 #[.agg #[va, ua], .agg #[vb, ub]] w fun e w' => e = .returned (.int .i64 (cmpRow a b)) ∧ Gro w w' := by
  have HA := Lib.hid ha
  have HB := Lib.hid hb
  have KA := Lib.hid ka
  have KB := Lib.hid kb
  obtain ⟨pa, ca, rfl, _⟩ := ha.form
  obtain ⟨pb, cb, rfl, _⟩ := hb.form
  obtain ⟨qa, da, rfl, _⟩ := ka.form
  obtain ⟨qb, db, rfl, _⟩ := kb.form
  unfold cmpRow
  generalize a.vals = av at *
  generalize b.vals = bv at *
  generalize a.lin = al at *
  generalize b.lin = bl at *
  clear ha hb ka kb
  go_enter Tryz.func103, Tryz.ntmps103
  go_wp2_with fail
  have c1 : ((w.alloc (.cells #[.slice pa av.length ca, .slice qa al.length da] 42)).alloc (.cells #[.slice pb bv.length cb, .slice qb bl.length db] 42)).cell? ⟨w.heap.size, 0, none⟩ = some (.slice pa av.length ca) := by go_simp
  have c2 : ((w.alloc (.cells #[.slice pa av.length ca, .slice qa al.length da] 42)).alloc (.cells #[.slice pb bv.length cb, .slice qb bl.length db] 42)).cell? ⟨w.heap.size, 1, none⟩ = some (.slice qa al.length da) := by go_simp
  have c3 : ((w.alloc (.cells #[.slice pa av.length ca, .slice qa al.length da] 42)).alloc (.cells #[.slice pb bv.length cb, .slice qb bl.length db] 42)).cell? ⟨w.heap.size + 1, 0, none⟩ = some (.slice pb bv.length cb) := by go_simp
  have c4 : ((w.alloc (.cells #[.slice pa av.length ca, .slice qa al.length da] 42)).alloc (.cells #[.slice pb bv.length cb, .slice qb bl.length db] 42)).cell? ⟨w.heap.size + 1, 1, none⟩ = some (.slice qb bl.length db) := by go_simp
  have hxx := ((Gro.refl w).alloc (.cells #[.slice pa av.length ca, .slice qa al.length da] 42)).alloc (.cells #[.slice pb bv.length cb, .slice qb bl.length db] 42)
  generalize ((w.alloc (.cells #[.slice pa av.length ca, .slice qa al.length da] 42)).alloc (.cells #[.slice pb bv.length cb, .slice qb bl.length db] 42)) = w1 at c1 c2 c3 c4 hxx ⊢
  go_region_held3 (fun w' => Gro w w' ∧ w'.cell? ⟨w.heap.size, 0, none⟩ = some (.slice pa av.length ca) ∧ w'.cell? ⟨w.heap.size, 1, none⟩ = some (.slice qa al.length da) ∧ w'.cell? ⟨w.heap.size + 1, 0, none⟩ = some (.slice pb bv.length cb) ∧ w'.cell? ⟨w.heap.size + 1, 1, none⟩ = some (.slice qb bl.length db))
    (first | exact ⟨hxx.drew, c1, c2, c3, c4⟩ | assumption | exact keepG4 (by assumption) hx3 | exact keepG4 (by assumption) hx2 | exact keepG4 (by assumption) ((Gro.refl _).alloc _))
    (first | (go_at_call 144; refine (compareRows_any _ _ av bv _ (by exact HA.out.ext (And.left ‹Gro w _ ∧ _›).ext.full) (by exact HB.out.ext (And.left ‹Gro w _ ∧ _›).ext.full)).mono ?_; rintro e w2 ⟨rfl, hx2⟩) | (go_at_call 145; refine (compare_ints _ _ al bl _ (by exact KA.out.ext (And.left ‹Gro w _ ∧ _›).ext.full) (by exact KB.out.ext (And.left ‹Gro w _ ∧ _›).ext.full)).mono ?_; rintro e w3 ⟨rfl, hx3⟩) | (go_at_call 114; refine (or_any _ 0 2 [cmpVals av bv, cmpInts al bl] _ (by simp [maxLen]) (by exact fun k hk => or_new w3 [cmpVals av bv, cmpInts al bl] 3 k hk)).mono ?_; rintro e w4 ⟨rfl, rfl⟩))
  all_goals (obtain ⟨hfin, _⟩ := ‹Gro w _ ∧ _›)
  all_goals go_wp2_with fail
  all_goals go_ret
  all_goals exact ⟨rfl, hfin⟩

end Go.Proofs.YtdgpbpbjlnlijaaGreatDoor

/- The orders of values, of lists and of rows are total; no program is named here. -/
namespace Go.Proofs.YtdgpbpbjlnlijaaGreatDoor

/-- c compares as a total order does, by -1, 0 and 1 -/
structure Ord3 {α : Type} (c : α → α → Int) : Prop where
  rng : ∀ x y, c x y = -1 ∨ c x y = 0 ∨ c x y = 1
  eq : ∀ x y, c x y = 0 ↔ x = y
  anti : ∀ x y, c y x = -c x y
  tr : ∀ x y z, c x y < 0 → c y z < 0 → c x z < 0

theorem ord_int : Ord3 cmpI where
  rng x y := by unfold cmpI; (repeat' split) <;> omega
  eq x y := by unfold cmpI; (repeat' split) <;> omega
  anti x y := by unfold cmpI; (repeat' split) <;> omega
  tr x y z := by unfold cmpI; (repeat' split) <;> omega

theorem ord_bytes : Ord3 Lib.compareBytes where
  rng x := by
    induction x with
    | nil => intro y; cases y <;> simp [Lib.compareBytes]
    | cons a x ih => intro y; cases y with
      | nil => simp [Lib.compareBytes]
      | cons b y =>
        simp only [Lib.compareBytes]
        split
        · simp
        · split
          · simp
          · exact ih y
  eq x := by
    induction x with
    | nil => intro y; cases y <;> simp [Lib.compareBytes]
    | cons a x ih => intro y; cases y with
      | nil => simp [Lib.compareBytes]
      | cons b y =>
        simp only [Lib.compareBytes, List.cons.injEq]
        split
        · rename_i h
          simp
          intro e; subst e; simp at h
        · split
          · rename_i h
            simp
            intro e; subst e; simp at h
          · rename_i h1 h2
            have : a = b := UInt8.le_antisymm (UInt8.not_lt.1 h2) (UInt8.not_lt.1 h1)
            simp [this, ih y]
  anti x := by
    induction x with
    | nil => intro y; cases y <;> simp [Lib.compareBytes]
    | cons a x ih => intro y; cases y with
      | nil => simp [Lib.compareBytes]
      | cons b y =>
        simp only [Lib.compareBytes]
        by_cases h1 : a < b
        · have h2 : ¬ b < a := UInt8.not_lt.2 (UInt8.le_of_lt h1)
          simp [h1, h2]
        · by_cases h2 : b < a
          · simp [h1, h2]
          · simp [h1, h2, ih y]
  tr x := by
    induction x with
    | nil => intro y z; cases y <;> cases z <;> simp [Lib.compareBytes]
    | cons a x ih => intro y z; cases y with
      | nil => simp [Lib.compareBytes]
      | cons b y => cases z with
        | nil => simp [Lib.compareBytes]
        | cons d z =>
          simp only [Lib.compareBytes]
          intro h1 h2
          by_cases ab : a < b
          · by_cases bd : b < d
            · simp [UInt8.lt_trans ab bd]
            · by_cases db : d < b
              · simp [bd, db] at h2
              · have : b = d := UInt8.le_antisymm (UInt8.not_lt.1 db) (UInt8.not_lt.1 bd)
                subst this
                simp [ab]
          · by_cases ba : b < a
            · simp [ab, ba] at h1
            · have : a = b := UInt8.le_antisymm (UInt8.not_lt.1 ba) (UInt8.not_lt.1 ab)
              subst this
              simp [ab] at h1
              by_cases bd : a < d
              · simp [bd]
              · by_cases db : d < a
                · simp [bd, db] at h2
                · simp [bd, db] at h2 ⊢
                  exact ih y z h1 h2

theorem ord_pull {α β : Type} {c : β → β → Int} (h : Ord3 c) (f : α → β) (inj : ∀ x y, f x = f y → x = y) : Ord3 fun x y => c (f x) (f y) where
  rng x y := h.rng _ _
  eq x y := (h.eq _ _).trans ⟨inj x y, fun e => by rw [e]⟩
  anti x y := h.anti _ _
  tr x y z := h.tr _ _ _

theorem ord_then {α β γ : Type} {c : β → β → Int} {d : γ → γ → Int} (h : Ord3 c) (k : Ord3 d) (f : α → β) (g : α → γ) (inj : ∀ x y, f x = f y → g x = g y → x = y) :
    Ord3 fun x y => if c (f x) (f y) = 0 then d (g x) (g y) else c (f x) (f y) where
  rng x y := by
    split
    · exact k.rng _ _
    · exact h.rng _ _
  eq x y := by
    split
    · rename_i e
      exact ⟨fun e2 => inj x y ((h.eq _ _).1 e) ((k.eq _ _).1 e2), fun e2 => (k.eq _ _).2 (by rw [e2])⟩
    · rename_i e
      exact ⟨fun e2 => (e e2).elim, fun e2 => (h.eq _ _).2 (by rw [e2])⟩
  anti x y := by
    rw [h.anti (f x) (f y), k.anti (g x) (g y)]
    split <;> split <;> omega
  tr x y z := by
    intro h1 h2
    by_cases e1 : c (f x) (f y) = 0
    · rw [if_pos e1] at h1
      have : f x = f y := (h.eq _ _).1 e1
      rw [this]
      by_cases e2 : c (f y) (f z) = 0
      · rw [if_pos e2] at h2 ⊢
        exact k.tr _ _ _ h1 h2
      · rw [if_neg e2] at h2 ⊢
        exact h2
    · rw [if_neg e1] at h1
      by_cases e2 : c (f y) (f z) = 0
      · have : f y = f z := (h.eq _ _).1 e2
        rw [← this, if_neg e1]
        exact h1
      · rw [if_neg e2] at h2
        have := h.tr _ _ _ h1 h2
        rw [if_neg (by omega)]
        exact this

theorem ord_lex {α : Type} {c : α → α → Int} (h : Ord3 c) : Ord3 (lexI c) where
  rng x := by
    induction x with
    | nil => intro y; cases y <;> simp [lexI]
    | cons a x ih => intro y; cases y with
      | nil => simp [lexI]
      | cons b y =>
        simp only [lexI]
        split
        · exact ih y
        · exact h.rng _ _
  eq x := by
    induction x with
    | nil => intro y; cases y <;> simp [lexI]
    | cons a x ih => intro y; cases y with
      | nil => simp [lexI]
      | cons b y =>
        simp only [lexI, List.cons.injEq]
        split
        · rename_i e
          rw [ih y]
          simp [(h.eq _ _).1 e]
        · rename_i e
          simp [e]
          intro e2
          exact (e ((h.eq _ _).2 e2)).elim
  anti x := by
    induction x with
    | nil => intro y; cases y <;> simp [lexI]
    | cons a x ih => intro y; cases y with
      | nil => simp [lexI]
      | cons b y =>
        simp only [lexI]
        rw [h.anti a b, ih y]
        split <;> split <;> omega
  tr x := by
    induction x with
    | nil => intro y z; cases y <;> cases z <;> simp [lexI]
    | cons a x ih => intro y z; cases y with
      | nil => simp [lexI]
      | cons b y => cases z with
        | nil => simp [lexI]
        | cons d z =>
          simp only [lexI]
          intro h1 h2
          by_cases e1 : c a b = 0
          · have : a = b := (h.eq _ _).1 e1
            subst this
            rw [if_pos e1] at h1
            by_cases e2 : c a d = 0
            · rw [if_pos e2] at h2 ⊢
              exact ih _ _ h1 h2
            · rw [if_neg e2] at h2 ⊢
              exact h2
          · rw [if_neg e1] at h1
            by_cases e2 : c b d = 0
            · have : b = d := (h.eq _ _).1 e2
              subst this
              rw [if_neg e1]
              exact h1
            · rw [if_neg e2] at h2
              have := h.tr _ _ _ h1 h2
              rw [if_neg (by omega)]
              exact this

theorem ord_str : Ord3 cmpS := ord_pull ord_bytes (fun s : ByteArray => s.data.toList) fun x y h => by
  obtain ⟨⟨x⟩⟩ := x
  obtain ⟨⟨y⟩⟩ := y
  simp at h
  rw [h]
theorem ord_val : Ord3 cmpVal := by
  have h := ord_then (α := Val) ord_int (ord_then (α := Int × ByteArray) ord_int ord_str (fun p => p.1) (fun p => p.2) (fun x y h1 h2 => Prod.ext h1 h2)) (fun v => v.kind) (fun v => (v.n, v.s))
    (fun x y h1 h2 => by cases x; cases y; simp at h1 h2; rw [h1, h2.1, h2.2])
  have e : (fun x y : Val => if cmpI x.kind y.kind = 0 then (if cmpI x.n y.n = 0 then cmpS x.s y.s else cmpI x.n y.n) else cmpI x.kind y.kind) = cmpVal := by
    funext x y
    unfold cmpVal orI orI orI orI
    split
    · split
      · split
        · omega
        · rfl
      · rfl
    · rfl
  rw [← e]; exact h
theorem ord_vals : Ord3 cmpVals := ord_lex ord_val
theorem ord_ints : Ord3 cmpInts := ord_lex ord_int
theorem ord_row : Ord3 cmpRow := by
  have h := ord_then ord_vals ord_ints (fun r : Row => r.vals) (fun r => r.lin) (fun x y h1 h2 => by cases x; cases y; simp at h1 h2; rw [h1, h2])
  have e : (fun x y : Row => if cmpVals x.vals y.vals = 0 then cmpInts x.lin y.lin else cmpVals x.vals y.vals) = cmpRow := by
    funext x y
    unfold cmpRow orI orI orI
    split
    · split
      · omega
      · rfl
    · rfl
  rw [← e]; exact h

end Go.Proofs.YtdgpbpbjlnlijaaGreatDoor
