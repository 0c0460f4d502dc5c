/- PROVED: what the listed variables, as the rows' condition has them, give the walks: the table of package geo. No conditions beyond those that each theorem states. -/
import Derived.Test.YtcikhnkehglkgaaGreatDoorRows
import Derived.Test.YtcikhnkehglkgaaGreatDoorEpG0
import Derived.OpenVars
import Derived.OpenShut
import Derived.LaidMore
import Derived.Lay
import Derived.LaidOnce
import Derived.SevenTiedAt
namespace Go.Proofs.YtcikhnkehglkgaaGreatDoor
open Go.ChangeShapes Go.WideShapes Go.RowKit Go.Proofs.YtcikhnkehglkgaaGreatDoorLib
set_option linter.unusedSimpArgs false
set_option linter.unusedVariables false

def laidL : List (String × DataW Unit) := [("keepsake/geo.rows", Rows.laid_keepsake_geo_rows)]
theorem geoData : (Rows.laid_keepsake_geo_rows : DataW Unit) = .agg ((List.range 11).map fun i => .agg ((List.range 4).map fun j => .lit (.int .i64 (geoTab.getD (i * 4 + j) 0)))) := by rfl
theorem mapped_at {α β : Type} {f : Nat → β} {g : α → β} {xs : List α} {n i : Nat} {x : α} (h : xs.map g = (List.range n).map f) (hi : i < n) (hx : xs[i]? = some x) : g x = f i := by
  have h1 : (xs.map g)[i]? = some (g x) := by rw [List.getElem?_map, hx]; rfl
  rw [h, List.getElem?_map, List.getElem?_range hi] at h1
  exact (Option.some.inj h1).symm
set_option maxRecDepth 100000 in
theorem geo_of_laid {W : World} (h : laidMetH Tryz.prog laidL W) : GeoLaid W := by
  rw [MakeChecks.laidMetH_plain _ _ _ (by kernel_rfl)] at h
  obtain ⟨ps, ⟨g, t, cs, fuel, p, q, hg, ht, hv, hd, _, _⟩, _, _⟩ := h
  obtain rfl := Option.some.inj ((show Tryz.prog.globalNamed "keepsake/geo.rows" = some 1 by kernel_rfl).symm.trans hg)
  obtain rfl := Option.some.inj ((show (Tryz.prog.globals[1]?).map (·.type) = some 183 by kernel_rfl).symm.trans ht)
  have c3 : Tryz.prog.cellsOf 3 = 1 := by kernel_rfl
  have c4 : Tryz.prog.cellsOf 175 = 4 := by kernel_rfl
  have c11 : Tryz.prog.cellsOf 183 = 44 := by kernel_rfl
  rw [geoData] at hd
  obtain ⟨xs, m, _, ex, hlen, hl, hel⟩ := DataW.trod_array Tryz.underlying183 hd
  have e1 := DataW.agg.inj (Prod.mk.inj ex).1
  have hcell : ∀ (i : Nat) (x : Int), geoTab[i]? = some x → W.cell? ⟨1, i, none⟩ = some (.int .i64 x) := by
    intro i x hx
    have hi : i < 44 := (List.getElem?_eq_some_iff.1 hx).1
    have hq : i / 4 < 11 := by omega
    have hr : i % 4 < 4 := by omega
    have h1 := hel (i / 4) hq
    obtain ⟨y, hy⟩ : ∃ y, xs[i / 4]? = some y := ⟨xs[i / 4]'(by omega), List.getElem?_eq_getElem (by omega)⟩
    rw [hy, c4] at h1
    have hyd := mapped_at (g := fun x : DataW Unit × List MemPlace => x.1) e1.symm hq hy
    obtain ⟨y1, y2⟩ := y
    change y1 = _ at hyd
    subst hyd
    obtain ⟨zs, m2, _, ez, hlz, hzl, hez⟩ := DataW.trod_array Tryz.underlying175 h1
    have e2 := DataW.agg.inj (Prod.mk.inj ez).1
    have h2 := hez (i % 4) hr
    obtain ⟨z, hz⟩ : ∃ z, zs[i % 4]? = some z := ⟨zs[i % 4]'(by omega), List.getElem?_eq_getElem (by omega)⟩
    rw [hz, c3] at h2
    have hzd := mapped_at (g := fun x : DataW Unit × List MemPlace => x.1) e2.symm hr hz
    obtain ⟨n, hn, hlit, _⟩ := DataW.trod_int Tryz.underlying3 h2
    have e3 : i / 4 * 4 + i % 4 = i := by omega
    have hx2 : geoTab.getD (i / 4 * 4 + i % 4) 0 = x := by rw [e3, List.getD_eq_getElem?_getD, hx]; rfl
    have hnx : n = x := by
      have : (DataW.lit (.int .i64 n) : DataW Unit) = .lit (.int .i64 (geoTab.getD (i / 4 * 4 + i % 4) 0)) := by
        rw [← hzd, hlit]
      rw [hx2] at this
      injection this with this
      injection this
    subst hnx
    have h4 := congrArg (fun l : List Value => l[0]?) hn
    simp only [List.getElem?_cons_zero] at h4
    rw [List.getElem?_take, if_pos (by decide), List.getElem?_drop, List.getElem?_take, if_pos (by omega), List.getElem?_drop] at h4
    have h5 := World.var?_cell hg hv i
    rw [h5, ← h4, Array.getElem?_toList]
    congr 1
    omega
  refine ⟨?_, hcell⟩
  have := World.block_lt_of_cell? W _ (hcell 0 0 rfl)
  exact this
end Go.Proofs.YtcikhnkehglkgaaGreatDoor
