/- A slice's length is at most its capacity. -/
import Derived.Test.YtkgklmmkkhbimaaOpens
namespace Go.Proofs.Ytkgklmmkkhbimaa
open Go.RowKit Go.ChangeShapes Go.WideShapes

theorem slice_cap {H : Type} {enc : TypeId × Value → H} {P : Program} {W : World} {t e : TypeId} {a : Option Addr} {len cap : Nat} {d : DataW H} {p : List MemPlace} (ht : P.underlying t = some (.slice e))
    (h : DataW.Trod enc P W 0 (fun _ => true) true t (.slice a len cap) d p) : len ≤ cap := by
  obtain ⟨fuel, hf⟩ := h
  rcases Go.Deep.open_slice ht hf with ⟨h0, _⟩ | ⟨a', len', cap', m, n, D, Pl, h0, _, hl, _⟩
  · simp [Value.cells] at h0
    omega
  · simp [Value.cells] at h0
    obtain ⟨rfl, rfl, rfl⟩ := h0
    exact hl
end Go.Proofs.Ytkgklmmkkhbimaa
