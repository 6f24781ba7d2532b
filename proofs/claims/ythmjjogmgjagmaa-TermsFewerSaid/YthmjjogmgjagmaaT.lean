/- The things of this program as plain data. -/
import Derived.Test.YthmjjogmgjagmaaB
namespace Go.Proofs.Ythmjjogmgjagmaa
open Go.RowKit

structure Cover where
  peril : Int
  limit : Int
  agg : Int
  ded : Int
  share : Int

def Cover.cells (c : Cover) : List Value := [.int .i64 c.peril, .int .i64 c.limit, .int .i64 c.agg, .int .i64 c.ded, .int .i64 c.share]
def Cover.wf (c : Cover) : Prop := (Lit.int .i64 c.peril).wf = true ∧ (Lit.int .i64 c.limit).wf = true ∧ (Lit.int .i64 c.agg).wf = true ∧ (Lit.int .i64 c.ded).wf = true ∧ (Lit.int .i64 c.share).wf = true
def isCover (vs : List Value) (c : Cover) : Prop := vs = c.cells ∧ c.wf

theorem covers_at {w : World} {B : Nat} {A : Option Addr} {l : List Cover} (h : RowsAt w B 5 isCover A l) (hl : 0 < l.length) :
    ∃ b off, A = some ⟨b, off, none⟩ ∧ b < B ∧ ∀ i c, l[i]? = some c → c.wf ∧ w.cell? ⟨b, off + i * 5, none⟩ = some (.int .i64 c.peril) ∧ w.cell? ⟨b, off + i * 5 + 1, none⟩ = some (.int .i64 c.limit) ∧
      w.cell? ⟨b, off + i * 5 + 2, none⟩ = some (.int .i64 c.agg) ∧ w.cell? ⟨b, off + i * 5 + 3, none⟩ = some (.int .i64 c.ded) ∧ w.cell? ⟨b, off + i * 5 + 4, none⟩ = some (.int .i64 c.share) := by
  obtain ⟨b, off, hA, hb, hc⟩ := h (by rintro rfl; simp at hl)
  refine ⟨b, off, hA, hb, fun i c hi => ?_⟩
  obtain ⟨vs, ⟨rfl, hw⟩, _, hv⟩ := hc i c hi
  exact ⟨hw, hv 0 _ rfl, hv 1 _ rfl, hv 2 _ rfl, hv 3 _ rfl, hv 4 _ rfl⟩

structure Terms where
  from_ : Int
  to_ : Int
  kind : Int
  value : Int
  age : Int
  zone : Int
  covers : List Cover

end Go.Proofs.Ythmjjogmgjagmaa
