/- append onto a slice of the call's own, the source a piece of a row in memory: nil, empty or not. -/
import Derived.Test.YthmjjogmgjagmaaT
import Derived.Maps.AppendAt
import Derived.Deep.AppendLies
import Derived.Deep.RegionHeld3
import Derived.RegionTactic
import Derived.OwnWalk
namespace Go.Proofs.Ythmjjogmgjagmaa
open Go.RowKit

theorem addr_add (b off j : Nat) : (⟨b, off, none⟩ : Addr).add j = ⟨b, off + j, none⟩ := by
  unfold Addr.add
  split <;> simp_all

theorem le_alloc (w : World) (o : Obj) : w.heap.size ≤ (w.alloc o).heap.size := by simp

theorem own_made {base size g : Nat} {e : TypeId} (w : World) (hg : g = w.heap.size) (hb : base ≤ w.heap.size) : (w.alloc (.cells #[] e)).ownsRow base e size (.slice (some ⟨g, 0, none⟩) 0 0) 0 [] := by
  subst hg
  exact World.ownsRow_made w #[] 0 hb (Nat.zero_le _) (by simp)

/-- What is appended: m elements of k cells each, which lie at A. -/
def SrcAt (w : World) (k : Nat) (A : Option Addr) (m : Nat) (news : List Value) : Prop :=
  news.length = m * k ∧ (A = none → m = 0) ∧ ∀ ad, A = some ad → ∀ j u, news[j]? = some u → w.cell? (ad.add j) = some u

section
variable {P : Program} (w : World)

theorem run_append_src (base : Nat) (t ty e : TypeId) (i : TypeInfo) (z : Value) (size bytes : Nat) (ht : P.underlying t = some (.slice e)) (hi : P.info? e = some i) (hz : i.zero = some z)
    (hsize : i.size = size) (hby : i.bytes = bytes) (hzs : z.cells.size = size) (hsz : 0 < size)
    (v : Value) (n : Nat) (xs : List Value) (hown : w.ownsRow base e size v n xs)
    (A : Option Addr) (m c : Nat) (news : List Value) (hs : SrcAt w size A m news) (h1 : ∀ u ∈ news, u.oneCell' = true)
    (h63 : n + m ≤ maxLen) (hbytes : (n + m) * bytes ≤ 140737488355328) (hbase : base ≤ w.heap.size) :
    ∃ v' w', (Builtin.append_ #[t, t] ty #[v, .slice A m c]).run P w = .ok v' w' ∧ w'.ownsRow base e size v' (n + m) (xs ++ news) ∧ w.grownBy w' v.ownBlock ∧
      (v'.ownBlock = v.ownBlock ∨ v'.ownBlock = some w.heap.size) := by
  obtain ⟨hl, hn0, hc⟩ := hs
  cases A with
  | none =>
    have hm := hn0 rfl
    subst hm
    have hnil : news = [] := List.eq_nil_of_length_eq_zero (by simpa using hl)
    subst hnil
    refine ⟨v, w, ?_, by simpa using hown, ⟨rfl, rfl, rfl, Nat.le_refl _, fun _ _ _ => rfl⟩, .inl rfl⟩
    rcases hown.2 with ⟨rfl, rfl⟩ | ⟨g, cap, cur, rfl, _, _, hnc, _⟩
    · simp [Builtin.append_, run_underlying ht, sizeOf, typeInfo, hi, Builtin.lenOf, Builtin.firstCells]
    · simp [Builtin.append_, run_underlying ht, sizeOf, typeInfo, hi, Builtin.lenOf, Builtin.firstCells, hnc, storeCells]
  | some ad =>
    obtain ⟨v', w', hr, h2, h3, -, h5⟩ := run_append_own_at (P := P) w base t ty e i z size bytes ht hi hz hsize hby hzs hsz v n xs hown ad m c news hl (hc ad rfl) h1 h63 hbytes hbase
    exact ⟨v', w', hr, h2, h3, h5⟩

theorem wp_append_src {o : Oper} {a : Act} {K : Act → World → Prop} {Q : Exit → Act → World → Prop} (s x : Operand) (t : TypeId)
    (ho : o.op = .call { callee := .builtin .append, args := #[s, x], argTypes := #[t, t] })
    (base : Nat) (e : TypeId) (i : TypeInfo) (z : Value) (size bytes : Nat) (ht : P.underlying t = some (.slice e)) (hi : P.info? e = some i) (hz : i.zero = some z)
    (hsize : i.size = size) (hby : i.bytes = bytes) (hzs : z.cells.size = size) (hsz : 0 < size)
    (v : Value) (n : Nat) (xs : List Value) (hs : a.eval s = v) (hown : w.ownsRow base e size v n xs)
    (A : Option Addr) (m c : Nat) (news : List Value) (hx : a.eval x = .slice A m c) (hsrc : SrcAt w size A m news) (h1 : ∀ u ∈ news, u.oneCell' = true)
    (h63 : n + m ≤ maxLen) (hbytes : (n + m) * bytes ≤ 140737488355328) (hbase : base ≤ w.heap.size)
    (h : ∀ v' w', w'.ownsRow base e size v' (n + m) (xs ++ news) → w.grownBy w' v.ownBlock → (v'.ownBlock = v.ownBlock ∨ v'.ownBlock = some w.heap.size) → K (a.put o.dst v') w') : o.wp P a w K Q := by
  obtain ⟨v', w', hrun, h2, h3, h4⟩ := run_append_src (P := P) w base t o.type e i z size bytes ht hi hz hsize hby hzs hsz v n xs hown A m c news hsrc h1 h63 hbytes hbase
  unfold Oper.wp execOp
  simp only [ho, resolve, invoke, builtin, Sem.run_bind, Sem.run_pure, Result.andThen_ok, List.map_toArray, List.map_cons, List.map_nil, hs, hx, hrun]
  exact h v' w' h2 h3 h4

/-- At the head of a plain region's list. -/
theorem wpList_append_src {ops : Array Oper} {rest : List Oper} {o : Oper} {a : Act} {Q : Exit → Act → World → Prop} (hgd : o.guard = none) (s x : Operand) (t : TypeId)
    (ho : o.op = .call { callee := .builtin .append, args := #[s, x], argTypes := #[t, t] })
    (base : Nat) (e : TypeId) (i : TypeInfo) (z : Value) (size bytes : Nat) (ht : P.underlying t = some (.slice e)) (hi : P.info? e = some i) (hz : i.zero = some z)
    (hsize : i.size = size) (hby : i.bytes = bytes) (hzs : z.cells.size = size) (hsz : 0 < size)
    (v : Value) (n : Nat) (xs : List Value) (hs : a.eval s = v) (hown : w.ownsRow base e size v n xs)
    (A : Option Addr) (m c : Nat) (news : List Value) (hx : a.eval x = .slice A m c) (hsrc : SrcAt w size A m news) (h1 : ∀ u ∈ news, u.oneCell' = true)
    (h63 : n + m ≤ maxLen) (hbytes : (n + m) * bytes ≤ 140737488355328) (hbase : base ≤ w.heap.size)
    (h : ∀ v' w', w'.ownsRow base e size v' (n + m) (xs ++ news) → w.grownBy w' v.ownBlock → (v'.ownBlock = v.ownBlock ∨ v'.ownBlock = some w.heap.size) → wpList P ops Q rest (a.put o.dst v') w') : wpList P ops Q (o :: rest) a w :=
  wpList_plain hgd fun _ hK => wp_append_src w s x t ho base e i z size bytes ht hi hz hsize hby hzs hsz v n xs hs hown A m c news hx hsrc h1 h63 hbytes hbase fun v' w' h2 h3 h4 => hK _ _ (h v' w' h2 h3 h4)

/-- At a step of a region that draws its order. -/
theorem step_append_src {ops : Array Oper} {o : Oper} {a : Act} {K : Act → World → Prop} {Q : Exit → Act → World → Prop} {E : Prop} (hgd : o.guard = none) (s x : Operand) (t : TypeId)
    (ho : o.op = .call { callee := .builtin .append, args := #[s, x], argTypes := #[t, t] })
    (base : Nat) (e : TypeId) (i : TypeInfo) (z : Value) (size bytes : Nat) (ht : P.underlying t = some (.slice e)) (hi : P.info? e = some i) (hz : i.zero = some z)
    (hsize : i.size = size) (hby : i.bytes = bytes) (hzs : z.cells.size = size) (hsz : 0 < size)
    (v : Value) (n : Nat) (xs : List Value) (hs : a.eval s = v) (hown : w.ownsRow base e size v n xs)
    (A : Option Addr) (m c : Nat) (news : List Value) (hx : a.eval x = .slice A m c) (hsrc : SrcAt w size A m news) (h1 : ∀ u ∈ news, u.oneCell' = true)
    (h63 : n + m ≤ maxLen) (hbytes : (n + m) * bytes ≤ 140737488355328) (hbase : base ≤ w.heap.size)
    (h : ∀ v' w', w'.ownsRow base e size v' (n + m) (xs ++ news) → w.grownBy w' v.ownBlock → (v'.ownBlock = v.ownBlock ∨ v'.ownBlock = some w.heap.size) → K (a.put o.dst v') w') :
    if Region.wanted o (yielded ops a.tmps) = true then Oper.wp P o a w K Q else E := by
  have hw : Region.wanted o (yielded ops a.tmps) = true := by simp [Region.wanted, hgd]
  rw [if_pos hw]
  exact wp_append_src w s x t ho base e i z size bytes ht hi hz hsize hby hzs hsz v n xs hs hown A m c news hx hsrc h1 h63 hbytes hbase h
end

theorem length_flatMap_enc {α : Type} {k : Nat} (enc : α → List Value) (hk : ∀ x, (enc x).length = k) (l : List α) : (l.flatMap enc).length = l.length * k := by
  induction l with
  | nil => simp
  | cons a r ih => simp only [List.flatMap_cons, List.length_append, ih, hk, List.length_cons, Nat.add_mul]; omega

/-- A row as a source. -/
theorem RowsAt.src {α : Type} {w : World} {B k : Nat} {R : List Value → α → Prop} {enc : α → List Value} (hR : ∀ vs x, R vs x → vs = enc x) (hk : ∀ x, (enc x).length = k) {A : Option Addr} {l : List α} (h : RowsAt w B k R A l) :
    SrcAt w k A l.length (l.flatMap enc) := by
  refine ⟨length_flatMap_enc enc hk l, fun hA => ?_, ?_⟩
  · rcases l with _ | ⟨a, r⟩
    · rfl
    · obtain ⟨b, off, h1, -⟩ := h (by simp)
      rw [hA] at h1
      cases h1
  · rintro ad rfl j u hu
    have hj : j < l.length * k := by
      have := (List.getElem?_eq_some_iff.1 hu).1
      rwa [length_flatMap_enc enc hk] at this
    have hk0 : 0 < k := by
      rcases Nat.eq_zero_or_pos k with h | h
      · subst h; simp at hj
      · exact h
    have hdm : j = (j / k) * k + j % k := by rw [Nat.mul_comm]; exact (Nat.div_add_mod j k).symm
    have hq : j / k < l.length := (Nat.div_lt_iff_lt_mul hk0).2 hj
    obtain ⟨x, hx⟩ : ∃ x, l[j / k]? = some x := ⟨_, List.getElem?_eq_getElem hq⟩
    obtain ⟨b, off, hA, hb, hrow⟩ := h (by rintro rfl; simp at hx)
    injection hA with hA
    subst hA
    obtain ⟨vs, hvs, hvl, hv⟩ := hrow _ x hx
    have hve := hR _ _ hvs
    subst hve
    have hr : j % k < (enc x).length := by rw [hk]; exact Nat.mod_lt _ hk0
    have hfl := flatMap_at enc k hk _ (j / k) x (j % k) _ hx (List.getElem?_eq_getElem hr)
    rw [← hdm] at hfl
    rw [hfl] at hu
    have hcell := hv (j % k) u (by rw [List.getElem?_eq_getElem hr]; exact hu)
    rw [addr_add, show off + j = off + j / k * k + j % k by omega]
    exact hcell

theorem RowsAt.take {α : Type} {w : World} {B k : Nat} {R : List Value → α → Prop} {A : Option Addr} {l : List α} (h : RowsAt w B k R A l) (m : Nat) : RowsAt w B k R A (l.take m) := by
  intro hne
  obtain ⟨b, off, hA, hb, hrow⟩ := h (by rintro rfl; simp at hne)
  refine ⟨b, off, hA, hb, fun i x hx => hrow i x ?_⟩
  rw [List.getElem?_take] at hx
  split at hx
  · exact hx
  · cases hx

/-- Where 's[lo:]' lies. -/
def cutAddr (A : Option Addr) (cap lo k : Nat) : Option Addr := if cap = lo then A else A.map (·.add (lo * k))

theorem RowsAt.drop {α : Type} {w : World} {B k : Nat} {R : List Value → α → Prop} {A : Option Addr} {l : List α} (h : RowsAt w B k R A l) {cap : Nat} (hcap : l.length ≤ cap) (lo : Nat) : RowsAt w B k R (cutAddr A cap lo k) (l.drop lo) := by
  intro hne
  have hlo : lo < l.length := by
    rcases Nat.lt_or_ge lo l.length with h | h
    · exact h
    · exact absurd (List.drop_eq_nil_of_le h) hne
  obtain ⟨b, off, hA, hb, hrow⟩ := h (by rintro rfl; simp at hne)
  refine ⟨b, off + lo * k, ?_, hb, fun i x hx => ?_⟩
  · unfold cutAddr
    rw [if_neg (by omega), hA]
    simp [addr_add]
  · rw [List.getElem?_drop] at hx
    obtain ⟨vs, h1, h2, h3⟩ := hrow _ x hx
    refine ⟨vs, h1, h2, fun j v hj => ?_⟩
    have := h3 j v hj
    rw [Nat.add_mul, ← Nat.add_assoc] at this
    exact this

theorem addr_add_zero (a : Addr) : a.add 0 = a := by
  obtain ⟨b, o, s⟩ := a
  unfold Addr.add
  split <;> simp_all

section
variable {P : Program}
/-- 's[lo:]' -/
theorem run_slice_lo {t e : TypeId} (k : Nat) (ht : P.underlying t = some (.slice e)) (hs : ∀ w : World, (sizeOf e).run P w = .ok k w) (A : Option Addr) (n cap lo : Nat) (h : lo ≤ n) (w : World) :
    (Instr.slice t (.slice A n cap) (some (.int .i64 (lo : Int))) none none).run P w = .ok (.slice (cutAddr A cap lo k) (n - lo) (cap - lo)) w := by
  simp [Instr.slice, run_underlying ht, Instr.sliceBounds, Instr.sliceBound, asIntOf, hs, h, cutAddr]
/-- 's[:hi]' -/
theorem run_slice_hi {t e : TypeId} (k : Nat) (ht : P.underlying t = some (.slice e)) (hs : ∀ w : World, (sizeOf e).run P w = .ok k w) (A : Option Addr) (n cap hi : Nat) (h : hi ≤ cap) (w : World) :
    (Instr.slice t (.slice A n cap) none (some (.int .i64 (hi : Int))) none).run P w = .ok (.slice A hi cap) w := by
  have e1 : (if cap = 0 then A else A.map (·.add 0)) = A := by
    split
    · rfl
    · cases A <;> simp [addr_add_zero]
  simp [Instr.slice, run_underlying ht, Instr.sliceBounds, Instr.sliceBound, asIntOf, hs, h, e1]
end

theorem below_grown {B base k n : Nat} {e : TypeId} {a w w' : World} {v : Value} {xs : List Value} (h : Below B a w) (hown : w.ownsRow base e k v n xs) (hg : w.grownBy w' v.ownBlock) (hB : B ≤ base) (hb : base ≤ w.heap.size) : Below B a w' :=
  h.grown hg (Nat.le_trans hB hb) fun j hj => Nat.le_trans hB (hown.lt j hj).1

/-- An owned row reads as its elements. -/
theorem rows_of_own {α : Type} {w : World} {base k n : Nat} {e : TypeId} {R : List Value → α → Prop} (enc : α → List Value) (hk : ∀ x, (enc x).length = k) {v : Value} {l : List α}
    (h : w.ownsRow base e k v n (l.flatMap enc)) (hn : n = l.length) (hR : ∀ x, x ∈ l → R (enc x) x) : ∃ A cap, v = .slice A n cap ∧ n ≤ maxLen ∧ RowsAt w w.heap.size k R A l := by
  rcases h.2 with ⟨rfl, h0⟩ | ⟨g, cap, cur, rfl, _, hg, hnc, hcm, hcs, htake⟩
  · subst h0
    exact ⟨none, 0, rfl, Nat.zero_le _, fun hne => absurd (List.eq_nil_of_length_eq_zero hn.symm) hne⟩
  · refine ⟨_, cap, rfl, by omega, fun _ => ⟨g, 0, rfl, (Array.getElem?_eq_some_iff.1 hg).1, fun i x hx => ⟨enc x, hR x (List.mem_of_getElem? hx), hk x, fun j u hj => ?_⟩⟩⟩
    have := h.cells (g := g) rfl (i * k + j) u (flatMap_at enc k hk l i x j u hx hj)
    rw [addr_add, ← Nat.add_assoc] at this
    exact this

end Go.Proofs.Ythmjjogmgjagmaa
