/- slices.Sort at ints: the library's contract (the kit's), as a contract over plain data. -/
import Derived.Test.YtffiompkjhopkaaS3
import Derived.Test.YtffiompkjhopkaaV22
import Derived.Test.YtffiompkjhopkaaLY
set_option linter.unusedSimpArgs false
set_option linter.unusedVariables false
namespace Go.Proofs.Ytffiompkjhopkaa.V
open Go.RowKit Go.Sort

abbrev msort (l : List Int) : List Int := l.mergeSort fun x y => decide (x ≤ y)

theorem putRow_setRow {α : Type} [Inhabited α] {enc : α → Value} {w : World} {g n : Nat} {d : Array α} {c : Array Value} {t : TypeId} {fr : Nat × Nat} (h : w.heap[g]? = some (.cells c t fr)) :
    putRow enc (Sort.ahead w n) g 0 d = (Sort.ahead w n).setRow g (putCells enc 0 d c) := by
  unfold putRow World.setRow
  have h' : (Sort.ahead w n).heap[g]? = some (.cells c t fr) := h
  have := mapBlock_congr (Sort.ahead w n) g (putCells enc 0 d) (fun _ => putCells enc 0 d c) (fun c' e fr' hh => by rw [h'] at hh; cases hh; rfl)
  rw [this]
  unfold mapBlock
  congr 1

theorem below_ahead (w : World) (n : Nat) : Below w.heap.size w (Sort.ahead w n) := ⟨rfl, rfl, rfl, Nat.le_refl _, fun _ _ => rfl⟩
theorem below_grow (w : World) (os : Array Obj) : Below w.heap.size w (grow w os) :=
  ⟨rfl, rfl, rfl, by simp [grow], fun k hk => by simp [grow, Array.getElem?_append, hk]⟩

/-- A callee that lays a row of an own block anew, and else leaves what was there. -/
theorem funB_row {P : Program} {f : FuncId} {α : Type} [Inhabited α] {enc : α → Value} {F : List AV} {F' : List AV} {t : TypeId} {k n : Nat} {args : List AV} (hF : F.length = n * k) (hF' : F'.length = n * k)
    (hc : ∀ (M : Nat → Prop) (ι : Nat → Option Nat) (w : World) (g cap : Nat) (c : Array Value) (vs : Array Value), w.heap[g]? = some (.cells c t (0, 0)) → n ≤ cap → cap ≤ maxLen → cap * k = c.size → (∀ (j : Nat) (v : Value) (y : AV), c[j]? = some v → F[j]? = some y → RepA ι M w v y) →
      vs.size = args.length → (∀ (i : Nat) (v : Value) (y : AV), vs[i]? = some v → args[i]? = some y → RepA ι M w v y) →
      Calls P f (#[.slice (some ⟨g, 0, none⟩) n cap] ++ vs) w fun e w' => e = .returned (.tuple #[]) ∧ ∃ (m : Nat) (os : Array Obj) (d : Array Value), d.size = n * k ∧ (∀ (j : Nat) (y : AV), F'[j]? = some y → ∃ v, d[j]? = some v ∧ v.oneCell' = true ∧ y = .v v) ∧ w' = grow (putRow id (Sort.ahead w m) g 0 d) os)
    (h0 : n = 0 → ∀ (M : Nat → Prop) (ι : Nat → Option Nat) (w : World) (A : Option Addr) (cap : Nat) (vs : Array Value), vs.size = args.length → (∀ (i : Nat) (v : Value) (y : AV), vs[i]? = some v → args[i]? = some y → RepA ι M w v y) → Calls P f (#[.slice A 0 cap] ++ vs) w fun e w' => e = .returned (.tuple #[]) ∧ w' = w) :
    FunB P f [(0, ⟨t, F⟩)] (.osl 0 k 0 n :: args) (.tup []) [(0, some ⟨t, F'⟩)] := by
  intro M0 ι w vs hs hsz hv
  obtain ⟨v, us, rfl⟩ : ∃ v us, vs = #[v] ++ us := by
    refine ⟨vs[0]'(by rw [hsz]; simp), (vs.toList.drop 1).toArray, ?_⟩
    apply Array.ext'
    have : 0 < vs.toList.length := by simp [hsz]
    simp
    rcases hvl : vs.toList with _ | ⟨x, l⟩
    · simp [hvl] at this
    · have : vs[0]'(by rw [hsz]; simp) = x := by
        have h2 : vs.toList[0]? = some x := by rw [hvl]; rfl
        rw [Array.getElem?_toList] at h2
        exact (Array.getElem?_eq_some_iff.1 h2).2
      simp [this]
  have hus : us.size = args.length := by simp at hsz; omega
  have hrest : ∀ (i : Nat) (v : Value) (y : AV), us[i]? = some v → args[i]? = some y → RepA ι (Mof (bcx M0 ι [(0, ⟨t, F⟩)] w 0) ι (bget (lives [(0, ⟨t, F⟩)]))) w v y := fun i u y hu hy =>
    hv (i + 1) u y (by rw [Array.getElem?_append_right (by simp)]; exact hu) (by simpa using hy)
  have h1 := hv 0 v (.osl 0 k 0 n) (by rw [Array.getElem?_append_left (by simp)]; rfl) rfl
  have hbox : bget (lives [(0, (⟨t, F⟩ : Bx))]) 0 = some ⟨t, F⟩ := by simp [lives, bget, bput]
  have finish : ∀ (g : Nat) (c : Array Value) (m : Nat) (os : Array Obj) (d : Array Value), ι 0 = some g → w.heap[g]? = some (.cells c t (0, 0)) → n * k ≤ c.size → d.size = n * k → (∀ (j : Nat) (y : AV), F'[j]? = some y → ∃ v, d[j]? = some v ∧ v.oneCell' = true ∧ y = .v v) →
      ∃ u ι', Ending.returned (.tuple #[]) = Ending.returned u ∧ (∀ b, inl [(0, (⟨t, F⟩ : Bx))] b = true → ι' b = ι b) ∧ HSat (bcx M0 ι [(0, ⟨t, F⟩)] w 0) ι' (bget ([(0, some ⟨t, F'⟩)] ++ lives [(0, ⟨t, F⟩)])) (fun b => inl [(0, (⟨t, F⟩ : Bx))] b = true ∨ inl [(0, some (⟨t, F'⟩ : Bx))] b = true) (grow (putRow id (Sort.ahead w m) g 0 d) os) ∧ Oth w (grow (putRow id (Sort.ahead w m) g 0 d) os) ∧
        RepA ι' (Mof (bcx M0 ι [(0, ⟨t, F⟩)] w 0) ι' (bget ([(0, some ⟨t, F'⟩)] ++ lives [(0, ⟨t, F⟩)]))) (grow (putRow id (Sort.ahead w m) g 0 d) os) u (.tup []) := by
    intro g c m os d hg hh hck hd hdv
    have s1 := step_below hs (below_ahead w m)
    have hh' : (Sort.ahead w m).heap[g]? = some (.cells c t (0, 0)) := hh
    have hps : (putCells id 0 d c).size = c.size := by simp [putCells]
    have s2 := step_row s1.h (bx := ⟨t, F⟩) (bx' := ⟨t, F'⟩) (c' := putCells id 0 d c) hbox hg hh' hps (by rw [hps]; simp only; omega) rfl (fun j v y hv hy => by
      obtain ⟨u, e1, e2, rfl⟩ := hdv j y hy
      have hj : j < d.size := (Array.getElem?_eq_some_iff.1 e1).1
      have : v = u := by
        simp only [putCells, Array.getElem?_mapIdx, Option.map_eq_some_iff] at hv
        obtain ⟨x, hx, rfl⟩ := hv
        rw [if_pos ⟨Nat.zero_le _, by omega⟩]
        simp only [Nat.sub_zero, id]
        rw [getElem!_pos d j hj]
        exact (Array.getElem?_eq_some_iff.1 e1).2
      subst this
      exact ⟨e2, .d (.v _)⟩)
    rw [← putRow_setRow hh] at s2
    have s3 := step_below s2.h (below_grow _ os)
    have hM : bget ([(0, some (⟨t, F'⟩ : Bx))] ++ lives [(0, ⟨t, F⟩)]) = bput (bget (lives [(0, (⟨t, F⟩ : Bx))])) [(0, some ⟨t, F'⟩)] := by
      funext b
      simp [bget, bput, lives]
    refine ⟨.tuple #[], ι, rfl, fun _ _ => rfl, ?_, (s1.oth.trans s2.oth).trans s3.oth, .d (.tup rfl fun i x y h _ => by simp at h)⟩
    rw [hM]
    refine s3.h.used_mono fun b hb => ?_
    rcases hb with hb | ⟨r, hb⟩
    · exact .inl hb
    · refine .inr ?_
      simp at hb
      simp [inl, hb.1]
  have nil : n = 0 → ∀ (A : Option Addr) (cap : Nat), v = .slice A 0 cap → Calls P f (#[v] ++ us) w fun e w' => ∃ u ι', e = .returned u ∧ (∀ b, inl [(0, (⟨t, F⟩ : Bx))] b = true → ι' b = ι b) ∧ HSat (bcx M0 ι [(0, ⟨t, F⟩)] w 0) ι' (bget ([(0, some ⟨t, F'⟩)] ++ lives [(0, ⟨t, F⟩)])) (fun b => inl [(0, (⟨t, F⟩ : Bx))] b = true ∨ inl [(0, some (⟨t, F'⟩ : Bx))] b = true) w' ∧ Oth w w' ∧
        RepA ι' (Mof (bcx M0 ι [(0, ⟨t, F⟩)] w 0) ι' (bget ([(0, some ⟨t, F'⟩)] ++ lives [(0, ⟨t, F⟩)]))) w' u (.tup []) := by
    rintro hn A cap rfl
    refine (h0 hn _ ι w A cap us hus hrest).mono ?_
    rintro e w' ⟨rfl, rfl⟩
    have hF0 : F = [] := List.eq_nil_of_length_eq_zero (by rw [hF, hn, Nat.zero_mul])
    have hF1 : F' = [] := List.eq_nil_of_length_eq_zero (by rw [hF', hn, Nat.zero_mul])
    have hM : bget ([(0, some (⟨t, F'⟩ : Bx))] ++ lives [(0, ⟨t, F⟩)]) = bget (lives [(0, (⟨t, F⟩ : Bx))]) := by
      funext b
      subst hF0 hF1
      by_cases hb : b = 0 <;> simp [bget, bput, lives, hb]
    refine ⟨.tuple #[], ι, rfl, fun _ _ => rfl, ?_, Oth.refl _, .d (.tup rfl fun i x y h _ => by simp at h)⟩
    rw [hM]
    exact hs.used_mono fun b hb => .inl hb
  generalize hy : AV.osl 0 k 0 n = y at h1
  cases h1 with
  | osl h hn hm hh hsz' =>
    cases hy
    rename_i g cap c t'
    obtain ⟨g', e1, -, -, c', e4, e5, e6⟩ : ∃ g, ι 0 = some g ∧ ((bcx M0 ι [(0, ⟨t, F⟩)] w 0).base ≤ g ∨ (bcx M0 ι [(0, ⟨t, F⟩)] w 0).G g) ∧ ¬ (bcx M0 ι [(0, ⟨t, F⟩)] w 0).M0 g ∧ BoxRep ι (Mof (bcx M0 ι [(0, ⟨t, F⟩)] w 0) ι (bget (lives [(0, ⟨t, F⟩)]))) w g ⟨t, F⟩ := by
      rcases hs.own 0 _ hbox with ⟨-, h2⟩ | h2
      · rw [h] at h2; cases h2
      · exact h2
    rw [h] at e1
    cases e1
    rw [hh] at e4
    cases e4
    rw [Nat.zero_add] at hsz'
    refine (hc _ ι w g cap c us hh hn hm hsz' (fun j u y hu hy => (e6 j u y hu hy).2) hus hrest).mono ?_
    rintro e w' ⟨rfl, m, os, d, hd, hdv, rfl⟩
    exact finish g c m os d h hh (by rw [← hsz']; exact Nat.mul_le_mul_right k hn) hd hdv
  | osl0 A b k' o =>
    cases hy
    exact nil rfl A 0 rfl
  | d h => subst hy; cases h
  | _ => cases hy

theorem sortI_f (l : List Int) (hl : l.length < 4611686018427387904) : FunB Try.prog 73 [(0, ⟨3, rowC irow l⟩)] [.osl 0 1 0 l.length] (.tup []) [(0, some ⟨3, rowC irow (msort l)⟩)] := by
  refine funB_row (enc := Value.int .i64) (by rw [rowI_len, Nat.mul_one]) (by rw [rowI_len, List.length_mergeSort, Nat.mul_one]) ?_ ?_
  · intro M ι w g cap c vs hh hn hm hck hcell hvs _
    obtain rfl : vs = #[] := Array.eq_empty_of_size_eq_zero (by simpa using hvs)
    have hH : Holds (Value.int .i64) w g 0 l.toArray := fun j hj => by
      have hj : j < l.length := by simpa using hj
      have hjc : j < c.size := by omega
      have := hcell j c[j] (int l[j]) (Array.getElem?_eq_getElem hjc) (rowI_some (List.getElem?_eq_getElem hj))
      have he := this.ofV
      have hg! : l.toArray[j]! = l[j] := by rw [getElem!_pos l.toArray j (by simpa using hj)]; simp
      rw [Nat.zero_add, hg!]
      refine ⟨?_, ?_⟩
      · simp only [World.cell?, hh]
        rw [Array.getElem?_eq_getElem hjc, he]; rfl
      · simp [World.frozen?, hh]
    have hc := AnyG.slices_Sort_int Try.sortInt g 0 cap l w hH (Array.getElem?_eq_some_iff.1 hh).1 hl
    refine Calls.mono (show Calls Try.prog 73 _ w _ from hc) ?_
    rintro e w' ⟨rfl, m, os, rfl⟩
    refine ⟨rfl, m, os, ((msort l).map (Value.int .i64)).toArray, by simp, fun j y hy => ?_, ?_⟩
    · rw [rowI_at] at hy
      simp only [Option.map_eq_some_iff] at hy
      obtain ⟨z, hz, rfl⟩ := hy
      exact ⟨.int .i64 z, by simp [hz], rfl, rfl⟩
    · congr 1
      unfold putRow
      refine mapBlock_congr _ _ _ _ fun c' e fr _ => ?_
      unfold putCells
      apply Array.ext
      · simp
      · intro i h1 h2
        simp only [Array.getElem_mapIdx, List.size_toArray, List.length_map, Nat.zero_add, Nat.sub_zero, id]
        by_cases hi : i < (msort l).length
        · rw [if_pos ⟨Nat.zero_le _, hi⟩, if_pos ⟨Nat.zero_le _, hi⟩, getElem!_pos _ _ (by simpa using hi), getElem!_pos _ _ (by simpa using hi)]
          simp
        · rw [if_neg (fun h => hi h.2), if_neg (fun h => hi h.2)]
  · intro hn M ι w A cap vs hvs _
    obtain rfl : vs = #[] := Array.eq_empty_of_size_eq_zero (by simpa using hvs)
    exact AnyG.slices_Sort_int_none Try.sortInt A cap w
end Go.Proofs.Ytffiompkjhopkaa.V
