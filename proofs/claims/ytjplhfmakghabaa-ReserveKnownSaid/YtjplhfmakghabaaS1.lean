/- The things of this program as plain data. -/
import Derived.Test.YtjplhfmakghabaaV19
set_option linter.unusedSimpArgs false
set_option linter.unusedVariables false
namespace Go.Proofs.Ytjplhfmakghabaa.V
open Go.RowKit

def Int64 (n : Int) : Prop := -9223372036854775808 ≤ n ∧ n ≤ 9223372036854775807

structure Cover where
  peril : Int
  limit : Int
  agg : Int
  ded : Int
  share : Int

def Cover.ok (c : Cover) : Prop := Int64 c.peril ∧ Int64 c.limit ∧ Int64 c.agg ∧ Int64 c.ded ∧ Int64 c.share
@[go_sem] def Cover.flat (c : Cover) : List AV := [int c.peril, int c.limit, int c.agg, int c.ded, int c.share]
abbrev covs (l : List Cover) : AV := .sl false 5 (l.map Cover.flat)

theorem Cover.len (c : Cover) : c.flat.length = 5 := rfl
theorem Cover.data (c : Cover) : c.flat.all AV.isData = true := by simp [Cover.flat]

structure Terms where
  from_ : Int
  to_ : Int
  kind : Int
  value : Int
  age : Int
  zone : Int
  covers : List Cover

def Terms.ok (t : Terms) : Prop := (Int64 t.from_ ∧ Int64 t.to_ ∧ Int64 t.kind ∧ Int64 t.value ∧ Int64 t.age ∧ Int64 t.zone) ∧ ∀ c, c ∈ t.covers → c.ok
@[go_sem] def Terms.flat (t : Terms) : List AV := [int t.from_, int t.to_, int t.kind, int t.value, int t.age, int t.zone, covs t.covers]

structure Change where
  booked : Int
  day : Int
  kind : Int
  rk : Int
  rv : Int
  ra : Int
  rz : Int
  covers : List Cover
  way : Int

def Change.ok (c : Change) : Prop := (Int64 c.booked ∧ Int64 c.day ∧ Int64 c.kind ∧ Int64 c.rk ∧ Int64 c.rv ∧ Int64 c.ra ∧ Int64 c.rz ∧ Int64 c.way) ∧ ∀ x, x ∈ c.covers → x.ok
@[go_sem] def Change.flat (c : Change) : List AV := [int c.booked, int c.day, int c.kind, int c.rk, int c.rv, int c.ra, int c.rz, covs c.covers, int c.way]
abbrev chgs (l : List Change) : AV := .sl false 9 (l.map Change.flat)

theorem Change.len (c : Change) : c.flat.length = 9 := rfl
theorem Change.data (c : Change) : c.flat.all AV.isData = true := by simp [Change.flat]

structure History where
  id : Int
  booked : Int
  terms : Terms
  changes : List Change

def History.ok (h : History) : Prop := (Int64 h.id ∧ Int64 h.booked) ∧ h.terms.ok ∧ ∀ c, c ∈ h.changes → c.ok
@[go_sem] def History.flat (h : History) : List AV := [int h.id, int h.booked, int h.terms.from_, int h.terms.to_, int h.terms.kind, int h.terms.value, int h.terms.age, int h.terms.zone, covs h.terms.covers, chgs h.changes]

structure Claim where
  id : Int
  policy : Int
  peril : Int
  loss : Int
  booked : Int
  event : Int
deriving DecidableEq

@[go_sem] def Claim.flat (c : Claim) : List AV := [int c.id, int c.policy, int c.peril, int c.loss, int c.booked, int c.event]

structure Act where
  booked : Int
  kind : Int
  amt : Int
deriving DecidableEq

@[go_sem] def Act.flat (a : Act) : List AV := [int a.booked, int a.kind, int a.amt]

structure Treaty where
  id : Int
  kind : Int
  from_ : Int
  to_ : Int
  bp : Int
  attach : Int
  width : Int
  again : Int
  perils : Int
deriving DecidableEq

@[go_sem] def Treaty.flat (t : Treaty) : List AV := [int t.id, int t.kind, int t.from_, int t.to_, int t.bp, int t.attach, int t.width, int t.again, int t.perils]

structure Fact where
  booked : Int
  kind : Int
  id : Int
  amt : Int
  day : Int
  terms : Terms
  change : Change
  claim : Claim
  act : Act
  treaty : Treaty

@[go_sem] def Fact.flat (f : Fact) : List AV := [int f.booked, int f.kind, int f.id, int f.amt, int f.day,
  int f.terms.from_, int f.terms.to_, int f.terms.kind, int f.terms.value, int f.terms.age, int f.terms.zone, covs f.terms.covers,
  int f.change.booked, int f.change.day, int f.change.kind, int f.change.rk, int f.change.rv, int f.change.ra, int f.change.rz, covs f.change.covers, int f.change.way,
  int f.claim.id, int f.claim.policy, int f.claim.peril, int f.claim.loss, int f.claim.booked, int f.claim.event,
  int f.act.booked, int f.act.kind, int f.act.amt,
  int f.treaty.id, int f.treaty.kind, int f.treaty.from_, int f.treaty.to_, int f.treaty.bp, int f.treaty.attach, int f.treaty.width, int f.treaty.again, int f.treaty.perils]
abbrev facts (l : List Fact) : AV := .sl false 39 (l.map Fact.flat)

theorem Fact.len (c : Fact) : c.flat.length = 39 := rfl
theorem Fact.data (c : Fact) : c.flat.all AV.isData = true := by simp [Fact.flat]

structure Band where
  upto : Int
  bp : Int
deriving DecidableEq
@[go_sem] def Band.flat (b : Band) : List AV := [int b.upto, int b.bp]
@[go_sem] def irow (n : Int) : List AV := [int n]
abbrev ints (l : List Int) : AV := .sl false 1 (l.map irow)

structure Version where
  from_ : Int
  b0 : Int
  b1 : Int
  b2 : Int
  b3 : Int
  age : List Band
  zone : List Int
  peril : List Int
  min : Int
deriving DecidableEq
@[go_sem] def Version.flat (v : Version) : List AV := [int v.from_, int v.b0, int v.b1, int v.b2, int v.b3, .sl false 2 (v.age.map Band.flat), ints v.zone, ints v.peril, int v.min]
abbrev vers (l : List Version) : AV := .sl false 9 (l.map Version.flat)

structure Journal where
  tariff : List Version
  facts : List Fact
@[go_sem] def Journal.flat (j : Journal) : List AV := [vers j.tariff, V.facts j.facts]


end Go.Proofs.Ytjplhfmakghabaa.V
