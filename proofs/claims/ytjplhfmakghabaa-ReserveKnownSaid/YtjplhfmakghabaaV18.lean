/- A call of an interface value's method. -/
import Derived.Test.YtjplhfmakghabaaV17
set_option linter.unusedSimpArgs false
set_option linter.unusedVariables false
namespace Go.Proofs.Ytjplhfmakghabaa.V
open Go.RowKit
variable {P : Program} {cx : Cx} {env : Env} {box : Boxes} {n0 i : Nat}

/-- Method 'name' of type t is function f, on the value itself. -/
def Inv (P : Program) (t : TypeId) (name : String) (f : FuncId) : Prop := ∀ (v : Value) (us : Array Value) (w : World), (callMethod (.iface t v) name us).run P w = .ok (.enter f (#[v] ++ us)) w

theorem repA_iface {ι : Nat → Option Nat} {M : Nat → Prop} {w : World} {v : Value} {t : TypeId} {x : AV} (h : RepA ι M w v (.iface t x)) : ∃ u, v = .iface t u ∧ RepA ι M w u x := by
  generalize ha : AV.iface t x = a at h
  induction h with
  | iface h => cases ha; exact ⟨_, rfl, h⟩
  | d h => subst ha; cases h
  | _ => cases ha

theorem enters_inv {o : Oper} {ρ : Operand → AV} {c : Operand} {name : String} {t : TypeId} {x : AV} {f : FuncId} {args : Array Operand} {ats : Array TypeId} (ho : o.op = .call { callee := .invoke c name, args := args, argTypes := ats }) (hf : ρ c = .iface t x) (hI : Inv P t name f) :
    Enters P o ρ f (x :: args.toList.map ρ) := by
  intro hc ι M a w hops
  have h1 := hops c (mem_ops ho (by simp [Op.operands, Call.operands]))
  rw [hf] at h1
  obtain ⟨u, hv, hu⟩ := repA_iface h1
  refine ⟨#[u] ++ args.map a.eval, ?_, by simp [Nat.add_comm], ?_⟩
  · have h2 := hI u (args.map a.eval) w
    have e0 : (#[Value.iface t u] ++ args.map a.eval)[0]? = some (.iface t u) := by rw [Array.getElem?_append_left (by simp)]; rfl
    have e1 : (args.map a.eval).extract 0 args.size = args.map a.eval := by
      simp
    simp [execOp, ho, resolve, hv, invoke, e0, e1]
    exact h2
  · intro i v y hv hy
    rcases i with _ | i
    · rw [Array.getElem?_append_left (by simp)] at hv
      simp only [List.getElem?_cons_zero, List.getElem?_toArray, Option.some.injEq] at hv hy
      subst hv hy
      exact hu
    · rw [Array.getElem?_append_right (by simp)] at hv
      simp only [Array.size_singleton, Nat.add_sub_cancel, List.getElem?_cons_succ, Array.getElem?_map, Option.map_eq_some_iff, List.getElem?_map, Array.getElem?_toList] at hv hy
      obtain ⟨p, hp, rfl⟩ := hv
      obtain ⟨q, hq, rfl⟩ := hy
      rw [hp] at hq
      injection hq with hq
      subst hq
      exact hops p (mem_ops ho (by
        simp only [Op.operands, Call.operands]
        exact Array.mem_append.2 (.inr (Array.mem_of_getElem? hp))))

def invR (env : Env) (c : Call) : Option (TypeId × String × List AV) :=
  match c.callee with
  | .invoke y name => match seval env y with
    | .iface t x => some (t, name, x :: sevs env c.args.toList)
    | _ => none
  | _ => none

theorem invR_ok {hyp : Prop} {o : Oper} {cl : Call} {t : TypeId} {name : String} {f : FuncId} {nm : Nat} {l : List AV} {K : OpS → Prop} (ho : o.op = .call cl) (h : invR env cl = some (t, name, l)) (hI : Inv P t name f) (hc : cndsOK hyp env cl.operands.toList) (hK : CallW P cx hyp env box nm f l o K) : opW P cx hyp env box nm o K := by
  obtain ⟨callee, args, ats⟩ := cl
  unfold opW
  rw [ho]
  refine ⟨cnds_ops hc, ?_⟩
  unfold restW
  simp only [ho]
  unfold invR at h
  rw [sevs_eq] at h
  cases callee with
  | invoke y name' =>
    simp only at h
    split at h
    · rename_i t' x e2
      injection h with h; injection h with h1 h; injection h with h2 h3; subst h1 h2 h3
      exact hK (enters_inv ho e2 hI)
    · cases h
  | value y => cases h
  | builtin b => cases h

variable {ops : Array Oper} {draw : Bool} {rest : List Oper} {u : List Nat} {acc : List (List Nat × List Nat)} {K : Env → Boxes → Prop} {dst : Option Tmp} {ty : TypeId} {pos : String} {after : Array Edge} {nm : Nat} {g : Bool} {d : Tmp}

theorem rs_inv {cl : Call} {t : TypeId} {name : String} {f : FuncId} {l : List AV} (hS : invR env cl = some (t, name, l)) (hn : n0 + 8 * i = nm) (hI : Inv P t name f) (hK : CallW P cx True env box nm f l { dst := dst, op := .call cl, type := ty, pos := pos, after := after, guard := none } (regK P cx ops draw n0 rest i env box u acc K dst)) (hc : cndsOK True env (callOps cl)) :
    regW P cx ops draw n0 ({ dst := dst, op := .call cl, type := ty, pos := pos, after := after, guard := none } :: rest) i env box u acc K := by
  subst hn
  rw [← callOps_eq] at hc
  exact invR_ok (cx := cx) (o := { dst := dst, op := .call cl, type := ty, pos := pos, after := after, guard := none }) rfl hS hI hc hK

theorem rs_invg {jj : Nat} {want : Bool} {cl : Call} {t : TypeId} {name : String} {f : FuncId} {l : List AV} (hd : dstOf ops jj = some d) (hg : guardOf env want d = some g) (hS : invR env cl = some (t, name, l)) (hn : n0 + 8 * i = nm) (hI : Inv P t name f) (hK : CallW P cx (g = true) env box nm f l { dst := dst, op := .call cl, type := ty, pos := pos, after := after, guard := some (jj, want) } (regG P cx ops draw n0 rest i env box u acc K g dst)) (hc : cndsOK (g = true) env (callOps cl)) :
    regW P cx ops draw n0 ({ dst := dst, op := .call cl, type := ty, pos := pos, after := after, guard := some (jj, want) } :: rest) i env box u acc K := by
  subst hn
  rw [← callOps_eq] at hc
  unfold regW
  simp only [hd, hg]
  exact .inr (invR_ok (cx := cx) (o := { dst := dst, op := .call cl, type := ty, pos := pos, after := after, guard := some (jj, want) }) rfl hS hI hc hK)

attribute [go_sem ↓] invR
end Go.Proofs.Ytjplhfmakghabaa.V
