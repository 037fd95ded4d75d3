/- Part of the proof of TopEntries: live() is true. -/
import Derived.Test.YtcmohdedlclcgaaGreatDoorX10
set_option linter.unusedVariables false
set_option linter.unusedSimpArgs false
set_option linter.unusedSectionVars false
open Go.Proofs
namespace Go.Ex
/-- the known heap at the start: the table of tens -/
noncomputable def W0 (e : TypeId) : XW := { heap := (Tr.nil : Tr XB).set dep 0 (some (.cells e 20 ((List.range 20).map fun i => .int .u64 (.ofNat (10 ^ i))) false none 0 true)), next := 20 }
noncomputable def kT : XV → XW → R := fun v _ => same v (.bool true) (some (.unk, ⟨Tr.nil, 0⟩))

theorem W0_rep [Val] {w : World} {e : TypeId} {fz : Nat × Nat} (h : w.heap[0]? = some (.cells (Lib.pow10Tab.map fun z => Value.int .u64 z).toArray e fz)) (hG : Val.G w) : Rep w ρ0 (W0 e) w := by
  have hsz : 0 < w.heap.size := (Array.getElem?_eq_some_iff.1 h).1
  have hρ : ∀ b x, ρ0 b = some x → b = 0 ∧ x = (0, 0, 20) := by
    intro b x hb
    unfold ρ0 at hb
    split at hb
    · rename_i e; cases hb; exact ⟨e, rfl⟩
    · cases hb
  have hg : (W0 e).heap.get 0 = some (.cells e 20 ((List.range 20).map fun i => .int .u64 (.ofNat (10 ^ i))) false none 0 true) := by
    show ((Tr.nil : Tr XB).set dep 0 _).get 0 = _
    rw [get_set_dep _ _ _ (by decide), if_pos rfl]
  refine ⟨Nat.le_refl _, fun _ _ => rfl, rfl, rfl, rfl, hG, ⟨20, rfl⟩, ?_, ?_, ?_, ?_⟩
  · intro b x hb
    obtain ⟨rfl, rfl⟩ := hρ b x hb
    exact ⟨by show 0 < 20; omega, hsz⟩
  · intro b x r d q hx hb
    obtain ⟨rfl, he⟩ := hρ b _ hb
    cases he
    rw [hg] at hx; cases hx
    refine ⟨by simp, Nat.le_refl _, _, fz.1, fz.2, h, by simp [Lib.pow10Tab], ?_, ?_, (fun h => by cases h), (fun h => by cases h)⟩
    · refine ⟨by simp [Lib.pow10Tab], fun i x y hx hy => ?_⟩
      simp [Lib.pow10Tab, List.getElem?_map, List.getElem?_take] at hx hy
      obtain ⟨p, hp, rfl⟩ := hx
      obtain ⟨_, p', hp', rfl⟩ := hy
      rw [hp] at hp'; cases hp'
      exact .int _ _
    · refine flat_all ?_
      intro y hy
      simp at hy
      obtain ⟨z, _, rfl⟩ := hy
      rfl
  · intro b x r d q hx hb hro
    obtain ⟨rfl, _⟩ := hρ b _ hb
    rw [hg] at hx; cases hx; cases hro
  · intro b b' x x' r d d' q q' hne _ _ hb hb'
    exact absurd ((hρ b _ hb).1.trans (hρ b' _ hb').1.symm) hne


theorem live_of [Val] {P : Program} (hX : ExtOK P) {T n : Nat} {f : FuncId} (h : ∀ e, ((callN P T n f false).f [] (W0 e) kT).isSome = true) {w : World} (hG : Val.G w) (h0 : Tens w) :
    Calls P f #[] w fun x w' => ∃ v, x = .returned v ∧ v = .bool true ∧ Keeps w w' := by
  obtain ⟨e, fz, h1⟩ := id h0
  refine run_keeps hX (h e) (W0_rep h1 hG) (args' := #[]) ⟨rfl, fun i x y hx _ => by simp at hx⟩ ?_
  intro x E' ρ' v r hx hv
  have := (same_some hx).1
  subst this
  exact hv.bool_inv

/-- nothing is known by other means -/
@[reducible] noncomputable def liveV : Val where
  op _ := none
  fn _ := none
  G := Tens
  stays _ _ h k := k.keeps h
  σ _ := .int .u8 0
  flat _ := rfl
  byte _ _ := ⟨0, rfl⟩
/-- how deep each function lies: a callee below its caller -/
def levels : Nat := 55380997568118692159035967778728375182460580681731681477581793637479319748973359080765183329404434982317703968488103435991076858959439936206360724906286236260285422277292285872901738393812183420208535720820445151099328128070432278564747552711830000514009767027005076000190188180982573961752238871187824529288297169600317670944662780557991534565005033013659404562870388542897134097877954653192310969042076098719059300387464469102235407749324927163724903915487865578571099246247121570336849260632112623440851190575226479282279802395363487788154072267154955817236762473406667868159474023233991842514755097362601592346902135402438258554295903176257262728565534090662478434469159197301365131476139265590773596291158043023208631110878159036397563222561396606842113774571866778860090569594395035961998877457089397087274834960960659190924464134489763369703861676670976
set_option maxRecDepth 1000000
theorem live_run (e : TypeId) : ((@callN liveV.toTab Tryz.prog levels 17 6 false).f [] (W0 e) kT).isSome = true := by kernel_rfl
/-- live() is true -/
theorem live_ext : @ExtOK liveV Tryz.prog := @ext_ok liveV (fun _ _ _ _ h => nomatch h) (fun _ _ _ _ h => nomatch h)
theorem live_calls {w : World} (h0 : Tens w) : Calls Tryz.prog 6 #[] w fun x w' => ∃ v, x = .returned v ∧ v = .bool true ∧ Keeps w w' :=
  @live_of liveV Tryz.prog live_ext levels 17 6 live_run w h0 h0
end Go.Ex
