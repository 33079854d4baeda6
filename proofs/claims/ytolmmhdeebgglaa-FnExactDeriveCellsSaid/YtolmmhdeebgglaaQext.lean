/- A region that draws its order, whose operations only read and whose callees leave all that lay there: walked once, at the class of worlds that extend the one at hand. No program in sight. -/
import Derived.Test.YtolmmhdeebgglaaLib
import Derived.Deep.QuietTactic
namespace Go.Proofs.Ytolmmhdeebgglaa
open Go.RowKit

/-- a world that extends wo -/
structure ExtOf (wo : World) where
  w : World
  ext : Ext wo w
instance instInhExtOf (wo : World) : Inhabited (ExtOf wo) := ⟨⟨wo, Ext.refl wo⟩⟩
theorem wp_region_quiet_ext {P : Program} {id : Nat} {Q : Exit → Act → World → Prop} {a : Act} {w : World} {l : List Oper} (hm : P.follows .mixedOrders = true) (hB : Region.lexB .any l.toArray = true)
    (h : wpQuiet P l.toArray (fun w' => ∃ p : ExtOf w, w' = p.w) (fun a' => ∀ w', (∃ p : ExtOf w, w' = p.w) → Q .normal a' w') l a) : (Code.region id l.toArray true).wp P Q a w :=
  wp_region_quiet (C := fun w' => ∃ p : ExtOf w, w' = p.w) hm hB ⟨⟨w.drew, (Ext.refl w).drew⟩, rfl⟩ (by simpa using h)
theorem calls_ext {P : Program} {f : FuncId} {args : Array Value} {wo : World} {p : ExtOf wo} {v : Value}
    (h : Calls P f args p.w fun e w' => e = .returned v ∧ Ext p.w w') : Calls P f args p.w fun e w'' => e = .returned v ∧ ∃ q : ExtOf wo, w'' = q.w :=
  h.mono fun _ _ ⟨he, hx⟩ => ⟨he, ⟨⟨_, p.ext.trans hx⟩, rfl⟩⟩
theorem calls_ext_drew {P : Program} {f : FuncId} {args : Array Value} {wo : World} {p : ExtOf wo} {v : Value}
    (h : Calls P f args p.w fun e w' => e = .returned v ∧ ∃ m, w' = p.w.drewN m) : Calls P f args p.w fun e w'' => e = .returned v ∧ ∃ q : ExtOf wo, w'' = q.w :=
  calls_ext (h.mono fun _ _ ⟨he, m, hm⟩ => ⟨he, by rw [hm]; exact (Ext.refl _).drewN m⟩)
theorem calls_ext_same {P : Program} {f : FuncId} {args : Array Value} {wo : World} {p : ExtOf wo} {v : Value}
    (h : Calls P f args p.w fun e w' => e = .returned v ∧ w' = p.w) : Calls P f args p.w fun e w'' => e = .returned v ∧ ∃ q : ExtOf wo, w'' = q.w :=
  calls_ext (h.mono fun _ _ ⟨he, hm⟩ => ⟨he, by rw [hm]; exact Ext.refl _⟩)
end Go.Proofs.Ytolmmhdeebgglaa
