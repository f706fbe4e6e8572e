import Derived.Test.YtifjmokilbijlaaDoorWMore
namespace Go.Proofs.YtifjmokilbijlaaDoor.PLex
open Go Go.RowKit Go.Proofs.YtifjmokilbijlaaDoorW.PrintWords Go.Proofs.YtifjmokilbijlaaDoorW.PrintLast Go.Proofs.YtifjmokilbijlaaDoorW.PrintMore
theorem Ev_pos {α : Type} {c : Prop} [Decidable c] {f g : Nat → Option α} {r : α} (hc : c) (h : Ev f r) : Ev (fun k => if c then f k else g k) r := Ev.congr (fun _ => if_pos hc) h
theorem Ev_neg {α : Type} {c : Prop} [Decidable c] {f g : Nat → Option α} {r : α} (hc : ¬ c) (h : Ev g r) : Ev (fun k => if c then f k else g k) r := Ev.congr (fun _ => if_neg hc) h
theorem Ev_bnd {α β : Type} {g : Option α} {f : Nat → α → Option β} {a : α} {r : β} (h : g = some a) (k : Ev (fun n => f n a) r) : Ev (fun n => g.bind (f n)) r := by
  subst h; exact k
theorem Ev_bndc {α β : Type} {g : Nat → Option α} {f : α → Option β} {a : α} {r : β} (h : Ev g a) (k : f a = some r) : Ev (fun n => (g n).bind f) r :=
  Ev.bind (f := fun _ => f) h (Ev.congr (fun _ => k) (Ev.now r))
theorem Ev_some {α : Type} {g : Nat → Option α} {r : α} (h : ∀ k, g k = some r) : Ev g r := Ev.congr h (Ev.now r)
theorem Ev_cast {α : Type} {g : Nat → Option α} {r q : α} (h : Ev g r) (e : r = q) : Ev g q := e ▸ h
theorem w64 {x : Int} (h0 : -9223372036854775808 ≤ x) (h1 : x < 9223372036854775808) : wrap64 x = x := by unfold wrap64; omega
theorem wu64 (x : Int) : IntKind.u64.wrap x = x % 18446744073709551616 := by simp [IntKind.wrap, IntKind.signed, IntKind.bits]
theorem wsucc (i : Nat) (h : i ≤ 10000000) : wrap64 ((i : Int) + 1) = ((i + 1 : Nat) : Int) := by unfold wrap64; omega
theorem wpred (i : Nat) (h : i ≤ 10000000) : wrap64 ((i : Int) - 1) = (i : Int) - 1 := by unfold wrap64; omega
theorem wpred' (i : Nat) (h : i ≤ 10000000) : wrap64 (((i + 1 : Nat) : Int) - 1) = (i : Int) := by unfold wrap64; omega
theorem wrap64_congr {x y : Int} (t : Int) (h : x = y + 18446744073709551616 * t) : wrap64 x = wrap64 y := by unfold wrap64; omega
theorem Ev_and {α : Type} {g : Nat → Option α} {r : α} (h : Ev g r) : ∃ k, g k = some r := Ev.rounds h
end Go.Proofs.YtifjmokilbijlaaDoor.PLex
