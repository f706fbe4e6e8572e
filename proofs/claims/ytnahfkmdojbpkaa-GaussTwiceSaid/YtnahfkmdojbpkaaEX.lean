import Derived.Test.YtnahfkmdojbpkaaEW
import Derived.Laws.Externs
import GoSem.Extern.MathBitsCarry
/-! The engine, part X: the rules in their shortest form; functions that have no Go body. -/
set_option linter.all false
namespace Go.Eng
@[simp] theorem clean_nil {d : Nat} {s : St} : clean d [] s = s := rfl
mutual
theorem wkR_refl : ∀ g : GV, wkR g g
  | .csl _ => by unfold wkR; exact .inl rfl
  | .tsl _ _ => by unfold wkR; exact .inr rfl
  | .agg gs => by unfold wkR; exact ⟨gs, rfl, wkRs_refl gs⟩
  | .undef => by unfold wkR; rfl
  | .p _ => by unfold wkR; rfl
  | .own _ _ => by unfold wkR; rfl
  | .obx _ => by unfold wkR; rfl
  | .bp _ _ => by unfold wkR; rfl
  | .ep _ _ => by unfold wkR; rfl
  | .arr _ _ _ => by unfold wkR; rfl
  | .oar _ _ => by unfold wkR; rfl
  | .ap _ _ _ _ => by unfold wkR; rfl
  | .fn _ _ => by unfold wkR; rfl
  | .tup _ => by unfold wkR; rfl
theorem wkRs_refl : ∀ gs : List GV, wkRs gs gs
  | [] => by unfold wkRs; rfl
  | g :: gs => by unfold wkRs; exact ⟨g, gs, rfl, wkR_refl g, wkRs_refl gs⟩
end
section
variable {P : Program} {C : CR} {A : Ann} {d : Nat}
theorem callp {K : St → Prop} {F : Nat → GV} {G : Heap} {n : FuncId} {caps args as : List GV} {t : Nat} {r : GV} (hT : C d n as empty r empty) (hK : K ⟨upd F t r, G⟩) (hw : wkRs (args ++ caps) as := by first | exact wkRs_refl _ | simp) (ho : A.openAt t = false := by rfl) (hcl : closeds as := by simp)
    (hf : G d t = [] := by simp) (hr : adopt d t r [] = (r, []) := by simp) (hb : A.borAt t = false := by rfl) (hz : A.frzAt t = false := by rfl) : gCall C A d G (.fn n caps) args (some t) (kont d (some t) K ⟨F, G⟩) := call_pure hT hw ho hcl hf hr hK hb hz
/-- A loop whose ends are told first; what comes behind it is shown once. -/
theorem gwp_loopP {c : Code} {Q : GE → St → Prop} {s : St} (I : Nat → St → Prop) (R : GE → St → Prop) {m : Nat} (h0 : I m s)
    (hstep : ∀ k s, I k s → gwp P C A d c (GE.then (fun s' => ∃ k', k' < k ∧ I k' s') R) (clean d (A.clean (firstId c)) s)) (hR : ∀ e s, R e s → Q e s) : gwp P C A d (.loop c) Q s :=
  mono_gwp _ _ _ hR _ (gwp_loop I h0 hstep)
/-- What a conditional comes to, told first. -/
theorem gwp_cut {c : Code} {Q : GE → St → Prop} {s : St} (R : St → Prop) (h : gwp P C A d c (fun e s' => e = .normal ∧ R s') s) (hR : ∀ s', R s' → Q .normal s') : gwp P C A d c Q s :=
  mono_gwp _ _ _ (fun e s' h => by obtain ⟨rfl, h⟩ := h; exact hR _ h) _ h
end
theorem VRs_nil_inv {M : Nat → Nat → Value → Prop} {G : Heap} {R : RMap} {d : Nat} {vs : List Value} (h : VRs M G R d [] vs) : vs = [] := by
  cases vs with
  | nil => rfl
  | cons v vs => unfold VRs at h; exact h.elim
theorem VRs_int {M : Nat → Nat → Value → Prop} {G : Heap} {R : RMap} {d : Nat} {k : IntKind} {n : Int} {gs : List GV} {vs : List Value} (h : VRs M G R d (.p (.int k n) :: gs) vs) : ∃ us, vs = .int k n :: us ∧ VRs M G R d gs us := by
  cases vs with
  | nil => unfold VRs at h; exact h.elim
  | cons v vs =>
    unfold VRs at h
    have := VR.p_iff.1 h.1
    unfold PR at this
    exact ⟨vs, by rw [this], h.2⟩
def subEntry : Array Value → Sem Value := fun args => (Extern.MathBitsCarry.three "Sub64" args) >>= fun t => pure (Extern.MathBitsCarry.pair ((t.1 + Extern.MathBitsCarry.m64 - t.2.1 - t.2.2) % Extern.MathBitsCarry.m64) (if t.1 < t.2.1 + t.2.2 then 1 else 0))
def addEntry : Array Value → Sem Value := fun args => (Extern.MathBitsCarry.three "Add64" args) >>= fun t => pure (Extern.MathBitsCarry.pair ((t.1 + t.2.1 + t.2.2) % Extern.MathBitsCarry.m64) ((t.1 + t.2.1 + t.2.2) / Extern.MathBitsCarry.m64))
theorem run_sub {P : Program} (x y b : Nat) (hb : b ≤ 1) (w : World) :
    (subEntry #[.int .u64 x, .int .u64 y, .int .u64 b]).run P w = .ok (.tuple #[.int .u64 (((x + 18446744073709551616 - y - b) % 18446744073709551616 : Nat) : Int), .int .u64 ((if x < y + b then 1 else 0 : Nat) : Int)]) w := by
  have : b = 0 ∨ b = 1 := by omega
  rcases this with rfl | rfl <;> rfl
theorem run_add {P : Program} (x y b : Nat) (hb : b ≤ 1) (w : World) :
    (addEntry #[.int .u64 x, .int .u64 y, .int .u64 b]).run P w = .ok (.tuple #[.int .u64 (((x + y + b) % 18446744073709551616 : Nat) : Int), .int .u64 (((x + y + b) / 18446744073709551616 : Nat) : Int)]) w := by
  have : b = 0 ∨ b = 1 := by omega
  rcases this with rfl | rfl <;> rfl
theorem tel_carry {P : Program} {TB : Nat → Option Obj} {f : FuncId} {fn : Func} {en : Array Value → Sem Value} {x y b u v : Nat} (hf : P.funcs[f]? = some fn) (hname : (fn.name == "runtime.NumGoroutine") = false)
    (hb : fn.body.isNone = true) (hn : Extern.findNext fn = none) (he : Extern.find fn = some en)
    (h : ∀ w, (en #[.int .u64 x, .int .u64 y, .int .u64 b]).run P w = .ok (.tuple #[.int .u64 (u : Int), .int .u64 (v : Int)]) w) (d : Nat) (G : Heap) :
    Tel P TB d f [.p (.int .u64 (x : Int)), .p (.int .u64 (y : Int)), .p (.int .u64 (b : Int))] G (.tup [.p (.int .u64 (u : Int)), .p (.int .u64 (v : Int))]) G := by
  refine tel_extern (fun d t0 => by simp) (fun X d G R w vals hs hv => ?_) d G
  obtain ⟨v1, rfl, hv1⟩ := VRs_int hv
  obtain ⟨v2, rfl, hv2⟩ := VRs_int hv1
  obtain ⟨v3, rfl, hv3⟩ := VRs_int hv2
  cases VRs_nil_inv hv3
  refine ⟨.tuple #[.int .u64 (u : Int), .int .u64 (v : Int)], ?_, ?_⟩
  · rw [run_callFunc_extern hf hname hb hn he]
    rw [h w]
    rfl
  · unfold VR
    refine ⟨[.int .u64 (u : Int), .int .u64 (v : Int)], rfl, VRs.cons (VR.p_iff.2 (by unfold PR; rfl)) (VRs.one (VR.p_iff.2 (by unfold PR; rfl)))⟩
end Go.Eng
