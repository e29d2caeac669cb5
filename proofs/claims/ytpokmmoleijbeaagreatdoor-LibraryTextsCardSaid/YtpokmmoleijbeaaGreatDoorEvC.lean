/-
  The evaluator: regions in every order, code, functions.
-/
import Derived.Test.YtpokmmoleijbeaaGreatDoorEvB
import Derived.LoopN
import Derived.Scope
import Derived.Defers
/- Regions: the evaluator's run and its trace. -/
set_option autoImplicit false
namespace Go.Ev
open Go.RowKit

inductive Gd where
  | none
  | mk (r : RefB) (want : Bool)
/-- what is evaluated again: the entry of the environment (newest first), guard, operation -/
inductive Ck where
  | mk (n : Nat) (g : Gd) (f : V → Tr V → HS → OpR)
inductive It where
  | mk (g : Gd) (c : OpC) (off : Nat) (ck : List Ck)
def It.g : It → Gd | .mk g _ _ _ => g
def It.c : It → OpC | .mk _ c _ _ => c
def It.off : It → Nat | .mk _ _ o _ => o
def It.ck : It → List Ck | .mk _ _ _ k => k

section
variable {β : Type}
noncomputable def gateV (v : V) (want : Bool) (yes no bad : β) : β :=
  V.rec (motive := fun _ => β) (fun t x => ifB (Nat.beq t 1) (Nat.rec (motive := fun _ => β) (ifB want no yes) (fun _ _ => ifB want yes no) x) bad) (fun t _ _ _ _ _ => ifB (Nat.beq t 11) no bad) v
noncomputable def gate (g : Gd) (env : V) (T : Tr V) (yes no bad : β) : β := Gd.rec (motive := fun _ => β) yes (fun r want => gateV (r.get env T) want yes no bad) g
end
noncomputable def onR (o : OpR) (k : V → HS → Out) : Out := OpR.rec (motive := fun _ => Out) (fun c => .bad c) (fun v h => k v h) o
/-- the same value -/
noncomputable def veq (v : V) : V → Bool := V.rec (motive := fun _ => V → Bool) (fun t x u => V.rec (motive := fun _ => Bool) (fun t' x' => ifB (Nat.beq t t') (Nat.beq x x') false) (fun _ _ _ _ _ _ => false) u)
  (fun t x _ _ ihl ihr u => V.rec (motive := fun _ => Bool) (fun _ _ => false) (fun t' x' l' r' _ _ => ifB (Nat.beq t t') (ifB (Nat.beq x x') (ifB (ihl l') (ihr r') false) false) false) u) v
theorem ifB_t {b c : Bool} (h : ifB b c false = true) : b = true ∧ c = true := by cases b <;> cases c <;> simp_all
theorem veq_t : ∀ {v u : V}, veq v u = true → v = u := by
  intro v
  induction v with
  | a t x =>
    intro u h
    cases u with
    | a t' x' =>
      obtain ⟨h1, h2⟩ := ifB_t (show ifB (Nat.beq t t') (Nat.beq x x') false = true from h)
      rw [beq_t h1, beq_t h2]
    | b => cases h
  | b t x l r ihl ihr =>
    intro u h
    cases u with
    | a => cases h
    | b t' x' l' r' =>
      obtain ⟨h1, h2⟩ := ifB_t (show ifB (Nat.beq t t') (ifB (Nat.beq x x') (ifB (veq l l') (veq r r') false) false) false = true from h)
      obtain ⟨h3, h4⟩ := ifB_t h2
      obtain ⟨h5, h6⟩ := ifB_t h4
      rw [beq_t h1, beq_t h3, ihl h5, ihr h6]
noncomputable def ckRun (l : List Ck) (env : V) (T : Tr V) (h : HS) (k : Out) : Out :=
  List.rec (motive := fun _ => Out) k (fun c _ ih => Ck.rec (motive := fun _ => Out) (fun n g f => gate g (dropL (Nat.succ n) env) T (onR (f (dropL (Nat.succ n) env) T h) fun v _ => ifB (veq v (nth n env)) ih (.bad 11)) ih (.bad 12)) c) l
noncomputable def opRun (c : OpC) (ck : List Ck) (id : Nat) (ce : CE) (env : V) (T : Tr V) (h : HS) (k : V → HS → Out) : Out :=
  OpC.rec (motive := fun _ => Out) (.bad 13) (fun f => onR (f env T h) fun v _ => k v h) (fun f => onR (f env T h) fun v _ => k v h)
    (fun f => forceN id fun id => onR (f id env T) fun v h1 => onOb (h1.get 0) fun tag n el _ mn t => h.putK id (.mk tag n el 0 mn t) fun h' => k v h')
    (fun f => onR (f ce env T h) fun v h' => ckRun ck (.cons v env) T h' (k v h')) (fun f => onR (f env T h) fun v _ => k v h) c
noncomputable def itRun (it : It) (ce : CE) (base : Nat) (env : V) (T : Tr V) (h : HS) (k : V → HS → Out) : Out :=
  It.rec (motive := fun _ => Out) (fun g c off ck => gate g env T (opRun c ck (Nat.add base off) ce env T h k) (k .undef h) (.bad 14)) it
noncomputable def runI (l : List It) (ce : CE) (base : Nat) (T : Tr V) : V → HS → (V → HS → Out) → Out :=
  List.rec (motive := fun _ => V → HS → (V → HS → Out) → Out) (fun env h k => k env h) (fun it _ ih env h k => itRun it ce base env T h fun v h' => ih (.cons v env) h' k) l

/-! the trace -/
/-- 0: the guard says no; 1: yes -/
def gateN (g : Gd) (env : V) (T : Tr V) (n : Nat) : Prop := gate g env T 1 0 2 = n
theorem gate_of {β : Type} (g : Gd) (env : V) (T : Tr V) (y n b : β) : (gateN g env T 1 ∧ gate g env T y n b = y) ∨ (gateN g env T 0 ∧ gate g env T y n b = n) ∨ gate g env T y n b = b := by
  cases g with
  | none => exact .inl ⟨rfl, rfl⟩
  | mk r want =>
    show (gateV (r.get env T) want 1 0 2 = 1 ∧ gateV (r.get env T) want y n b = y) ∨ (gateV (r.get env T) want 1 0 2 = 0 ∧ gateV (r.get env T) want y n b = n) ∨ gateV (r.get env T) want y n b = b
    generalize r.get env T = v
    cases v with
    | a t x =>
      cases h1 : Nat.beq t 1 with
      | true =>
        have := beq_t h1; subst this
        cases x with
        | zero => cases want with
          | true => exact .inr (.inl ⟨rfl, rfl⟩)
          | false => exact .inl ⟨rfl, rfl⟩
        | succ x => cases want with
          | true => exact .inl ⟨rfl, rfl⟩
          | false => exact .inr (.inl ⟨rfl, rfl⟩)
      | false => exact .inr (.inr (by simp [gateV, h1]))
    | b t x l q =>
      cases h1 : Nat.beq t 11 with
      | true => exact .inr (.inl ⟨by simp [gateV, h1], by simp [gateV, h1]⟩)
      | false => exact .inr (.inr (by simp [gateV, h1]))
/-- the first version -/
def zc : Ob → Ob | .mk tag n el _ mn t => .mk tag n el 0 mn t
theorem zc_cur (o : Ob) : (zc o).cur = 0 := by cases o; rfl
theorem zc_eq {o : Ob} (h : o.cur = 0) : zc o = o := by cases o; cases h; rfl
def CkOk (env : V) (T : Tr V) (h : HS) : Ck → Prop
  | .mk n g f => gateN g (dropL (Nat.succ n) env) T 0 ∨ (gateN g (dropL (Nat.succ n) env) T 1 ∧ ∃ h1, f (dropL (Nat.succ n) env) T h = .ok (nth n env) h1)
def StepI (ce : CE) (base : Nat) (T : Tr V) (it : It) (env : V) (h : HS) (v : V) (h' : HS) : Prop :=
  (gateN it.g env T 0 ∧ v = .undef ∧ h' = h) ∨ (gateN it.g env T 1 ∧ match it.c with
    | .bad => False
    | .p f | .r f | .d f => (∃ h1, f env T h = .ok v h1) ∧ h' = h
    | .m f => ∃ h1, f (base + it.off) env T = .ok v h1 ∧ h' = h.put (base + it.off) (zc (h1.get 0))
    | .e f => f ce env T h = .ok v h' ∧ ∀ c ∈ it.ck, CkOk (.cons v env) T h' c)
section
variable {ce : CE} {base : Nat} {T T' : Tr V} {h h' : HS} {env : V} {e : Nat} {k : V → HS → Out}
theorem onR_fin {o : OpR} (hh : onR o k = .fin e T' h') : ∃ v h1, o = .ok v h1 ∧ k v h1 = .fin e T' h' := by
  cases o with
  | bad c => cases hh
  | ok v h1 => exact ⟨v, h1, rfl, hh⟩
theorem ckRun_fin {l : List Ck} {o : Out} (hh : ckRun l env T h o = .fin e T' h') : o = .fin e T' h' ∧ ∀ c ∈ l, CkOk env T h c := by
  induction l with
  | nil => exact ⟨hh, fun c hc => by cases hc⟩
  | cons c l ih =>
    obtain ⟨n, g, f⟩ := c
    have hh : gate g (dropL (Nat.succ n) env) T (onR (f (dropL (Nat.succ n) env) T h) fun v _ => ifB (veq v (nth n env)) (ckRun l env T h o) (.bad 11)) (ckRun l env T h o) (.bad 12) = .fin e T' h' := hh
    rcases gate_of g (dropL (Nat.succ n) env) T (onR (f (dropL (Nat.succ n) env) T h) fun v _ => ifB (veq v (nth n env)) (ckRun l env T h o) (.bad 11)) (ckRun l env T h o) (Out.bad 12) with ⟨g1, g2⟩ | ⟨g1, g2⟩ | g2
    · rw [g2] at hh
      obtain ⟨v, h1, q1, q2⟩ := onR_fin hh
      rcases ifB_two q2 with ⟨q3, q4⟩ | ⟨q3, q4⟩
      · obtain ⟨r1, r2⟩ := ih q4
        refine ⟨r1, fun c hc => ?_⟩
        rcases List.mem_cons.1 hc with rfl | hc
        · exact .inr ⟨g1, h1, by rw [q1, veq_t q3]⟩
        · exact r2 c hc
      · cases q4
    · rw [g2] at hh
      obtain ⟨r1, r2⟩ := ih hh
      refine ⟨r1, fun c hc => ?_⟩
      rcases List.mem_cons.1 hc with rfl | hc
      · exact .inl g1
      · exact r2 c hc
    · rw [g2] at hh; cases hh
theorem onOb_eq {β : Type} (o : Ob) (k : Ob → β) : (onOb o fun tag n el _ mn t => k (.mk tag n el 0 mn t)) = k (zc o) := by cases o; rfl
theorem itRun_fin {it : It} (hh : itRun it ce base env T h k = .fin e T' h') : ∃ v h1, StepI ce base T it env h v h1 ∧ k v h1 = .fin e T' h' := by
  obtain ⟨g, c, off, ck⟩ := it
  have hh : gate g env T (opRun c ck (base + off) ce env T h k) (k .undef h) (.bad 14) = .fin e T' h' := hh
  rcases gate_of g env T (opRun c ck (base + off) ce env T h k) (k .undef h) (Out.bad 14) with ⟨g1, g2⟩ | ⟨g1, g2⟩ | g2
  · rw [g2] at hh
    cases c with
    | bad => cases hh
    | p f => obtain ⟨v, h1, q1, q2⟩ := onR_fin hh; exact ⟨v, h, .inr ⟨g1, ⟨h1, q1⟩, rfl⟩, q2⟩
    | r f => obtain ⟨v, h1, q1, q2⟩ := onR_fin hh; exact ⟨v, h, .inr ⟨g1, ⟨h1, q1⟩, rfl⟩, q2⟩
    | d f => obtain ⟨v, h1, q1, q2⟩ := onR_fin hh; exact ⟨v, h, .inr ⟨g1, ⟨h1, q1⟩, rfl⟩, q2⟩
    | m f =>
      have hh : forceN (base + off) (fun id => onR (f id env T) fun v h1 => onOb (h1.get 0) fun tag n el _ mn t => h.putK id (.mk tag n el 0 mn t) fun h' => k v h') = .fin e T' h' := hh
      rw [forceN_eq] at hh
      obtain ⟨v, h1, q1, q2⟩ := onR_fin hh
      rw [onOb_eq (h1.get 0) fun o => h.putK (base + off) o fun h' => k v h', HS.putK_eq] at q2
      exact ⟨v, _, .inr ⟨g1, h1, q1, rfl⟩, q2⟩
    | e f =>
      obtain ⟨v, h1, q1, q2⟩ := onR_fin hh
      obtain ⟨r1, r2⟩ := ckRun_fin q2
      exact ⟨v, h1, .inr ⟨g1, q1, r2⟩, r1⟩
  · rw [g2] at hh; exact ⟨_, _, .inl ⟨g1, rfl, rfl⟩, hh⟩
  · rw [g2] at hh; cases hh
def pushN (env : V) (vs : Nat → V) : Nat → V
  | 0 => env
  | j + 1 => .cons (vs j) (pushN env vs j)
theorem pushN_shift (env : V) (v : V) (vs : Nat → V) : ∀ j, pushN (.cons v env) vs j = pushN env (fun | 0 => v | j + 1 => vs j) (j + 1)
  | 0 => rfl
  | j + 1 => by show V.cons (vs j) (pushN _ vs j) = V.cons _ _; rw [pushN_shift env v vs j]
/-- THE TRACE: values and heaps, item by item -/
theorem runI_fin : ∀ (l : List It) (env : V) (h : HS), runI l ce base T env h k = .fin e T' h' →
    ∃ (vs : Nat → V) (hs : Nat → HS), hs 0 = h ∧ (∀ j it, l[j]? = some it → StepI ce base T it (pushN env vs j) (hs j) (vs j) (hs (j + 1))) ∧ k (pushN env vs l.length) (hs l.length) = .fin e T' h'
  | [], env, h, hh => ⟨fun _ => .no, fun _ => h, rfl, fun j it hj => by simp at hj, hh⟩
  | it :: l, env, h, hh => by
    obtain ⟨v, h1, q1, q2⟩ := itRun_fin (show itRun it ce base env T h (fun v h' => runI l ce base T (.cons v env) h' k) = .fin e T' h' from hh)
    obtain ⟨vs, hs, r1, r2, r3⟩ := runI_fin l _ _ q2
    refine ⟨fun | 0 => v | j + 1 => vs j, fun | 0 => h | j + 1 => hs j, rfl, fun j it' hj => ?_, ?_⟩
    · cases j with
      | zero => simp at hj; subst hj; rw [← r1] at q1; exact q1
      | succ j => have := r2 j it' (by simpa using hj); rw [pushN_shift] at this; exact this
    · rw [pushN_shift] at r3; exact r3
end
end Go.Ev

/- Regions: what holds of an activation while a region's operations are done in some order. -/
set_option autoImplicit false
namespace Go.Ev
open Go.RowKit

structure Rg where
  P : Program
  ops : Array Oper
  ix : List Nat
  l : List It
  R : Nat → Operand → RefB
  dep : Nat → Nat → Prop
  N : Nat
  ce : CE
  base : Nat
  T : Tr V
  vs : Nat → V
  hs : Nat → HS
namespace Rg
variable (X : Rg)
def n : Nat := X.ix.length
def o (j : Nat) : Option Oper := (X.ix[j]?).bind (X.ops[·]?)
def env (j : Nat) : V := pushN .nilL X.vs j
def dst (j : Nat) (t : Tmp) : Prop := ∃ o, X.o j = some o ∧ o.dst = some t
def nm (j : Nat) (t : Tmp) : Prop := ∃ o, X.o j = some o ∧ (o.dst = some t ∨ .tmp t ∈ o.op.operands ∨ ∃ g want, o.guard = some (g, want) ∧ (X.ops[g]?).bind (·.dst) = some t)
/-- effects that are done, objects that are made -/
def actE (j : Nat) : Prop := ∃ it f, X.l[j]? = some it ∧ it.c = .e f ∧ gateN it.g (X.env j) X.T 1
def actM (j : Nat) (id : Nat) (ob : Ob) : Prop := ∃ it f h1, X.l[j]? = some it ∧ it.c = .m f ∧ gateN it.g (X.env j) X.T 1 ∧ id = X.base + it.off ∧ f id (X.env j) X.T = .ok (X.vs j) h1 ∧ ob = zc (h1.get 0)
def GdOk (o : Oper) (j : Nat) (g : Gd) : Prop := match o.guard with | none => g = .none | some (i, want) => ∃ t, (X.ops[i]?).bind (·.dst) = some t ∧ g = .mk (X.R j (.tmp t)) want
structure Ok (ι0 : Em) (a0 : Act) : Prop where
  len : X.l.length = X.n
  item : ∀ (j : Nat) (it : It), X.l[j]? = some it → ∃ o, X.o j = some o ∧ Spec X.P (X.R j) o it.c ∧ X.GdOk o j it.g
  lt : ∀ i j, X.dep i j → i < j
  eff : ∀ (e j : Nat) (it : It) f, X.l[e]? = some it → it.c = .e f → e < j → j < X.n → X.dep e j
  names : ∀ j t p, X.nm j t → X.dst p t → p ≠ j → (p < j → X.dep p j) ∧ (j < p → X.dep j p)
  dstN : ∀ j t, X.dst j t → t < X.N
  offs : ∀ (i j : Nat) (it it' : It) f f', X.l[i]? = some it → X.l[j]? = some it' → it.c = .m f → it'.c = .m f' → it.off = it'.off → i = j
  cks : ∀ (e j : Nat) (it : It) f (it' : It) f', X.l[e]? = some it → it.c = .e f → X.l[j]? = some it' → it'.c = .r f' → j < e → ¬ X.dep j e → Ck.mk (e - j) it'.g f' ∈ it.ck
  oned : ∀ (i j : Nat) (it it' : It) f f', X.l[i]? = some it → X.l[j]? = some it' → it.c = .d f → it'.c = .d f' → i = j
  ddst : ∀ (j : Nat) (it : It) f o, X.l[j]? = some it → it.c = .d f → X.o j = some o → o.dst = none
  trace : ∀ (j : Nat) (it : It), X.l[j]? = some it → StepI X.ce X.base X.T it (X.env j) (X.hs j) (X.vs j) (X.hs (j + 1))
  ceok : ∃ gz, CeOk X.P gz X.ce ∧ GRel gz ι0
  tmp : ∀ j t, j < X.n → (∃ p, p < j ∧ X.dst p t ∧ (∀ q, q < j → X.dst q t → q ≤ p) ∧ (X.R j (.tmp t)).get (X.env j) X.T = X.vs p) ∨ ((∀ p, p < j → ¬ X.dst p t) ∧ vr ι0 ((X.R j (.tmp t)).get (X.env j) X.T) (a0.eval (.tmp t)))
  other : ∀ j x (a : Act), (∀ t, x ≠ .tmp t) → vr ι0 ((X.R j x).get (X.env j) X.T) (a.eval x)
  size0 : a0.tmps.size = X.N
/-- D: what is done; c: the next effect's place; c0: behind the last effect -/
structure Inv (ι0 : Em) (h0 : HS) (w0 : World) (a0 : Act) (D : Nat → Prop) (ι : Em) (c0 c : Nat) (a : Act) (w : World) : Prop where
  H : HRel ι (X.hs c) w
  E : Ext ι0 h0 w0 ι (X.hs c) w
  size : a.tmps.size = X.N
  last : ∀ t p, D p → X.dst p t → (∀ q, D q → X.dst q t → q ≤ p) → vr ι (X.vs p) (a.eval (.tmp t))
  keep : ∀ t, (∀ p, D p → ¬ X.dst p t) → a.eval (.tmp t) = a0.eval (.tmp t)
  le : c0 ≤ c ∧ c ≤ X.n
  quiet : ∀ i, c0 ≤ i → i < c → ¬ X.actE i
  at_ : c = X.n ∨ X.actE c
  from_ : c0 = 0 ∨ ∃ e, c0 = e + 1 ∧ X.actE e
  done : ∀ e, e < c → X.actE e → D e
  inn : ∀ j, D j → j < c
  cl : ∀ i j, X.dep i j → D j → D i
  mN : ∀ j id ob, X.actM j id ob → ¬ D j → ∀ ver, ι id ver = none
  late : ∀ j id ob, X.actM j id ob → ¬ D j → j < c → (X.hs c).get id = ob
  fut : ∀ j id ob, X.actM j id ob → c0 ≤ j → ((X.hs c0).get id).tag = 0
  room : ∀ j id ob, X.actM j id ob → h0.next ≤ id ∧ id < (X.hs c0).next
  dN : (∀ (j : Nat) (it : It) f, X.l[j]? = some it → it.c = .d f → gateN it.g (X.env j) X.T 1 → ¬ D j) → a.defers = a0.defers
  dY : ∀ (j : Nat) (it : It) f, X.l[j]? = some it → it.c = .d f → gateN it.g (X.env j) X.T 1 → D j → ∃ d, a.defers = d :: a0.defers ∧ dR ι (X.vs j) d
end Rg

theorem nth_push (vs : Nat → V) : ∀ (m n : Nat), n < m → nth n (pushN .nilL vs m) = vs (m - 1 - n)
  | 0, n, h => absurd h (Nat.not_lt_zero _)
  | m + 1, 0, _ => rfl
  | m + 1, n + 1, h => by
    show nth n (pushN .nilL vs m) = _
    rw [nth_push vs m n (by omega)]; congr 1; omega
theorem drop_push (env : V) (vs : Nat → V) : ∀ (n m : Nat), n ≤ m → dropL n (pushN env vs m) = pushN env vs (m - n)
  | 0, m, _ => rfl
  | n + 1, 0, h => absurd h (by omega)
  | n + 1, m + 1, h => by
    show dropL n (pushN env vs m) = _
    rw [drop_push env vs n m (by omega)]; congr 1; omega
section
variable {X : Rg} {ι0 : Em} {h0 : HS} {w0 : World} {a0 : Act} {D : Nat → Prop} {ι : Em} {c0 c : Nat} {a : Act} {w : World}
theorem Rg.Inv.ref (K : X.Ok ι0 a0) (I : X.Inv ι0 h0 w0 a0 D ι c0 c a w) {j : Nat} (hj : ¬ D j) (hd : ∀ i, X.dep i j → D i) (hn : j < X.n) {t : Tmp} (ht : X.nm j t) : vr ι ((X.R j (.tmp t)).get (X.env j) X.T) (a.eval (.tmp t)) := by
  have hin : ∀ q, D q → X.dst q t → q < j := fun q hq hqt => by
    rcases Nat.lt_trichotomy q j with h | h | h
    · exact h
    · rw [h] at hq; exact absurd hq hj
    · exact absurd (I.cl j q ((K.names j t q ht hqt (by omega)).2 h) hq) hj
  rcases K.tmp j t hn with ⟨p, h1, h2, h3, h4⟩ | ⟨h1, h2⟩
  · rw [h4]
    exact I.last t p (hd p ((K.names j t p ht h2 (by omega)).1 h1)) h2 fun q hq hqt => h3 q (hin q hq hqt) hqt
  · rw [I.keep t fun p hp hpt => h1 p (hin p hp hpt) hpt]
    exact vr_mono I.E.sub h2
theorem Rg.Inv.rd (K : X.Ok ι0 a0) (I : X.Inv ι0 h0 w0 a0 D ι c0 c a w) {j : Nat} (hj : ¬ D j) (hd : ∀ i, X.dep i j → D i) (hn : j < X.n) {o : Oper} (ho : X.o j = some o) : Rd (X.R j) o ι (X.env j) X.T a := by
  intro x hx
  by_cases h : ∃ t, x = .tmp t
  · obtain ⟨t, rfl⟩ := h
    exact I.ref K hj hd hn ⟨o, ho, .inr (.inl hx)⟩
  · exact vr_mono I.E.sub (K.other j x a fun t e => h ⟨t, e⟩)
theorem gate_wanted {g : RefB} {want : Bool} {env : V} {T : Tr V} {ι : Em} {a : Act} {t : Tmp} {n : Nat} (hg : gateN (.mk g want) env T n) (hv : vr ι (g.get env T) (a.eval (.tmp t))) (hn : n < 2) :
    ((match a.tmps[t]? with | some (.bool b) => some b | _ => none) == some want) = (n == 1) := by
  unfold gateN gate at hg
  have hg : gateV (g.get env T) want 1 0 2 = n := hg
  generalize g.get env T = v at *
  cases v with
  | a t' x =>
    cases h1 : Nat.beq t' 1 with
    | false => simp [gateV, h1] at hg; omega
    | true =>
      have := beq_t h1; subst this
      have hb := boolR hv
      have ht : a.tmps[t]? = some (.bool (x != 0)) := by
        unfold Act.eval at hb
        cases hq : a.tmps[t]? with
        | none => simp [Array.getD_eq_getD_getElem?, hq, undef] at hb
        | some u => simp [Array.getD_eq_getD_getElem?, hq] at hb; rw [hb]
      rw [ht]
      cases x with
      | zero => cases want with
        | true => have hg : 0 = n := hg; subst hg; rfl
        | false => have hg : 1 = n := hg; subst hg; rfl
      | succ x => cases want with
        | true => have hg : 1 = n := hg; subst hg; simp
        | false => have hg : 0 = n := hg; subst hg; simp
  | b t' x l q =>
    cases h1 : Nat.beq t' 11 with
    | false => simp [gateV, h1] at hg; omega
    | true =>
      have := beq_t h1; subst this
      have hg : 0 = n := by simpa [gateV] using hg
      subst hg
      obtain ⟨cs, hu, _⟩ := (show ∃ cs, a.eval (.tmp t) = .tuple cs ∧ _ from hv)
      unfold Act.eval at hu
      cases hq : a.tmps[t]? with
      | none => rfl
      | some u =>
        simp [Array.getD_eq_getD_getElem?, hq] at hu
        rw [hu]; rfl
theorem Rg.Inv.wanted (K : X.Ok ι0 a0) (I : X.Inv ι0 h0 w0 a0 D ι c0 c a w) {j : Nat} (hj : ¬ D j) (hd : ∀ i, X.dep i j → D i) (hn : j < X.n) {o : Oper} (ho : X.o j = some o) {it : It} (hg : X.GdOk o j it.g) {m : Nat} (hm : gateN it.g (X.env j) X.T m) (h2 : m < 2) :
    Region.wanted o (yielded X.ops a.tmps) = (m == 1) := by
  unfold Rg.GdOk at hg
  unfold Region.wanted
  cases hgd : o.guard with
  | none =>
    rw [hgd] at hg
    have hg : it.g = .none := hg
    rw [hg] at hm
    have hm : 1 = m := hm
    subst hm; rfl
  | some gw =>
    obtain ⟨i, want⟩ := gw
    rw [hgd] at hg
    obtain ⟨t, ht, hgg⟩ := hg
    rw [hgg] at hm
    have hr := I.ref K hj hd hn (t := t) ⟨o, ho, .inr (.inr ⟨i, want, hgd, ht⟩)⟩
    have := gate_wanted hm hr h2
    simp only [yielded, ht, Option.bind_some]
    exact this
end
end Go.Ev

/- Regions: one operation more. -/
set_option autoImplicit false
namespace Go.Ev
open Go.RowKit

/-- objects that aren't told of yet -/
theorem HRel.less {ι : Em} {h h' : HS} {w : World} (H : HRel ι h w) (hn : h'.next = h.next) (hg : ∀ id, h'.get id = h.get id ∨ ((h'.get id).tag = 0 ∧ (h.get id).cur = 0)) : HRel ι h' w := by
  refine ⟨fun id ver m a b c => ?_, fun id m a c => ?_, H.inj, fun id a => ?_, fun id ver a => ?_, H.bound⟩
  · rcases hg id with e | ⟨e, _⟩
    · rw [e] at a b ⊢; exact H.cells id ver m a b c
    · rw [e] at a; cases a
  · rcases hg id with e | ⟨e, _⟩
    · rw [e] at a ⊢; exact H.maps id m a c
    · rw [e] at a; cases a
  · rw [hn] at a
    have := H.fresh id a
    rcases hg id with e | ⟨e, _⟩
    · rw [e]; exact this
    · exact ⟨e, this.2⟩
  · rcases hg id with e | ⟨_, e3⟩
    · rw [e] at a; exact H.top id ver a
    · exact H.top id ver (by rw [e3]; omega)
/-- objects without a block -/
theorem HRel.more {ι : Em} {h h' : HS} {w : World} (H : HRel ι h w) (hn : h'.next = h.next) (hg : ∀ id, h'.get id = h.get id ∨ ((∀ ver, ι id ver = none) ∧ id < h.next)) : HRel ι h' w := by
  have e : ∀ j ver m, ι j ver = some m → h'.get j = h.get j := fun j ver m c => by
    rcases hg j with e | ⟨e, _⟩
    · exact e
    · rw [e] at c; cases c
  refine ⟨fun j ver m a b c => ?_, fun j m a c => ?_, H.inj, fun j a => ?_, fun j ver a => ?_, H.bound⟩
  · rw [e j ver m c] at *; exact H.cells j ver m a b c
  · rw [e j 0 m c] at *; exact H.maps j m a c
  · rw [hn] at a
    rcases hg j with e | ⟨_, e⟩
    · rw [e]; exact H.fresh j a
    · omega
  · rcases hg j with e | ⟨e, _⟩
    · rw [e] at a; exact H.top j ver a
    · exact e ver
theorem Ext.more {ι0 ι : Em} {h0 h h' : HS} {w0 w : World} (E : Ext ι0 h0 w0 ι h w) (hn : h'.next = h.next) (hg : ∀ id, h'.get id = h.get id ∨ ((∀ ver, ι id ver = none) ∧ h0.next ≤ id)) : Ext ι0 h0 w0 ι h' w := by
  refine ⟨E.sub, E.os, E.tape, E.output, E.size, E.frame, ?_, E.dom, fun id a b => ?_, by rw [hn]; exact E.next⟩
  · rintro b ⟨j, m, a, c, rfl⟩ hb
    rcases hg j with e | ⟨e, _⟩
    · rw [e] at a c; exact E.wrs _ ⟨j, m, a, c, rfl⟩ hb
    · rw [e] at c; cases c
  · rcases hg id with e | ⟨_, e⟩
    · rw [e]; exact E.keep id a b
    · omega

section
variable {X : Rg} {ι0 : Em} {h0 : HS} {w0 : World} {a0 : Act} {D : Nat → Prop} {ι : Em} {c0 c : Nat} {a : Act} {w : World}
theorem gateN_uniq {g : Gd} {env : V} {T : Tr V} {m n : Nat} (h : gateN g env T m) (h' : gateN g env T n) : m = n := by unfold gateN at *; rw [← h, ← h']
theorem Rg.actM_uniq (K : X.Ok ι0 a0) {i j id : Nat} {ob ob' : Ob} (h : X.actM i id ob) (h' : X.actM j id ob') : i = j ∧ ob = ob' := by
  obtain ⟨it, f, h1, a1, a2, a3, a4, a5, a6⟩ := h
  obtain ⟨it', f', h1', b1, b2, b3, b4, b5, b6⟩ := h'
  have hij := K.offs i j it it' f f' a1 b1 a2 b2 (by omega)
  subst hij
  rw [a1] at b1; cases b1
  rw [a2] at b2; cases b2
  rw [← a4, ] at *
  rw [a5] at b5; cases b5
  exact ⟨rfl, by rw [a6, b6]⟩
/-- where nothing is done, only objects are made -/
theorem Rg.seg_step (K : X.Ok ι0 a0) {i : Nat} (hi : i < X.n) (hq : ¬ X.actE i) : X.hs (i + 1) = X.hs i ∧ (∀ id ob, ¬ X.actM i id ob) ∨ ∃ id ob, X.actM i id ob ∧ X.hs (i + 1) = (X.hs i).put id ob := by
  have hl : i < X.l.length := by rw [K.len]; exact hi
  have ht := K.trace i X.l[i] (List.getElem?_eq_getElem hl)
  have hget : X.l[i]? = some X.l[i] := List.getElem?_eq_getElem hl
  generalize X.l[i] = it at *
  rcases ht with ⟨g1, g2, g3⟩ | ⟨g1, g2⟩
  · refine .inl ⟨g3, fun id ob hm => ?_⟩
    obtain ⟨it', f, h1, a1, a2, a3, _⟩ := hm
    rw [hget] at a1; cases a1
    have := gateN_uniq g1 a3; cases this
  · have nm : ∀ cc, it.c = cc → (∀ f, cc ≠ .m f) → ∀ id ob, ¬ X.actM i id ob := fun cc e1 e2 id ob hm => by
      obtain ⟨it', f, h1, a1, a2, _⟩ := hm
      rw [hget] at a1; cases a1
      rw [e1] at a2; exact e2 f a2
    cases hc : it.c with
    | bad => rw [hc] at g2; exact g2.elim
    | p f => rw [hc] at g2; exact .inl ⟨g2.2, nm _ hc (fun f h => by cases h)⟩
    | r f => rw [hc] at g2; exact .inl ⟨g2.2, nm _ hc (fun f h => by cases h)⟩
    | d f => rw [hc] at g2; exact .inl ⟨g2.2, nm _ hc (fun f h => by cases h)⟩
    | m f =>
      rw [hc] at g2
      obtain ⟨h1, q1, q2⟩ := g2
      exact .inr ⟨_, _, ⟨it, f, h1, hget, hc, g1, rfl, q1, rfl⟩, q2⟩
    | e f => exact absurd ⟨it, f, hget, hc, g1⟩ hq
theorem Rg.seg (K : X.Ok ι0 a0) {s : Nat} : ∀ {i : Nat}, s ≤ i → i ≤ X.n → (∀ k, s ≤ k → k < i → ¬ X.actE k) →
    (X.hs i).next = (X.hs s).next ∧ (∀ id, (∀ k ob, s ≤ k → k < i → ¬ X.actM k id ob) → (X.hs i).get id = (X.hs s).get id) ∧ (∀ k id ob, s ≤ k → k < i → X.actM k id ob → (X.hs i).get id = ob) := by
  intro i hsi
  obtain ⟨d, rfl⟩ : ∃ d, i = s + d := ⟨i - s, by omega⟩
  clear hsi
  induction d with
  | zero => exact fun _ _ => ⟨rfl, fun _ _ => rfl, fun k id ob a b => by omega⟩
  | succ d ih =>
    have hsi : s ≤ s + d := Nat.le_add_right _ _
    generalize hgi : s + d = i at *
    rw [show s + (d + 1) = i + 1 from by omega]
    clear hgi
    intro hi hq
    obtain ⟨a1, a2, a3⟩ := ih (by omega) (fun k x y => hq k x (by omega))
    rcases Rg.seg_step K (by omega) (hq i hsi (by omega)) with ⟨e, hno⟩ | ⟨id0, ob0, hm, e⟩
    · rw [e]
      refine ⟨a1, fun id hid => a2 id fun k ob x y => hid k ob x (by omega), fun k id ob x y hm => ?_⟩
      by_cases hk : k = i
      · subst hk; exact absurd hm (hno id ob)
      · exact a3 k id ob x (by omega) hm
    · rw [e]
      refine ⟨a1, fun id hid => ?_, fun k id ob x y hm' => ?_⟩
      · have hne : id ≠ id0 := fun h => by subst h; exact hid i ob0 hsi (by omega) hm
        rw [HS.get_put, if_neg hne]
        exact a2 id fun k ob x y => hid k ob x (by omega)
      · rw [HS.get_put]
        by_cases hk : id = id0
        · subst hk
          obtain ⟨_, rfl⟩ := Rg.actM_uniq K hm' hm
          rw [if_pos rfl]
        · rw [if_neg hk]
          have : k ≠ i := fun h => by
            subst h
            obtain ⟨it, f, h1, b1, b2, b3, b4, _⟩ := hm
            obtain ⟨it', f', h1', c1, c2, c3, c4, _⟩ := hm'
            rw [b1] at c1; cases c1; exact hk (by omega)
          exact a3 k id ob x (by omega) hm'
theorem Rg.Inv.weak (K : X.Ok ι0 a0) (I : X.Inv ι0 h0 w0 a0 D ι c0 c a w) {i : Nat} (h1 : c0 ≤ i) (h2 : i ≤ c) : HRel ι (X.hs i) w := by
  have hle := I.le
  obtain ⟨a1, a2, a3⟩ := Rg.seg K (s := i) (i := c) h2 hle.2 (fun k x y => I.quiet k (by omega) y)
  obtain ⟨b1, b2, b3⟩ := Rg.seg K (s := c0) (i := i) h1 (by omega) (fun k x y => I.quiet k x (by omega))
  refine I.H.less a1.symm fun id => ?_
  by_cases hm : ∃ k ob, i ≤ k ∧ k < c ∧ X.actM k id ob
  · obtain ⟨k, ob, q1, q2, q3⟩ := hm
    have hob : ob.cur = 0 := by obtain ⟨_, _, _, _, _, _, _, _, rfl⟩ := q3; exact zc_cur _
    have hf := I.fut k id ob q3 (by omega)
    rw [b2 id fun k' ob' x y hm' => by have := (Rg.actM_uniq K hm' q3).1; omega, a3 k id ob q1 q2 q3]
    exact .inr ⟨hf, hob⟩
  · exact .inl (a2 id fun k ob x y hm' => hm ⟨k, ob, x, y, hm'⟩).symm

/-- what a put does to the slots -/
theorem Act.eval_put_tmp (a : Act) (d t : Tmp) (v : Value) : (a.put (some d) v).eval (.tmp t) = if t = d ∧ d < a.tmps.size then v else a.eval (.tmp t) := by
  simp only [Act.eval, Act.put, Array.getD_eq_getD_getElem?, Array.getElem?_setIfInBounds]
  by_cases h : d = t
  · subst h
    by_cases h2 : d < a.tmps.size <;> simp [h2]
  · rw [if_neg h, if_neg (fun e => h e.1.symm)]
theorem Rg.Inv.adv (K : X.Ok ι0 a0) (I : X.Inv ι0 h0 w0 a0 D ι c0 c a w) {j : Nat} (hj : ¬ D j) (hd : ∀ i, X.dep i j → D i) (hn : j < X.n) {o : Oper} (ho : X.o j = some o)
    {ι' : Em} {c0' c' : Nat} {a' : Act} {w' : World} {u : Value} (hs : Sub ι ι') (H' : HRel ι' (X.hs c') w') (E' : Ext ι0 h0 w0 ι' (X.hs c') w') (hu : o.dst ≠ none → vr ι' (X.vs j) u) (ht : a'.tmps = (a.put o.dst u).tmps)
    (le : c0' ≤ c' ∧ c' ≤ X.n) (quiet : ∀ i, c0' ≤ i → i < c' → ¬ X.actE i) (at_ : c' = X.n ∨ X.actE c') (from_ : c0' = 0 ∨ ∃ e, c0' = e + 1 ∧ X.actE e)
    (done : ∀ e, e < c' → X.actE e → D e ∨ e = j) (inn : ∀ i, D i ∨ i = j → i < c')
    (mN : ∀ k id ob, X.actM k id ob → ¬ D k → k ≠ j → ∀ ver, ι' id ver = none)
    (late : ∀ k id ob, X.actM k id ob → ¬ D k → k ≠ j → k < c' → (X.hs c').get id = ob)
    (fut : ∀ k id ob, X.actM k id ob → c0' ≤ k → ((X.hs c0').get id).tag = 0)
    (room : ∀ k id ob, X.actM k id ob → h0.next ≤ id ∧ id < (X.hs c0').next)
    (hdN : (∀ (it : It) f, X.l[j]? = some it → it.c = .d f → ¬ gateN it.g (X.env j) X.T 1) → a'.defers = a.defers)
    (hdY : ∀ (it : It) f, X.l[j]? = some it → it.c = .d f → gateN it.g (X.env j) X.T 1 → ∃ d, a'.defers = d :: a.defers ∧ dR ι' (X.vs j) d) :
    X.Inv ι0 h0 w0 a0 (fun i => D i ∨ i = j) ι' c0' c' a' w' := by
  have hev : ∀ x, a'.eval x = (a.put o.dst u).eval x := fun x => by cases x <;> simp [Act.eval, ht]
  have hin : ∀ t q, X.nm j t → D q → X.dst q t → q < j := fun t q hnm hq hqt => by
    rcases Nat.lt_trichotomy q j with h | h | h
    · exact h
    · rw [h] at hq; exact absurd hq hj
    · exact absurd (I.cl j q ((K.names j t q hnm hqt (by omega)).2 h) hq) hj
  have oth : ∀ t, ¬ X.dst j t → a'.eval (.tmp t) = a.eval (.tmp t) := fun t h => by
    rw [hev]
    cases hdd : o.dst with
    | none => rfl
    | some d =>
      rw [Act.eval_put_tmp, if_neg]
      rintro ⟨rfl, _⟩
      exact h ⟨o, ho, hdd⟩
  have self : ∀ t, X.dst j t → a'.eval (.tmp t) = u := fun t h => by
    obtain ⟨o', ho', hdd⟩ := h
    rw [ho] at ho'; cases ho'
    rw [hev, hdd, Act.eval_put_tmp, if_pos ⟨rfl, by rw [I.size]; exact K.dstN j t ⟨o, ho, hdd⟩⟩]
  refine ⟨H', E', ?_, ?_, ?_, le, quiet, at_, from_, done, inn, ?_, ?_, ?_, fut, room, ?_, ?_⟩
  · rw [ht]
    cases hdd : o.dst with
    | none => exact I.size
    | some d => simp [Act.put, I.size]
  · intro t p hp hpt hmax
    by_cases hjt : X.dst j t
    · have hnm : X.nm j t := by obtain ⟨o', ho', hdd⟩ := hjt; exact ⟨o', ho', .inl hdd⟩
      have : p = j := by
        rcases hp with hp | hp
        · have h1 := hin t p hnm hp hpt
          have h2 := hmax j (.inr rfl) hjt
          omega
        · exact hp
      subst this
      rw [self t hjt]
      obtain ⟨o', ho', hdd⟩ := hjt
      rw [ho] at ho'; cases ho'
      exact hu (by rw [hdd]; simp)
    · have hpj : D p := by
        rcases hp with hp | hp
        · exact hp
        · subst hp; exact absurd hpt hjt
      rw [oth t hjt]
      exact vr_mono hs (I.last t p hpj hpt fun q hq hqt => hmax q (.inl hq) hqt)
  · intro t hno
    rw [oth t (hno j (.inr rfl))]
    exact I.keep t fun p hp => hno p (.inl hp)
  · intro i k hik hk
    rcases hk with hk | hk
    · exact .inl (I.cl i k hik hk)
    · subst hk; exact .inl (hd i hik)
  · intro k id ob hm hk; exact mN k id ob hm (fun h => hk (.inl h)) (fun h => hk (.inr h))
  · intro k id ob hm hk; exact late k id ob hm (fun h => hk (.inl h)) (fun h => hk (.inr h))
  · intro hno
    rw [hdN fun it f h1 h2 h3 => hno j it f h1 h2 h3 (.inr rfl)]
    exact I.dN fun k it f h1 h2 h3 hk => hno k it f h1 h2 h3 (.inl hk)
  · intro k it f h1 h2 h3 hk
    rcases hk with hk | hk
    · obtain ⟨d, q1, q2, l', q3⟩ := I.dY k it f h1 h2 h3 hk
      refine ⟨d, ?_, q2, l', ?_⟩
      · rw [hdN fun it' f' g1 g2 g3 => ?_]
        · exact q1
        · have := K.oned k j it it' f f' h1 g1 h2 g2
          subst this; exact hj hk
      · obtain ⟨caps, e1, e2, e3⟩ := q3
        exact ⟨caps, e1, e2, lr_mono hs e3⟩
    · subst hk
      obtain ⟨d, q1, q2⟩ := hdY it f h1 h2 h3
      have := I.dN fun k' it' f' g1 g2 g3 hk' => by
        have := K.oned k' k it' it f' f g1 h1 g2 h2
        subst this; exact hj hk'
      exact ⟨d, by rw [q1, this], q2⟩
end
end Go.Ev

/- Regions: the step, in all orders. -/
set_option autoImplicit false
namespace Go.Ev
open Go.RowKit

theorem dR_mono {ι ι' : Em} (hs : Sub ι ι') {v : V} {d : Deferred} (h : dR ι v d) : dR ι' v d := by
  obtain ⟨f, l, caps, e1, e2, e3⟩ := h; exact ⟨f, l, caps, e1, e2, lr_mono hs e3⟩
section
variable {X : Rg} {ι0 : Em} {h0 : HS} {w0 : World} {a0 : Act} {D : Nat → Prop} {ι : Em} {c0 c : Nat} {a : Act} {w : World}
theorem Rg.next_eff (X : Rg) : ∀ (d k : Nat), k + d = X.n → ∃ c', k ≤ c' ∧ c' ≤ X.n ∧ (∀ i, k ≤ i → i < c' → ¬ X.actE i) ∧ (c' = X.n ∨ X.actE c')
  | 0, k, h => ⟨k, Nat.le_refl _, by omega, fun i _ _ => by omega, .inl (by omega)⟩
  | d + 1, k, h => by
    by_cases hk : X.actE k
    · exact ⟨k, Nat.le_refl _, by omega, fun i _ _ => by omega, .inr hk⟩
    · obtain ⟨c', h1, h2, h3, h4⟩ := Rg.next_eff X d (k + 1) (by omega)
      refine ⟨c', by omega, h2, fun i a b => ?_, h4⟩
      by_cases hik : i = k
      · rw [hik]; exact hk
      · exact h3 i (by omega) b
/-- where the operation changes no memory but for a new object -/
theorem Rg.Inv.quietly (K : X.Ok ι0 a0) (I : X.Inv ι0 h0 w0 a0 D ι c0 c a w) {j : Nat} (hj : ¬ D j) (hd : ∀ i, X.dep i j → D i) (hn : j < X.n) {o : Oper} (ho : X.o j = some o) (hjc : j < c) (hne : ¬ X.actE j)
    {ι' : Em} {a' : Act} {w' : World} {u : Value} (hs : Sub ι ι') (H' : HRel ι' (X.hs c) w') (E' : Ext ι0 h0 w0 ι' (X.hs c) w') (hu : o.dst ≠ none → vr ι' (X.vs j) u) (ht : a'.tmps = (a.put o.dst u).tmps)
    (mN : ∀ k id ob, X.actM k id ob → ¬ D k → k ≠ j → ∀ ver, ι' id ver = none)
    (hdN : (∀ (it : It) f, X.l[j]? = some it → it.c = .d f → ¬ gateN it.g (X.env j) X.T 1) → a'.defers = a.defers)
    (hdY : ∀ (it : It) f, X.l[j]? = some it → it.c = .d f → gateN it.g (X.env j) X.T 1 → ∃ d, a'.defers = d :: a.defers ∧ dR ι' (X.vs j) d) :
    X.Inv ι0 h0 w0 a0 (fun i => D i ∨ i = j) ι' c0 c a' w' :=
  I.adv K hj hd hn ho hs H' E' hu ht I.le I.quiet I.at_ I.from_ (fun e he hae => .inl (I.done e he hae)) (fun i hi => hi.elim (I.inn i) (fun h => by omega)) mN
    (fun k id ob hm hk _ hkc => I.late k id ob hm hk hkc) I.fut I.room hdN hdY
theorem put_defers (a : Act) (d : Option Tmp) (v : Value) : (a.put d v).defers = a.defers := by cases d <;> rfl
/-- ONE OPERATION MORE -/
theorem Rg.Inv.step (K : X.Ok ι0 a0) (I : X.Inv ι0 h0 w0 a0 D ι c0 c a w) {j i : Nat} (hj : ¬ D j) (hd : ∀ i, X.dep i j → D i) (hn : j < X.n) (hix : X.ix[j]? = some i) {Kn : Act → World → Prop} {Q : Exit → Act → World → Prop}
    (hk : ∀ ι' c0' c' a' w', X.Inv ι0 h0 w0 a0 (fun i => D i ∨ i = j) ι' c0' c' a' w' → Kn a' w') : wpOp X.P X.ops Q i Kn a w := by
  have hl : j < X.l.length := by rw [K.len]; exact hn
  have hget : X.l[j]? = some X.l[j] := List.getElem?_eq_getElem hl
  have htr := K.trace j X.l[j] hget
  obtain ⟨o, ho, hsp, hgd⟩ := K.item j X.l[j] hget
  generalize X.l[j] = it at *
  have hop : X.ops[i]? = some o := by simpa [Rg.o, hix] using ho
  have hjc : j < c ∨ (j = c ∧ X.actE c) := by
    have hle := I.le
    rcases Nat.lt_trichotomy j c with h | h | h
    · exact .inl h
    · exact .inr ⟨h, I.at_.resolve_left (by omega)⟩
    · obtain ⟨it', f', b1, b2, b3⟩ := I.at_.resolve_left (by omega)
      have := I.inn c (hd c (K.eff c j it' f' b1 b2 h hn))
      omega
  have hrd := I.rd K hj hd hn ho
  unfold wpOp
  rw [hop]
  rcases htr with ⟨g1, g2, g3⟩ | ⟨g1, g2⟩
  · -- skipped
    have hw := I.wanted K hj hd hn ho hgd g1 (by omega)
    simp only [hw]
    have hne : ¬ X.actE j := fun ⟨it', f', b1, b2, b3⟩ => by rw [hget] at b1; cases b1; have := gateN_uniq g1 b3; cases this
    have hjlt : j < c := hjc.resolve_right fun h => hne (h.1 ▸ h.2)
    refine hk ι c0 c _ w (I.quietly K hj hd hn ho hjlt hne (Sub.refl _) I.H I.E (u := undef) (fun _ => by rw [g2]; exact vr_undef) rfl (fun k id ob hm hk _ => I.mN k id ob hm hk) (fun _ => put_defers _ _ _) (fun it' f' b1 b2 b3 => ?_))
    rw [hget] at b1; cases b1; have := gateN_uniq g1 b3; cases this
  · have hw := I.wanted K hj hd hn ho hgd g1 (by omega)
    simp only [hw]
    have hnd : ∀ cc, it.c = cc → (∀ f, cc ≠ .d f) → ∀ (it' : It) f, X.l[j]? = some it' → it'.c = .d f → ¬ gateN it'.g (X.env j) X.T 1 := fun cc e1 e2 it' f b1 b2 _ => by
      rw [hget] at b1; cases b1; rw [e1] at b2; exact e2 f b2
    have hnE : ∀ cc, it.c = cc → (∀ f, cc ≠ .e f) → ¬ X.actE j := fun cc e1 e2 ⟨it', f', b1, b2, b3⟩ => by
      rw [hget] at b1; cases b1; rw [e1] at b2; exact e2 f' b2
    refine .inl ?_
    have value : ∀ u, (execOp a.eval o).run X.P w = .ok (.value u) w → vr ι (X.vs j) u → j < c → ¬ X.actE j → (∀ (it' : It) f, X.l[j]? = some it' → it'.c = .d f → ¬ gateN it'.g (X.env j) X.T 1) → o.wp X.P a w Kn Q := fun u hr hu hjlt hne hdd => by
      unfold Oper.wp; rw [hr]
      exact hk ι c0 c _ w (I.quietly K hj hd hn ho hjlt hne (Sub.refl _) I.H I.E (fun _ => hu) rfl (fun k id ob hm hk _ => I.mN k id ob hm hk) (fun _ => put_defers _ _ _) (fun it' f' b1 b2 b3 => absurd b3 (hdd it' f' b1 b2)))
    cases hc : it.c with
    | bad => rw [hc] at g2; exact g2.elim
    | p f =>
      rw [hc] at g2 hsp
      obtain ⟨⟨h1, q1⟩, _⟩ := g2
      have hne := hnE _ hc (fun f h => by cases h)
      obtain ⟨_, u, r1, r2⟩ := hsp (X.env j) X.T (X.hs j) (X.vs j) h1 ι w a q1 hrd
      exact value u r1 r2 (hjc.resolve_right fun h => hne (h.1 ▸ h.2)) hne (hnd _ hc (fun f h => by cases h))
    | r f =>
      rw [hc] at g2 hsp
      obtain ⟨⟨h1, q1⟩, _⟩ := g2
      have hne := hnE _ hc (fun f h => by cases h)
      have hjlt := hjc.resolve_right fun h => hne (h.1 ▸ h.2)
      have hr : ∃ u, (execOp a.eval o).run X.P w = .ok (.value u) w ∧ vr ι (X.vs j) u := by
        by_cases h2 : c0 ≤ j
        · exact (hsp (X.env j) X.T (X.hs j) (X.vs j) h1 ι w a q1 (I.weak K h2 (by omega)) hrd).2
        · rcases I.from_ with h3 | ⟨e, h3, it', f', b1, b2, b3⟩
          · omega
          · have hje : j ≠ e := fun h => by subst h; rw [hget] at b1; cases b1; rw [hc] at b2; cases b2
            have hle := I.le
            have hDe : D e := I.done e (by omega) ⟨it', f', b1, b2, b3⟩
            have hck := K.cks e j it' f' it f b1 b2 hget hc (by omega) (fun h => hj (I.cl j e h hDe))
            rcases K.trace e it' b1 with ⟨z1, _⟩ | ⟨z1, z2⟩
            · have := gateN_uniq z1 b3; cases this
            · rw [b2] at z2
              have hz := z2.2 _ hck
              have hdrop : dropL (Nat.succ (e - j)) (.cons (X.vs e) (X.env e)) = X.env j := by
                show dropL (e - j + 1) (pushN .nilL X.vs (e + 1)) = _
                rw [drop_push _ _ _ _ (by omega)]
                unfold Rg.env; congr 1; omega
              have hnth : nth (e - j) (.cons (X.vs e) (X.env e)) = X.vs j := by
                show nth (e - j) (pushN .nilL X.vs (e + 1)) = _
                rw [nth_push _ _ _ (by omega)]; congr 1; omega
              simp only [CkOk] at hz
              rw [hdrop, hnth] at hz
              rcases hz with hz | ⟨_, h1', hz⟩
              · have := gateN_uniq hz g1; cases this
              · rw [← h3] at hz
                exact (hsp (X.env j) X.T (X.hs c0) (X.vs j) h1' ι w a hz (I.weak K (Nat.le_refl _) I.le.1) hrd).2
      obtain ⟨u, r1, r2⟩ := hr
      exact value u r1 r2 hjlt hne (hnd _ hc (fun f h => by cases h))
    | d f =>
      rw [hc] at g2 hsp
      obtain ⟨⟨h1, q1⟩, _⟩ := g2
      have hne := hnE _ hc (fun f h => by cases h)
      have hjlt := hjc.resolve_right fun h => hne (h.1 ▸ h.2)
      obtain ⟨_, d, r1, r2⟩ := hsp (X.env j) X.T (X.hs j) (X.vs j) h1 ι w a q1 hrd
      unfold Oper.wp; rw [r1]
      refine hk ι c0 c _ w (I.quietly K hj hd hn ho hjlt hne (Sub.refl _) I.H I.E (u := undef) (fun hne => absurd (K.ddst j it f o hget hc ho) hne) ?_ (fun k id ob hm hk _ => I.mN k id ob hm hk) (fun hno => absurd g1 (hno it f hget hc)) (fun it' f' b1 b2 b3 => ⟨d, by rw [put_defers], r2⟩))
      cases o.dst <;> rfl
    | m f =>
      rw [hc] at g2 hsp
      obtain ⟨h1, q1, q2⟩ := g2
      have hne := hnE _ hc (fun f h => by cases h)
      have hjlt := hjc.resolve_right fun h => hne (h.1 ▸ h.2)
      have hm : X.actM j (X.base + it.off) (zc (h1.get 0)) := ⟨it, f, h1, hget, hc, g1, rfl, q1, rfl⟩
      have hnone := I.mN j _ _ hm hj
      obtain ⟨u, x, m, r1, r2, r3, r4, r5, r6⟩ := hsp (X.base + it.off) (X.env j) X.T (X.vs j) h1 ι w a q1 hrd hnone
      have hlate := I.late j _ _ hm hj hjlt
      rw [zc_eq r3] at hlate
      have hroom := I.room j _ _ hm
      have hnext : (X.hs c).next = (X.hs c0).next := (Rg.seg K I.le.1 I.le.2 (fun k x y => I.quiet k x y)).1
      obtain ⟨p1, p2⟩ := I.H.point (ob := x) (m := m) hnone (by rw [hnext]; exact hroom.2) (by rw [hlate]; exact r3) r2 (fun h => by rw [hlate] at h ⊢; exact r4 h) (fun h => by rw [hlate] at h ⊢; exact r5 h)
      unfold Oper.wp; rw [r1]
      refine hk _ c0 c _ _ (I.quietly K hj hd hn ho hjlt hne (Em.sub_add _ (hnone 0)) p1 (p2 _ _ _ I.E hroom.1) (fun _ => r6) rfl (fun k id ob hm' hk hkj ver => ?_) (fun _ => put_defers _ _ _) (fun it' f' b1 b2 b3 => absurd b3 (hnd _ hc (fun f h => by cases h) it' f' b1 b2)))
      rw [Em.add_other]
      · exact I.mN k id ob hm' hk ver
      · rintro ⟨h, _⟩
        subst h
        exact hkj (Rg.actM_uniq K hm' hm).1
    | e f =>
      rw [hc] at g2 hsp
      have hE : X.actE j := ⟨it, f, hget, hc, g1⟩
      have hjc' : j = c := by
        rcases hjc with h | h
        · exact absurd (I.done j h hE) hj
        · exact h.1
      subst hjc'
      obtain ⟨gzz, hcez, hGz⟩ := K.ceok
      refine hsp gzz X.ce hcez (X.env j) X.T (X.hs j) (X.vs j) (X.hs (j + 1)) ι w a g2.1 I.H (hGz.mono I.E.sub) hrd Kn Q fun u w' ι' H' E' hu => ?_
      obtain ⟨c', d1, d2, d3, d4⟩ := Rg.next_eff X (X.n - (j + 1)) (j + 1) (by omega)
      obtain ⟨s1, s2, s3⟩ := Rg.seg K d1 d2 d3
      have hnext : (X.hs j).next = (X.hs c0).next := (Rg.seg K I.le.1 I.le.2 (fun k x y => I.quiet k x y)).1
      have noM : ∀ id ob, ¬ X.actM j id ob := fun id ob ⟨it', f', h1, b1, b2, _⟩ => by rw [hget] at b1; cases b1; rw [hc] at b2; cases b2
      have hmN : ∀ k id ob, X.actM k id ob → ¬ D k → ∀ ver, ι' id ver = none := fun k id ob hm hkk => E'.dom id (by rw [hnext]; exact (I.room k id ob hm).2) (I.mN k id ob hm hkk)
      have hinn : ∀ k id ob, X.actM k id ob → j + 1 ≤ k → ¬ D k := fun k id ob _ hkj hkD => by have := I.inn k hkD; omega
      have hmore : ∀ id, (X.hs c').get id = (X.hs (j + 1)).get id ∨ ((∀ ver, ι' id ver = none) ∧ id < (X.hs (j + 1)).next ∧ h0.next ≤ id) := fun id => by
        by_cases hm : ∃ k ob, j + 1 ≤ k ∧ k < c' ∧ X.actM k id ob
        · obtain ⟨k, ob, z1, z2, z3⟩ := hm
          have hr := I.room k id ob z3
          have := E'.next
          exact .inr ⟨hmN k id ob z3 (hinn k id ob z3 z1), by omega, hr.1⟩
        · exact .inl (s2 id fun k ob x y hm' => hm ⟨k, ob, x, y, hm'⟩)
      have H2 : HRel ι' (X.hs c') w' := H'.more s1 fun id => (hmore id).imp (fun h => h) (fun h => ⟨h.1, h.2.1⟩)
      have E2 : Ext ι0 h0 w0 ι' (X.hs c') w' := (I.E.trans E').more s1 fun id => (hmore id).imp (fun h => h) (fun h => ⟨h.1, h.2.2⟩)
      refine hk ι' (j + 1) c' _ w' (I.adv K hj hd hn ho E'.sub H2 E2 (fun _ => hu) rfl ⟨d1, d2⟩ d3 d4 (.inr ⟨j, rfl, hE⟩) (fun e he hae => ?_) (fun i hi => ?_) (fun k id ob hm hkk _ => hmN k id ob hm hkk) (fun k id ob hm hkk hkj hkc => ?_) (fun k id ob hm hkj => ?_) (fun k id ob hm => ?_)
        (fun _ => put_defers _ _ _) (fun it' f' b1 b2 b3 => absurd b3 (hnd _ hc (fun f h => by cases h) it' f' b1 b2)))
      · rcases Nat.lt_trichotomy e j with h | h | h
        · exact .inl (I.done e h hae)
        · exact .inr h
        · exact absurd hae (d3 e (by omega) he)
      · rcases hi with hi | hi
        · have := I.inn i hi; omega
        · omega
      · rcases Nat.lt_trichotomy k j with h | h | h
        · have hkeep := E'.keep id (by rw [hnext]; exact (I.room k id ob hm).2) (.inr (I.mN k id ob hm hkk))
          rw [s2 id fun k' ob' x y hm' => by have := (Rg.actM_uniq K hm' hm).1; omega, hkeep]
          exact I.late k id ob hm hkk h
        · exact absurd h hkj
        · exact s3 k id ob (by omega) hkc hm
      · have hf := I.fut k id ob hm (by have := I.le; omega)
        have hsame : (X.hs j).get id = (X.hs c0).get id := (Rg.seg K I.le.1 I.le.2 (fun k x y => I.quiet k x y)).2.1 id fun k' ob' x y hm' => by have := (Rg.actM_uniq K hm' hm).1; omega
        have hkeep := E'.keep id (by rw [hnext]; exact (I.room k id ob hm).2) (.inl (by rw [hsame]; exact hf))
        rw [hkeep, hsame]; exact hf
      · have hr := I.room k id ob hm
        have := E'.next
        exact ⟨hr.1, by omega⟩
end
end Go.Ev

/- Regions: all orders. -/
set_option autoImplicit false
namespace Go.Ev
open Go.RowKit

section
variable {X : Rg} {ι0 : Em} {h0 : HS} {w0 : World} {a0 : Act}
/-- what holds when all is done -/
def Rg.Full (X : Rg) (ι0 : Em) (h0 : HS) (w0 : World) (a0 : Act) (a : Act) (w : World) : Prop := ∃ D ι c0 c, (∀ j, j < X.n → D j) ∧ X.Inv ι0 h0 w0 a0 D ι c0 c a w
theorem Rg.inorder (K : X.Ok ι0 a0) (hix : X.ix = List.range X.ops.size) (hdep : ∀ i j, X.dep i j → i < j) {Q : Exit → Act → World → Prop} (hQ : ∀ a w, X.Full ι0 h0 w0 a0 a w → Q .normal a w) :
    ∀ (m s : Nat) (D : Nat → Prop) (ι : Em) (c0 c : Nat) (a : Act) (w : World), s + m = X.n → (∀ i, D i ↔ i < s) → X.Inv ι0 h0 w0 a0 D ι c0 c a w → wpOps X.P X.ops Q (List.range' s m) a w := by
  have hn : X.n = X.ops.size := by unfold Rg.n; rw [hix]; simp
  intro m
  induction m with
  | zero => intro s D ι c0 c a w hs hD I; exact hQ a w ⟨D, ι, c0, c, fun j hj => (hD j).2 (by omega), I⟩
  | succ m ih =>
    intro s D ι c0 c a w hs hD I
    rw [List.range'_succ, wpOps_cons]
    refine I.step K (j := s) (fun h => by have := (hD s).1 h; omega) (fun i hi => (hD i).2 (hdep i s hi)) (by omega) (by rw [hix, List.getElem?_range (by omega)]) fun ι' c0' c' a' w' I' => ?_
    exact ih (s + 1) _ ι' c0' c' a' w' (by omega) (fun i => by
      constructor
      · rintro (h | h)
        · have := (hD i).1 h; omega
        · omega
      · intro h
        by_cases hi : i = s
        · exact .inr hi
        · exact .inl ((hD i).2 (by omega))) I'
theorem Rg.region (K : X.Ok ι0 a0) (hix : X.ix = List.range X.ops.size) (hdep : ∀ i j, X.dep i j → i < j) {Q : Exit → Act → World → Prop} (hQ : ∀ a w, X.Full ι0 h0 w0 a0 a w → Q .normal a w)
    {ι : Em} {c0 c : Nat} {a : Act} {w : World} (I : X.Inv ι0 h0 w0 a0 (fun _ => False) ι c0 c a w) (id : Nat) : (Code.region id X.ops false).wp X.P Q a w := by
  refine wp_region ?_
  rw [List.range_eq_range']
  have hn : X.n = X.ops.size := by unfold Rg.n; rw [hix]; simp
  exact Rg.inorder K hix hdep hQ X.ops.size 0 _ ι c0 c a w (by omega) (fun i => by simp) I

/-- how many operations aren't listed -/
def unlisted (listed : Array Bool) (n : Nat) : Nat := ((List.range n).filter fun i => !listed.getD i true).length
theorem getD_set (listed : Array Bool) (i j : Nat) : (listed.setIfInBounds i true).getD j true = (listed.getD j true || (j == i)) := by
  by_cases h : j = i
  · subst h
    by_cases h2 : j < listed.size <;> simp [Array.getD_eq_getD_getElem?, Array.getElem?_setIfInBounds, h2]
  · rw [getD_set_ne true (fun e => h e.symm)]; simp [h]
theorem unlisted_set {listed : Array Bool} {n i : Nat} (hi : i < n) (hl : listed.getD i true = false) : unlisted (listed.setIfInBounds i true) n + 1 = unlisted listed n := by
  unfold unlisted
  have h1 : (List.range n).filter (fun j => !(listed.setIfInBounds i true).getD j true) = ((List.range n).filter fun j => !listed.getD j true).erase i := by
    rw [List.Nodup.erase_eq_filter (List.Pairwise.filter _ List.nodup_range), List.filter_filter]
    refine List.filter_congr fun j _ => ?_
    rw [getD_set]
    have hbb : (j != i) = !(j == i) := rfl
    cases listed.getD j true <;> cases hji : (j == i) <;> simp [hbb, hji]
  rw [h1, List.length_erase_of_mem (List.mem_filter.2 ⟨List.mem_range.2 hi, by rw [hl]; rfl⟩)]
  have : 0 < ((List.range n).filter fun j => !listed.getD j true).length := List.length_pos_of_mem (List.mem_filter.2 ⟨List.mem_range.2 hi, by rw [hl]; rfl⟩)
  omega
theorem unlisted_zero {listed : Array Bool} {n i : Nat} (h : unlisted listed n = 0) (hi : i < n) : listed.getD i true = true := by
  unfold unlisted at h
  have := List.length_eq_zero_iff.1 h
  cases hl : listed.getD i true with
  | true => rfl
  | false =>
    have hm : i ∈ (List.range n).filter fun i => !listed.getD i true := List.mem_filter.2 ⟨List.mem_range.2 hi, by rw [hl]; rfl⟩
    rw [this] at hm; cases hm
/-- what is asked of a region's order -/
structure Rg.Ord (X : Rg) : Prop where
  all : ∀ i, i < X.ops.size → ∃ j, j < X.n ∧ X.ix[j]? = some i
  rng : ∀ (j i : Nat), X.ix[j]? = some i → i < X.ops.size
  inj : ∀ (j j' i : Nat), X.ix[j]? = some i → X.ix[j']? = some i → j = j'
  down : ∀ (i : Nat) o e, X.ops[i]? = some o → e ∈ o.after → Region.binds .any e = true → e.on < i
  dep : ∀ (i j : Nat), X.dep i j → ∃ o e, ∃ q : Nat, X.o j = some o ∧ e ∈ o.after ∧ Region.binds .any e = true ∧ X.ix[q]? = some e.on ∧ (i = q ∨ X.dep i q)
theorem Rg.anyorder (K : X.Ok ι0 a0) (O : X.Ord) {Q : Exit → Act → World → Prop} (hQ : ∀ a w, X.Full ι0 h0 w0 a0 a w → Q .normal a w) :
    ∀ (fuel : Nat) (listed : Array Bool) (D : Nat → Prop) (ι : Em) (c0 c : Nat) (a : Act) (w : World), unlisted listed X.ops.size = fuel → listed.size = X.ops.size → (∀ (j i : Nat), X.ix[j]? = some i → (D j ↔ listed.getD i true = true)) →
      X.Inv ι0 h0 w0 a0 D ι c0 c a w → wpAny X.P .any X.ops Q fuel listed a w := by
  have fin : ∀ (listed : Array Bool) (D : Nat → Prop) (ι : Em) (c0 c : Nat) (a : Act) (w : World), (∀ (j i : Nat), X.ix[j]? = some i → (D j ↔ listed.getD i true = true)) → (∀ i, i < X.ops.size → listed.getD i true = true) → X.Inv ι0 h0 w0 a0 D ι c0 c a w → Q .normal a w := by
    intro listed D ι c0 c a w hD hall I
    refine hQ a w ⟨D, ι, c0, c, fun j hj => ?_, I⟩
    have hx : X.ix[j]? = some X.ix[j] := List.getElem?_eq_getElem hj
    exact (hD j _ hx).2 (hall _ (O.rng j _ hx))
  intro fuel
  induction fuel with
  | zero =>
    intro listed D ι c0 c a w hu hsz hD I
    have hall : ∀ i, i < X.ops.size → listed.getD i true = true := fun i hi => unlisted_zero hu hi
    refine ⟨?_, fin listed D ι c0 c a w hD hall I⟩
    refine List.eq_nil_iff_forall_not_mem.2 fun i hi => ?_
    obtain ⟨h1, o, h2, _⟩ := mem_ready.1 hi
    rw [hall i (Array.getElem?_eq_some_iff.1 h2).1] at h1; cases h1
  | succ fuel ih =>
    intro listed D ι c0 c a w hu hsz hD I
    refine ⟨fun hnil => ?_, fun i hi => ?_⟩
    · -- nothing is ready: all is listed
      refine fin listed D ι c0 c a w hD (fun i => ?_) I
      induction i using Nat.strongRecOn with
      | _ i ihi =>
        intro hi
        cases hl : listed.getD i true with
        | true => rfl
        | false =>
          have : i ∈ Region.ready .any X.ops listed := by
            refine mem_ready.2 ⟨hl, X.ops[i], Array.getElem?_eq_getElem hi, fun e he hb => ?_⟩
            have hlt := O.down i _ e (Array.getElem?_eq_getElem hi) he hb
            have h1 := ihi e.on hlt (by omega)
            have h2 : e.on < listed.size := by omega
            simpa [Array.getD_eq_getD_getElem?, h2] using h1
          rw [hnil] at this; cases this
    · obtain ⟨h1, o, h2, h3⟩ := mem_ready.1 hi
      have hi' : i < X.ops.size := (Array.getElem?_eq_some_iff.1 h2).1
      obtain ⟨j, hj, hx⟩ := O.all i hi'
      have hoj : X.o j = some o := by unfold Rg.o; rw [hx]; exact h2
      refine I.step K (j := j) (fun h => by have := (hD j i hx).1 h; rw [h1] at this; cases this) (fun k hk => ?_) hj hx fun ι' c0' c' a' w' I' => ?_
      · obtain ⟨o', e, q, q1, q2, q3, q4, q5⟩ := O.dep k j hk
        rw [hoj] at q1; cases q1
        have hle : listed.getD e.on true = true := by
          have := h3 e q2 q3
          cases hq : listed[e.on]? with
          | none => simp [Array.getD_eq_getD_getElem?, hq] at this
          | some b => simp [Array.getD_eq_getD_getElem?, hq] at this ⊢; exact this
        have hq := (hD q _ q4).2 hle
        rcases q5 with rfl | q5
        · exact hq
        · exact I.cl k q q5 hq
      · refine ih _ _ ι' c0' c' a' w' (by have := unlisted_set hi' h1; omega) (by simpa using hsz) (fun j' i' hx' => ?_) I'
        rw [getD_set]
        constructor
        · rintro (h | h)
          · rw [(hD j' i' hx').1 h]; rfl
          · subst h; rw [hx] at hx'; cases hx'; simp
        · intro h
          rcases Bool.or_eq_true _ _ ▸ h with h | h
          · exact .inl ((hD j' i' hx').2 h)
          · have := beq_iff_eq.1 h; subst this
            exact .inr (O.inj j' j i' hx' hx)
theorem Rg.region_draw (K : X.Ok ι0 a0) (O : X.Ord) (hm : X.P.follows .mixedOrders = true) {Q : Exit → Act → World → Prop} (hQ : ∀ a w, X.Full ι0 h0 w0 a0 a w → Q .normal a w)
    {ι : Em} {c0 c : Nat} {a : Act} {w : World} (I : X.Inv ι0 h0 w0 a0 (fun _ => False) ι c0 c a (drawnTo w (w.drawn + 1))) (id : Nat) : (Code.region id X.ops true).wp X.P Q a w := by
  refine wp_region_any hm ?_
  have hget : ∀ i, i < X.ops.size → (Array.replicate X.ops.size false).getD i true = false := fun i hi => by simp [Array.getD_eq_getD_getElem?, hi]
  refine Rg.anyorder K O hQ X.ops.size (Array.replicate X.ops.size false) _ ι c0 c a _ ?_ (by simp) (fun j i hx => ?_) I
  · unfold unlisted
    rw [List.filter_eq_self.2]
    · simp
    · intro i hi; rw [hget i (List.mem_range.1 hi)]; rfl
  · rw [hget i (O.rng j i hx)]; simp
end
end Go.Ev

/- Regions, compiled. -/
set_option autoImplicit false
namespace Go.Ev
open Go.RowKit

noncomputable def nthC (n : Nat) : RefB := .mk fun env _ => nth n env
noncomputable def locC (p : Pa) : RefB := .mk fun _ T => Tr.get .no p T
noncomputable def cstC (v : V) : RefB := .mk fun _ _ => v
def findEnv (t : Tmp) : List (Option Tmp) → Nat → Option Nat
  | [], _ => none
  | some u :: l, n => if Nat.beq u t then some n else findEnv t l (n + 1)
  | none :: l, n => findEnv t l (n + 1)
/-- a slot's place in the tree -/
def slotOf (t : Tmp) : List Tmp → Nat → Option Nat
  | [], _ => none
  | u :: l, n => if Nat.beq u t then some n else slotOf t l (n + 1)
noncomputable def compRef (gz : Nat → Option Nat) (K : List Tmp) (ds : List (Option Tmp)) : Operand → RefB
  | .tmp t => match findEnv t ds 0 with
    | some n => nthC n
    | none => match slotOf t K 0 with
      | some p => locC (Pa.ofNat p)
      | none => cstC .no
  | .const v => cstC (constV v)
  | .global g => match gz g with
    | some n => cstC (.ptr g 0 0 (.a 0 n))
    | none => cstC .no
  | .func f => cstC (.b 8 f .nilL .nilL)
theorem findEnv_ok {t : Tmp} : ∀ {ds : List (Option Tmp)} {n k : Nat}, findEnv t ds n = some k → ∃ i : Nat, k = n + i ∧ ds[i]? = some (some t) ∧ ∀ i', i' < i → ds[i']? ≠ some (some t)
  | [], n, k, h => by cases h
  | some u :: l, n, k, h => by
    unfold findEnv at h
    split at h
    · rename_i hb
      cases h
      exact ⟨0, rfl, by have := Nat.eq_of_beq_eq_true hb; subst this; rfl, fun i' h => by omega⟩
    · rename_i hb
      obtain ⟨i, h1, h2, h3⟩ := findEnv_ok h
      refine ⟨i + 1, by omega, by simpa using h2, fun i' hi => ?_⟩
      cases i' with
      | zero => simp; intro e; subst e; simp at hb
      | succ i' => simpa using h3 i' (by omega)
  | none :: l, n, k, h => by
    unfold findEnv at h
    obtain ⟨i, h1, h2, h3⟩ := findEnv_ok h
    refine ⟨i + 1, by omega, by simpa using h2, fun i' hi => ?_⟩
    cases i' with
    | zero => simp
    | succ i' => simpa using h3 i' (by omega)
theorem findEnv_none {t : Tmp} : ∀ {ds : List (Option Tmp)} {n : Nat}, findEnv t ds n = none → ∀ i : Nat, ds[i]? ≠ some (some t)
  | [], n, h, i => by simp
  | some u :: l, n, h, i => by
    unfold findEnv at h
    split at h
    · cases h
    · rename_i hb
      cases i with
      | zero => simp; intro e; subst e; simp at hb
      | succ i => simpa using findEnv_none h i
  | none :: l, n, h, i => by
    unfold findEnv at h
    cases i with
    | zero => simp
    | succ i => simpa using findEnv_none h i

/-! what comes before what -/
def edgeMask (ms : List Nat) : List Edge → Nat
  | [] => 0
  | e :: l => if Region.binds .any e then (2 ^ e.on ||| ms.getD e.on 0) ||| edgeMask ms l else edgeMask ms l
def masksGo : List Nat → List Oper → List Nat
  | ms, [] => ms
  | ms, o :: l => masksGo (ms ++ [edgeMask ms o.after.toList]) l
theorem edgeMask_bit {ms : List Nat} {b : Nat} : ∀ {es : List Edge}, (edgeMask ms es).testBit b = true → ∃ e, e ∈ es ∧ Region.binds .any e = true ∧ (b = e.on ∨ (ms.getD e.on 0).testBit b = true)
  | [], h => by simp [edgeMask] at h
  | e :: l, h => by
    unfold edgeMask at h
    split at h
    · rename_i hb
      rw [Nat.testBit_or, Nat.testBit_or] at h
      rcases Bool.or_eq_true _ _ ▸ h with h | h
      · rcases Bool.or_eq_true _ _ ▸ h with h | h
        · rw [Nat.testBit_two_pow] at h
          exact ⟨e, by simp, hb, .inl (by simpa using (of_decide_eq_true h).symm)⟩
        · exact ⟨e, by simp, hb, .inr h⟩
      · obtain ⟨e', h1, h2⟩ := edgeMask_bit h
        exact ⟨e', by simp [h1], h2⟩
    · obtain ⟨e', h1, h2⟩ := edgeMask_bit h
      exact ⟨e', by simp [h1], h2⟩
theorem masksGo_ok : ∀ (l : List Oper) (ms : List Nat), (∀ k, k < ms.length → (masksGo ms l)[k]? = ms[k]?) ∧ (masksGo ms l).length = ms.length + l.length ∧
    ∀ m o, l[m]? = some o → (masksGo ms l)[ms.length + m]? = some (edgeMask ((masksGo ms l).take (ms.length + m)) o.after.toList)
  | [], ms => ⟨fun k _ => rfl, rfl, fun m o h => by simp at h⟩
  | o :: l, ms => by
    obtain ⟨h1, h2, h3⟩ := masksGo_ok l (ms ++ [edgeMask ms o.after.toList])
    have hpre : ∀ k, k < ms.length → (masksGo ms (o :: l))[k]? = ms[k]? := fun k hk => by
      show (masksGo (ms ++ [edgeMask ms o.after.toList]) l)[k]? = _
      rw [h1 k (by simp; omega), List.getElem?_append_left hk]
    have htake : (masksGo ms (o :: l)).take ms.length = ms := by
      apply List.ext_getElem?
      intro k
      rw [List.getElem?_take]
      by_cases hk : k < ms.length
      · rw [if_pos hk]; exact hpre k hk
      · rw [if_neg hk, List.getElem?_eq_none (by omega)]
    refine ⟨hpre, by show (masksGo (ms ++ _) l).length = _; rw [h2]; simp; omega, fun m o' hm => ?_⟩
    cases m with
    | zero =>
      simp at hm; subst hm
      rw [Nat.add_zero, htake]
      show (masksGo (ms ++ [edgeMask ms o.after.toList]) l)[ms.length]? = _
      rw [h1 _ (by simp)]; simp
    | succ m =>
      have := h3 m o' (by simpa using hm)
      simp only [List.length_append, List.length_singleton] at this
      rw [show ms.length + (m + 1) = ms.length + 1 + m from by omega]
      exact this
def masks (l : List Oper) : List Nat := masksGo [] l
def maskAt (ms : List Nat) (i : Nat) : Nat := ms.getD i 0
theorem masks_bit {l : List Oper} {i b : Nat} (h : (maskAt (masks l) i).testBit b = true) : ∃ o e, l[i]? = some o ∧ e ∈ o.after.toList ∧ Region.binds .any e = true ∧ (b = e.on ∨ (e.on < i ∧ (maskAt (masks l) e.on).testBit b = true)) := by
  obtain ⟨h1, h2, h3⟩ := masksGo_ok l []
  have hi : i < l.length := by
    rcases Nat.lt_or_ge i l.length with h4 | h4
    · exact h4
    · have : maskAt (masks l) i = 0 := by
        unfold maskAt masks
        rw [List.getD_eq_getElem?_getD, List.getElem?_eq_none (by rw [h2]; simpa using h4)]; rfl
      rw [this] at h; simp at h
  have hm := h3 i l[i] (List.getElem?_eq_getElem hi)
  simp only [List.length_nil, Nat.zero_add] at hm
  have he : maskAt (masks l) i = edgeMask ((masks l).take i) l[i].after.toList := by
    unfold maskAt masks
    rw [List.getD_eq_getElem?_getD, hm]; rfl
  rw [he] at h
  obtain ⟨e, q1, q2, q3⟩ := edgeMask_bit h
  refine ⟨l[i], e, List.getElem?_eq_getElem hi, q1, q2, q3.imp (fun h => h) fun h => ?_⟩
  rw [List.getD_eq_getElem?_getD, List.getElem?_take] at h
  by_cases hlt : e.on < i
  · rw [if_pos hlt] at h
    exact ⟨hlt, by unfold maskAt; rw [List.getD_eq_getElem?_getD]; exact h⟩
  · rw [if_neg hlt] at h; simp at h
end Go.Ev

/- Regions, compiled: the items. -/
set_option autoImplicit false
namespace Go.Ev
open Go.RowKit

def isEff : Op → Bool
  | .store .. | .mapUpdate .. | .insert .. => true
  | .call c => (match c.callee with | .builtin .len | .builtin .cap => false | _ => true)
  | _ => false
def isDef : Op → Bool | .defer _ => true | _ => false
structure St where
  pos : Nat
  ds : List (Option Tmp)
  off : Nat
  rs : List (Nat × Nat × Gd × (V → Tr V → HS → OpR))
noncomputable def gdOf (ops : Array Oper) (R : Operand → RefB) (o : Oper) : Gd := match o.guard with
  | none => .none
  | some (g, want) => (match (ops[g]?).bind (·.dst) with | some t => .mk (R (.tmp t)) want | none => .mk (cstC .no) want)
noncomputable def cksOf (draw : Bool) (msk pos : Nat) (rs : List (Nat × Nat × Gd × (V → Tr V → HS → OpR))) : List Ck :=
  match draw with
  | true => (rs.filter fun r => !(msk.testBit r.2.1)).map fun r => .mk (pos - r.1) r.2.2.1 r.2.2.2
  | false => []
def offNext (off : Nat) : OpC → Nat | .m _ => off + 1 | _ => off
def rsNext (pos i : Nat) (g : Gd) (rs : List (Nat × Nat × Gd × (V → Tr V → HS → OpR))) : OpC → List (Nat × Nat × Gd × (V → Tr V → HS → OpR)) | .r f => (pos, i, g, f) :: rs | _ => rs
section
variable (P : Program) (gz : Nat → Option Nat) (K : List Tmp) (ops : Array Oper) (draw : Bool) (ms : List Nat)
noncomputable def itC (s : St) (o : Oper) : OpC := compOp P (compRef gz K s.ds) o.op
noncomputable def itG (s : St) (o : Oper) : Gd := gdOf ops (compRef gz K s.ds) o
noncomputable def mkIt (s : St) (x : Nat × Oper) : It := .mk (itG gz K ops s x.2) (itC P gz K s x.2) s.off (cksOf draw (maskAt ms x.1) s.pos s.rs)
noncomputable def nextSt (s : St) (x : Nat × Oper) : St := ⟨s.pos + 1, x.2.dst :: s.ds, offNext s.off (itC P gz K s x.2), rsNext s.pos x.1 (itG gz K ops s x.2) s.rs (itC P gz K s x.2)⟩
noncomputable def itemsGo : St → List (Nat × Oper) → List It
  | _, [] => []
  | s, x :: l => mkIt P gz K ops draw ms s x :: itemsGo (nextSt P gz K ops s x) l
noncomputable def stAt : St → List (Nat × Oper) → Nat → St
  | s, _, 0 => s
  | s, [], _ + 1 => s
  | s, x :: l, j + 1 => stAt (nextSt P gz K ops s x) l j
theorem items_get : ∀ (L : List (Nat × Oper)) (s : St) (j : Nat), (itemsGo P gz K ops draw ms s L)[j]? = (L[j]?).map (mkIt P gz K ops draw ms (stAt P gz K ops s L j))
  | [], s, j => by simp [itemsGo]
  | x :: l, s, 0 => by simp [itemsGo, stAt]
  | x :: l, s, j + 1 => by simpa [itemsGo, stAt] using items_get l (nextSt P gz K ops s x) j
theorem items_len : ∀ (L : List (Nat × Oper)) (s : St), (itemsGo P gz K ops draw ms s L).length = L.length
  | [], s => rfl
  | x :: l, s => by simp [itemsGo, items_len l]
theorem st_pos : ∀ (L : List (Nat × Oper)) (s : St) (j : Nat), j ≤ L.length → (stAt P gz K ops s L j).pos = s.pos + j ∧ (stAt P gz K ops s L j).ds = ((L.take j).map (·.2.dst)).reverse ++ s.ds
  | L, s, 0, _ => by cases L <;> simp [stAt]
  | [], s, j + 1, h => by simp at h
  | x :: l, s, j + 1, h => by
    obtain ⟨h1, h2⟩ := st_pos l (nextSt P gz K ops s x) j (by simpa using h)
    refine ⟨?_, ?_⟩
    · show (stAt P gz K ops (nextSt P gz K ops s x) l j).pos = _
      rw [h1]; simp [nextSt]; omega
    · show (stAt P gz K ops (nextSt P gz K ops s x) l j).ds = _
      rw [h2]; simp [nextSt]
theorem offNext_le (off : Nat) (c : OpC) : off ≤ offNext off c := by cases c <;> simp [offNext]
theorem st_off_le : ∀ (L : List (Nat × Oper)) (s : St) (j : Nat), s.off ≤ (stAt P gz K ops s L j).off
  | L, s, 0 => by cases L <;> simp [stAt]
  | [], s, j + 1 => by simp [stAt]
  | x :: l, s, j + 1 => Nat.le_trans (offNext_le _ _) (st_off_le l (nextSt P gz K ops s x) j)
theorem st_off : ∀ (L : List (Nat × Oper)) (s : St) (i j : Nat) (x : Nat × Oper) (f : Nat → V → Tr V → OpR), i < j → L[i]? = some x → itC P gz K (stAt P gz K ops s L i) x.2 = .m f → (stAt P gz K ops s L i).off < (stAt P gz K ops s L j).off
  | [], s, i, j, x, f, _, h, _ => by simp at h
  | y :: l, s, i, 0, x, f, h, _, _ => by omega
  | y :: l, s, 0, j + 1, x, f, _, h, hc => by
    simp at h; subst h
    have hc : itC P gz K s y.2 = .m f := hc
    show s.off < (stAt P gz K ops (nextSt P gz K ops s y) l j).off
    have := st_off_le P gz K ops l (nextSt P gz K ops s y) j
    have h2 : (nextSt P gz K ops s y).off = s.off + 1 := by simp [nextSt, hc, offNext]
    omega
  | y :: l, s, i + 1, j + 1, x, f, h, hx, hc => st_off l (nextSt P gz K ops s y) i j x f (by omega) (by simpa using hx) hc
theorem rsNext_mem {pos i : Nat} {g : Gd} {rs : List (Nat × Nat × Gd × (V → Tr V → HS → OpR))} {c : OpC} {r : Nat × Nat × Gd × (V → Tr V → HS → OpR)} (h : r ∈ rs) : r ∈ rsNext pos i g rs c := by cases c <;> simp [rsNext, h]
theorem st_rs_sub : ∀ (L : List (Nat × Oper)) (s : St) (j : Nat) (r : Nat × Nat × Gd × (V → Tr V → HS → OpR)), r ∈ s.rs → r ∈ (stAt P gz K ops s L j).rs
  | L, s, 0, r, h => by cases L <;> simpa [stAt] using h
  | [], s, j + 1, r, h => by simpa [stAt] using h
  | x :: l, s, j + 1, r, h => st_rs_sub l (nextSt P gz K ops s x) j r (rsNext_mem h)
theorem st_rs : ∀ (L : List (Nat × Oper)) (s : St) (p j : Nat) (x : Nat × Oper) (f : V → Tr V → HS → OpR), p < j → L[p]? = some x → itC P gz K (stAt P gz K ops s L p) x.2 = .r f →
    (s.pos + p, x.1, itG gz K ops (stAt P gz K ops s L p) x.2, f) ∈ (stAt P gz K ops s L j).rs
  | [], s, i, j, x, f, _, h, _ => by simp at h
  | y :: l, s, i, 0, x, f, h, _, _ => by omega
  | y :: l, s, 0, j + 1, x, f, _, h, hc => by
    simp at h; subst h
    have hc : itC P gz K s y.2 = .r f := hc
    show _ ∈ (stAt P gz K ops (nextSt P gz K ops s y) l j).rs
    refine st_rs_sub P gz K ops l _ j _ ?_
    show _ ∈ rsNext s.pos y.1 (itG gz K ops s y.2) s.rs (itC P gz K s y.2)
    rw [hc]; simp [rsNext, stAt]
  | y :: l, s, i + 1, j + 1, x, f, h, hx, hc => by
    have := st_rs l (nextSt P gz K ops s y) i j x f (by omega) (by simpa using hx) hc
    have e : (nextSt P gz K ops s y).pos + i = s.pos + (i + 1) := by simp [nextSt]; omega
    rw [e] at this; exact this
end
def Cls (op : Op) : OpC → Prop
  | .e _ => isEff op = true
  | .d _ => isDef op = true
  | _ => True
theorem cls_no {op : Op} {c : OpC} (h : (match c with | .e _ => False | .d _ => False | _ => True) = True) : Cls op c := by cases c <;> simp_all [Cls]
theorem cls_compOp (P : Program) (R : Operand → RefB) (op : Op) : Cls op (compOp P R op) := by
  unfold compOp
  split
  case h_1 => trivial
  case h_2 => trivial
  case h_3 => trivial
  all_goals first
    | trivial
    | (unfold cAlloc; split <;> trivial)
    | (unfold cBox; split <;> trivial)
    | (unfold cBuild; split <;> (try split) <;> (try split) <;> trivial)
    | (unfold cBuildS; split <;> (try split) <;> (try split) <;> trivial)
    | (unfold cLoad; split <;> trivial)
    | (unfold cStore; split <;> first | trivial | rfl)
    | (unfold cUpd; split <;> (try split) <;> first | trivial | rfl)
    | (unfold cBin; split <;> (try split) <;> (try split) <;> trivial)
    | (unfold cUn; split <;> trivial)
    | (unfold cConv; split <;> trivial)
    | (unfold cIface; split <;> trivial)
    | (unfold cFunc; split <;> trivial)
    | (unfold cMakeMap; split <;> trivial)
    | (unfold cMake; split <;> (try split) <;> (try split) <;> trivial)
    | (unfold cSlice; split <;> (try split) <;> (try split) <;> trivial)
    | (unfold cFieldA; split <;> (try split) <;> (try split) <;> trivial)
    | (unfold cField; split <;> (try split) <;> (try split) <;> trivial)
    | (unfold cIxA; split <;> (try split) <;> trivial)
    | (unfold cIx; split <;> trivial)
    | (unfold cLook; split <;> (try split) <;> trivial)
    | (unfold cDefer; split <;> first | trivial | rfl)
    | skip
  rename_i c
  unfold cCall
  split
  · rename_i hc; simp [Cls, isEff, hc]
  · rename_i hc; simp [Cls, isEff, hc]
  · rename_i b hc
    unfold cBuiltin
    split
    · unfold cApp; split <;> (try split) <;> (try split) <;> (try split) <;> first | trivial | simp [Cls, isEff, hc]
    · unfold cLen; split <;> trivial
    · unfold cCap; split <;> trivial
    · trivial
  · trivial
theorem compOp_e {P : Program} {R : Operand → RefB} {op : Op} {f : CE → V → Tr V → HS → OpR} (h : compOp P R op = .e f) : isEff op = true := by
  have := cls_compOp P R op; rw [h] at this; exact this
theorem compOp_d {P : Program} {R : Operand → RefB} {op : Op} {f : V → Tr V → HS → OpR} (h : compOp P R op = .d f) : isDef op = true := by
  have := cls_compOp P R op; rw [h] at this; exact this
end Go.Ev

/- Regions, compiled: the checks, and what they give. -/
set_option autoImplicit false
namespace Go.Ev
open Go.RowKit

def tmpsOf (xs : List Operand) : List Tmp := xs.filterMap fun | .tmp t => some t | _ => none
def gTmp (ops : Array Oper) (o : Oper) : List Tmp := match o.guard with | some (g, _) => ((ops[g]?).bind (·.dst)).toList | none => []
def nmList (ops : Array Oper) (o : Oper) : List Tmp := o.dst.toList ++ (tmpsOf o.op.operands.toList ++ gTmp ops o)
def chk1 (N : Nat) (ops : Array Oper) (o : Oper) : Bool :=
  (match o.dst with | some t => Nat.blt t N | none => true) && ((!(isDef o.op) || (o.dst.isNone && o.guard.isNone)) && (match o.guard with | some (g, _) => ((ops[g]?).bind (·.dst)).isSome | none => true))
/-- of two places, p and q -/
def chk2 (ops : Array Oper) (ms : List Nat) (x : (Nat × Oper) × Nat) (y : (Nat × Oper) × Nat) : Bool :=
  (Nat.blt x.2 y.2 || !(maskAt ms y.1.1).testBit x.1.1) && ((!(Nat.blt x.2 y.2 && isEff x.1.2.op) || (maskAt ms y.1.1).testBit x.1.1) && ((x.2 == y.2 || x.1.1 != y.1.1) &&
    (match x.1.2.dst with | none => true | some t => x.2 == y.2 || (!((nmList ops y.1.2).contains t) || (if Nat.blt x.2 y.2 then (maskAt ms y.1.1).testBit x.1.1 else (maskAt ms x.1.1).testBit y.1.1)))))
def chkD (L : List (Nat × Oper)) : Bool := Nat.ble (L.filter fun x => isDef x.2.op).length 1
def opsAt (ops : Array Oper) (ix : List Nat) : List (Nat × Oper) := ix.filterMap fun i => (ops[i]?).map fun o => (i, o)
def rgChk (ops : Array Oper) (ix : List Nat) (draw : Bool) (N : Nat) : Bool :=
  let L := opsAt ops ix
  let ms := masks ops.toList
  (L.all fun x => chk1 N ops x.2) && (chkD L && (match draw with
    | false => ix == List.range ops.size
    | true => ((L.zipIdx.all fun x => L.zipIdx.all fun y => chk2 ops ms x y) && ((List.range ops.size).all (fun i => L.any fun x => x.1 == i) && (ops.toList.zipIdx.all fun x => x.1.after.toList.all fun e => !Region.binds .any e || Nat.blt e.on x.2)))))
section
variable (P : Program) (gz : Nat → Option Nat) (K : List Tmp) (ops : Array Oper) (ix : List Nat) (draw : Bool) (N : Nat)
abbrev s00 : St := ⟨0, [], 0, []⟩
noncomputable def itemsOf : List It := itemsGo P gz K ops draw (masks ops.toList) s00 (opsAt ops ix)
def depOf (i j : Nat) : Prop := match draw with
  | false => i < j
  | true => ∃ a b, (opsAt ops ix)[i]? = some a ∧ (opsAt ops ix)[j]? = some b ∧ (maskAt (masks ops.toList) b.1).testBit a.1 = true
noncomputable def rgOf (ce : CE) (base : Nat) (T : Tr V) (vs : Nat → V) (hs : Nat → HS) : Rg :=
  { P, ops, ix := (opsAt ops ix).map (·.1), l := itemsOf P gz K ops ix draw, R := fun j => compRef gz K (stAt P gz K ops s00 (opsAt ops ix) j).ds, dep := depOf ops ix draw, N, ce, base, T, vs, hs }
end
theorem opsAt_mem {ops : Array Oper} {ix : List Nat} {x : Nat × Oper} (h : x ∈ opsAt ops ix) : ops[x.1]? = some x.2 := by
  unfold opsAt at h
  obtain ⟨i, _, h2⟩ := List.mem_filterMap.1 h
  cases ho : ops[i]? with
  | none => rw [ho] at h2; cases h2
  | some o => rw [ho] at h2; cases h2; exact ho
section
variable {P : Program} {gz : Nat → Option Nat} {K : List Tmp} {ops : Array Oper} {ix : List Nat} {draw : Bool} {N : Nat} {ce : CE} {base : Nat} {T : Tr V} {vs : Nat → V} {hs : Nat → HS}
theorem rg_o (j : Nat) : (rgOf P gz K ops ix draw N ce base T vs hs).o j = ((opsAt ops ix)[j]?).map (·.2) := by
  show (((opsAt ops ix).map (·.1))[j]?).bind (ops[·]?) = _
  rw [List.getElem?_map]
  cases h : (opsAt ops ix)[j]? with
  | none => rfl
  | some x => exact opsAt_mem (List.mem_of_getElem? h)
theorem rg_n : (rgOf P gz K ops ix draw N ce base T vs hs).n = (opsAt ops ix).length := by
  show ((opsAt ops ix).map (·.1)).length = _; simp
theorem rg_dst {j : Nat} {t : Tmp} : (rgOf P gz K ops ix draw N ce base T vs hs).dst j t ↔ ∃ x, (opsAt ops ix)[j]? = some x ∧ x.2.dst = some t := by
  unfold Rg.dst
  rw [rg_o]
  constructor
  · rintro ⟨o, h1, h2⟩
    cases h : (opsAt ops ix)[j]? with
    | none => rw [h] at h1; cases h1
    | some x => rw [h] at h1; cases h1; exact ⟨x, rfl, h2⟩
  · rintro ⟨x, h1, h2⟩; exact ⟨x.2, by rw [h1]; rfl, h2⟩
theorem rg_nm {j : Nat} {t : Tmp} (h : (rgOf P gz K ops ix draw N ce base T vs hs).nm j t) : ∃ x, (opsAt ops ix)[j]? = some x ∧ t ∈ nmList ops x.2 := by
  obtain ⟨o, h1, h2⟩ := h
  rw [rg_o] at h1
  cases hx : (opsAt ops ix)[j]? with
  | none => rw [hx] at h1; cases h1
  | some x =>
    rw [hx] at h1; cases h1
    refine ⟨x, rfl, ?_⟩
    unfold nmList
    rw [List.mem_append, List.mem_append]
    rcases h2 with h2 | h2 | ⟨g, want, h2, h3⟩
    · exact .inl (by rw [h2]; simp)
    · exact .inr (.inl (List.mem_filterMap.2 ⟨.tmp t, by simpa using h2, rfl⟩))
    · refine .inr (.inr ?_)
      unfold gTmp; rw [h2]
      have h3 : (ops[g]?).bind (·.dst) = some t := h3
      simp only []; rw [h3]; simp
end
end Go.Ev

/- Regions, compiled: the facts from the checks. -/
set_option autoImplicit false
namespace Go.Ev
open Go.RowKit

section
variable {P : Program} {gz : Nat → Option Nat} {K : List Tmp} {ops : Array Oper} {ix : List Nat} {draw : Bool} {N : Nat} {ce : CE} {base : Nat} {T : Tr V} {vs : Nat → V} {hs : Nat → HS}
theorem rg_item {j : Nat} {it : It} (h : (itemsOf P gz K ops ix draw)[j]? = some it) : ∃ x, (opsAt ops ix)[j]? = some x ∧ it = mkIt P gz K ops draw (masks ops.toList) (stAt P gz K ops s00 (opsAt ops ix) j) x := by
  unfold itemsOf at h
  rw [items_get] at h
  cases hx : (opsAt ops ix)[j]? with
  | none => rw [hx] at h; cases h
  | some x => rw [hx] at h; cases h; exact ⟨x, rfl, rfl⟩
theorem zip_mem {α : Type} {l : List α} {j : Nat} {x : α} (h : l[j]? = some x) : (x, j) ∈ l.zipIdx := by
  refine List.mem_of_getElem? (i := j) ?_
  simp [h]
theorem chk_draw (hc : rgChk ops ix true N = true) {i j : Nat} {x y : Nat × Oper} (hx : (opsAt ops ix)[i]? = some x) (hy : (opsAt ops ix)[j]? = some y) : chk2 ops (masks ops.toList) (x, i) (y, j) = true := by
  unfold rgChk at hc
  simp only [Bool.and_eq_true] at hc
  have h1 := List.all_eq_true.1 hc.2.2.1 (x, i) (zip_mem hx)
  exact List.all_eq_true.1 h1 (y, j) (zip_mem hy)
theorem chk_one (hc : rgChk ops ix draw N = true) {j : Nat} {x : Nat × Oper} (hx : (opsAt ops ix)[j]? = some x) : chk1 N ops x.2 = true := by
  unfold rgChk at hc
  simp only [Bool.and_eq_true] at hc
  exact List.all_eq_true.1 hc.1 x (List.mem_of_getElem? hx)
theorem filter_two {α : Type} {p : α → Bool} : ∀ {l : List α} {i j : Nat} {x y : α}, i < j → l[i]? = some x → l[j]? = some y → p x = true → p y = true → 2 ≤ (l.filter p).length
  | [], i, j, x, y, _, h, _, _, _ => by simp at h
  | a :: l, 0, j + 1, x, y, _, h, h2, h3, h4 => by
    simp at h; subst h
    rw [List.filter_cons_of_pos h3]
    have : 0 < (l.filter p).length := List.length_pos_of_mem (List.mem_filter.2 ⟨List.mem_of_getElem? (by simpa using h2), h4⟩)
    simp; omega
  | a :: l, i + 1, j + 1, x, y, h0, h, h2, h3, h4 => by
    have := filter_two (l := l) (i := i) (j := j) (by omega) (by simpa using h) (by simpa using h2) h3 h4
    have h5 : (l.filter p).length ≤ ((a :: l).filter p).length := by
      rw [List.filter_cons]; split <;> simp
    omega
  | a :: l, i, 0, x, y, h0, _, _, _, _ => by omega
theorem cr_env {ds : List (Option Tmp)} {t : Tmp} {n : Nat} (h : findEnv t ds 0 = some n) : compRef gz K ds (.tmp t) = nthC n := by unfold compRef; simp only [h]
theorem cr_slot {ds : List (Option Tmp)} {t : Tmp} {p : Nat} (h : findEnv t ds 0 = none) (h2 : slotOf t K 0 = some p) : compRef gz K ds (.tmp t) = locC (Pa.ofNat p) := by unfold compRef; simp only [h, h2]
theorem cr_no {ds : List (Option Tmp)} {t : Tmp} (h : findEnv t ds 0 = none) (h2 : slotOf t K 0 = none) : compRef gz K ds (.tmp t) = cstC .no := by unfold compRef; simp only [h, h2]
theorem cr_gl {ds : List (Option Tmp)} {g n : Nat} (h : gz g = some n) : compRef gz K ds (.global g) = cstC (.ptr g 0 0 (.a 0 n)) := by unfold compRef; simp only [h]
theorem cr_gno {ds : List (Option Tmp)} {g : Nat} (h : gz g = none) : compRef gz K ds (.global g) = cstC .no := by unfold compRef; simp only [h]
theorem rg_ok {ι0 : Em} {a0 : Act} (hc : rgChk ops ix draw N = true) (hce : CeOk P gz ce) (htr : ∀ (j : Nat) (it : It), (itemsOf P gz K ops ix draw)[j]? = some it → StepI ce base T it (pushN .nilL vs j) (hs j) (vs j) (hs (j + 1)))
    (hT : ∀ t p, slotOf t K 0 = some p → vr ι0 (Tr.get .no (Pa.ofNat p) T) (a0.eval (.tmp t))) (hG : ∀ g n, gz g = some n → vr ι0 (.ptr g 0 0 (.a 0 n)) (.pointer (some ⟨g, 0, none⟩))) (hN : a0.tmps.size = N) :
    (rgOf P gz K ops ix draw N ce base T vs hs).Ok ι0 a0 where
  len := by rw [rg_n]; exact items_len ..
  item := fun j it h => by
    obtain ⟨x, hx, rfl⟩ := rg_item h
    refine ⟨x.2, by rw [rg_o, hx]; rfl, compOp_ok x.2, ?_⟩
    have h1 := chk_one hc hx
    unfold chk1 at h1
    simp only [Bool.and_eq_true] at h1
    unfold Rg.GdOk
    show match x.2.guard with | none => itG gz K ops (stAt P gz K ops s00 (opsAt ops ix) j) x.2 = .none | some (i, want) => ∃ t, (ops[i]?).bind (·.dst) = some t ∧ itG gz K ops (stAt P gz K ops s00 (opsAt ops ix) j) x.2 = .mk (compRef gz K (stAt P gz K ops s00 (opsAt ops ix) j).ds (.tmp t)) want
    unfold itG gdOf
    cases hg : x.2.guard with
    | none => rfl
    | some gw =>
      obtain ⟨g, want⟩ := gw
      have h2 := h1.2.2
      rw [hg] at h2
      obtain ⟨t, ht⟩ := Option.isSome_iff_exists.1 h2
      exact ⟨t, ht, by simp only []; rw [ht]⟩
  lt := fun i j h => by
    cases draw with
    | false => exact h
    | true =>
      obtain ⟨a, b, h1, h2, h3⟩ := h
      have := chk_draw hc h1 h2
      unfold chk2 at this
      simp only [Bool.and_eq_true] at this
      rcases Bool.or_eq_true _ _ ▸ this.1 with h | h
      · exact blt_t h
      · rw [h3] at h; cases h
  eff := fun e j it f h1 h2 h3 h4 => by
    cases draw with
    | false => exact h3
    | true =>
      obtain ⟨x, hx, rfl⟩ := rg_item h1
      rw [rg_n] at h4
      have hy : (opsAt ops ix)[j]? = some (opsAt ops ix)[j] := List.getElem?_eq_getElem h4
      have := chk_draw hc hx hy
      unfold chk2 at this
      simp only [Bool.and_eq_true] at this
      have he : isEff x.2.op = true := compOp_e h2
      refine ⟨x, _, hx, hy, ?_⟩
      rcases Bool.or_eq_true _ _ ▸ this.2.1 with h | h
      · have hb : Nat.blt e j = true := by rw [blt_eq]; simpa using h3
        simp [he, hb] at h
      · exact h
  names := fun j t p h1 h2 h3 => by
    cases draw with
    | false => exact ⟨fun h => h, fun h => h⟩
    | true =>
      obtain ⟨y, hy, hny⟩ := rg_nm h1
      obtain ⟨x, hx, hdx⟩ := rg_dst.1 h2
      have := chk_draw hc hx hy
      unfold chk2 at this
      simp only [Bool.and_eq_true] at this
      have h4 := this.2.2.2
      rw [hdx] at h4
      simp only [] at h4
      have hpj : (p == j) = false := by simpa using h3
      rw [hpj, Bool.false_or] at h4
      have hcon : (nmList ops y.2).contains t = true := by simpa using hny
      rw [hcon] at h4
      simp only [Bool.not_true, Bool.false_or] at h4
      refine ⟨fun h => ⟨x, y, hx, hy, ?_⟩, fun h => ⟨y, x, hy, hx, ?_⟩⟩
      · rw [if_pos (by rw [blt_eq]; simpa using h)] at h4; exact h4
      · rw [if_neg (by rw [blt_eq]; simp; omega)] at h4; exact h4
  dstN := fun j t h => by
    obtain ⟨x, hx, hd⟩ := rg_dst.1 h
    have h1 := chk_one hc hx
    unfold chk1 at h1
    simp only [Bool.and_eq_true] at h1
    have h2 := h1.1
    rw [hd] at h2
    exact blt_t h2
  offs := fun i j it it' f f' h1 h2 h3 h4 h5 => by
    obtain ⟨x, hx, rfl⟩ := rg_item h1
    obtain ⟨y, hy, rfl⟩ := rg_item h2
    rcases Nat.lt_trichotomy i j with h | h | h
    · have := st_off P gz K ops (opsAt ops ix) s00 i j x f h hx h3
      have h5 : (stAt P gz K ops s00 (opsAt ops ix) i).off = (stAt P gz K ops s00 (opsAt ops ix) j).off := h5
      omega
    · exact h
    · have := st_off P gz K ops (opsAt ops ix) s00 j i y f' h hy h4
      have h5 : (stAt P gz K ops s00 (opsAt ops ix) i).off = (stAt P gz K ops s00 (opsAt ops ix) j).off := h5
      omega
  cks := fun e j it f it' f' h1 h2 h3 h4 h5 h6 => by
    obtain ⟨x, hx, rfl⟩ := rg_item h1
    obtain ⟨y, hy, rfl⟩ := rg_item h3
    cases draw with
    | false => exact absurd h5 h6
    | true =>
      have hm := st_rs P gz K ops (opsAt ops ix) s00 j e y f' h5 hy h4
      have hle : e ≤ (opsAt ops ix).length := by
        have := (List.getElem?_eq_some_iff.1 hx).1; omega
      have hp := (st_pos P gz K ops (opsAt ops ix) s00 e hle).1
      show _ ∈ cksOf true (maskAt (masks ops.toList) x.1) (stAt P gz K ops s00 (opsAt ops ix) e).pos (stAt P gz K ops s00 (opsAt ops ix) e).rs
      rw [hp]
      unfold cksOf
      refine List.mem_map.2 ⟨_, List.mem_filter.2 ⟨hm, ?_⟩, ?_⟩
      · cases hb : (maskAt (masks ops.toList) x.1).testBit y.1 with
        | false => simp [hb]
        | true => exact absurd ⟨y, x, hy, hx, hb⟩ h6
      · show Ck.mk (0 + e - (0 + j)) _ _ = _
        simp only [Nat.zero_add]; rfl
  oned := fun i j it it' f f' h1 h2 h3 h4 => by
    obtain ⟨x, hx, rfl⟩ := rg_item h1
    obtain ⟨y, hy, rfl⟩ := rg_item h2
    have hc' := hc
    unfold rgChk at hc'
    simp only [Bool.and_eq_true] at hc'
    have hD := ble_t hc'.2.1
    have e1 : isDef x.2.op = true := compOp_d h3
    have e2 : isDef y.2.op = true := compOp_d h4
    rcases Nat.lt_trichotomy i j with h | h | h
    · have := filter_two (p := fun x : Nat × Oper => isDef x.2.op) h hx hy e1 e2; omega
    · exact h
    · have := filter_two (p := fun x : Nat × Oper => isDef x.2.op) h hy hx e2 e1; omega
  ddst := fun j it f o h1 h2 h3 => by
    obtain ⟨x, hx, rfl⟩ := rg_item h1
    rw [rg_o, hx] at h3; cases h3
    have e1 : isDef x.2.op = true := compOp_d h2
    have h1 := chk_one hc hx
    unfold chk1 at h1
    simp only [Bool.and_eq_true] at h1
    have h4 := h1.2.1
    rw [e1] at h4
    simp at h4
    exact h4.1
  trace := htr
  ceok := ⟨gz, hce, hG⟩
  tmp := fun j t hj => by
    rw [rg_n] at hj
    have hds := (st_pos P gz K ops (opsAt ops ix) s00 j (by omega)).2
    simp only [List.append_nil] at hds
    have hlen : (((opsAt ops ix).take j).map (·.2.dst)).length = j := by simp; omega
    have hat : ∀ k, k < j → ((((opsAt ops ix).take j).map (·.2.dst)).reverse)[k]? = ((opsAt ops ix)[j - 1 - k]?).map (·.2.dst) := fun k hk => by
      rw [List.getElem?_reverse (by omega), hlen, List.getElem?_map, List.getElem?_take, if_pos (by omega)]
    have hback : ∀ p, p < j → (rgOf P gz K ops ix draw N ce base T vs hs).dst p t → ((((opsAt ops ix).take j).map (·.2.dst)).reverse)[j - 1 - p]? = some (some t) := fun p hp hd => by
      obtain ⟨x, hx, hdx⟩ := rg_dst.1 hd
      rw [hat _ (by omega), show j - 1 - (j - 1 - p) = p from by omega, hx]
      simp [hdx]
    show (∃ p, p < j ∧ _ ∧ _ ∧ (compRef gz K (stAt P gz K ops s00 (opsAt ops ix) j).ds (.tmp t)).get (pushN .nilL vs j) T = vs p) ∨ _ ∧ vr ι0 ((compRef gz K (stAt P gz K ops s00 (opsAt ops ix) j).ds (.tmp t)).get (pushN .nilL vs j) T) _
    rw [hds]
    cases hf : findEnv t (((opsAt ops ix).take j).map (·.2.dst)).reverse 0 with
    | some k =>
      left
      obtain ⟨i, h1, h2, h3⟩ := findEnv_ok hf
      have hik : i = k := by omega
      subst hik
      have hlt : i < j := by
        have := (List.getElem?_eq_some_iff.1 h2).1
        rw [List.length_reverse, hlen] at this; exact this
      refine ⟨j - 1 - i, by omega, ?_, fun q hq hqd => ?_, ?_⟩
      · rw [hat i hlt] at h2
        cases hx : (opsAt ops ix)[j - 1 - i]? with
        | none => rw [hx] at h2; cases h2
        | some x => rw [hx] at h2; exact rg_dst.2 ⟨x, hx, by simpa using h2⟩
      · rcases Nat.lt_or_ge (j - 1 - i) q with h | h
        · exact absurd (hback q hq hqd) (h3 (j - 1 - q) (by omega))
        · exact h
      · rw [cr_env hf]; exact nth_push vs j i hlt
    | none =>
      right
      refine ⟨fun p hp hd => findEnv_none hf _ (hback p hp hd), ?_⟩
      cases hs' : slotOf t K 0 with
      | none => rw [cr_no hf hs']; exact (trivial : True)
      | some p => rw [cr_slot hf hs']; exact hT t p hs'
  other := fun j x a hx => by
    show vr ι0 ((compRef gz K (stAt P gz K ops s00 (opsAt ops ix) j).ds x).get (pushN .nilL vs j) T) (a.eval x)
    cases x with
    | tmp t => exact absurd rfl (hx t)
    | const v => exact vr_of fun h => (constV_ok h).1
    | global g =>
      cases hg : gz g with
      | none => rw [cr_gno hg]; exact (trivial : True)
      | some n => rw [cr_gl hg]; exact hG g n hg
    | func f => exact ⟨#[], #[], rfl, lr_nil, lr_nil⟩
  size0 := hN
end
end Go.Ev

/- Regions, compiled: the order. -/
set_option autoImplicit false
namespace Go.Ev
open Go.RowKit

section
variable {P : Program} {gz : Nat → Option Nat} {K : List Tmp} {ops : Array Oper} {ix : List Nat} {draw : Bool} {N : Nat} {ce : CE} {base : Nat} {T : Tr V} {vs : Nat → V} {hs : Nat → HS}
theorem rg_ix (j i : Nat) : (rgOf P gz K ops ix draw N ce base T vs hs).ix[j]? = some i ↔ ∃ x, (opsAt ops ix)[j]? = some x ∧ x.1 = i := by
  show ((opsAt ops ix).map (·.1))[j]? = some i ↔ _
  rw [List.getElem?_map]
  cases (opsAt ops ix)[j]? <;> simp
theorem rg_ord (hc : rgChk ops ix true N = true) : (rgOf P gz K ops ix true N ce base T vs hs).Ord where
  all := fun i hi => by
    have hc' := hc
    unfold rgChk at hc'
    simp only [Bool.and_eq_true] at hc'
    have h1 := List.all_eq_true.1 hc'.2.2.2.1 i (List.mem_range.2 hi)
    obtain ⟨x, hx, hxi⟩ := List.any_eq_true.1 h1
    obtain ⟨j, hj⟩ := List.mem_iff_getElem?.1 hx
    refine ⟨j, ?_, (rg_ix j i).2 ⟨x, hj, by simpa using hxi⟩⟩
    rw [rg_n]
    exact (List.getElem?_eq_some_iff.1 hj).1
  rng := fun j i h => by
    obtain ⟨x, hx, rfl⟩ := (rg_ix j i).1 h
    exact (Array.getElem?_eq_some_iff.1 (opsAt_mem (List.mem_of_getElem? hx))).1
  inj := fun j j' i h h' => by
    obtain ⟨x, hx, hxi⟩ := (rg_ix j i).1 h
    obtain ⟨y, hy, hyi⟩ := (rg_ix j' i).1 h'
    have := chk_draw hc hx hy
    unfold chk2 at this
    simp only [Bool.and_eq_true] at this
    have h3 := this.2.2.1
    have : x.1 = y.1 := by rw [hxi, hyi]
    simpa [this] using h3
  down := fun i o e h1 h2 h3 => by
    have hc' := hc
    unfold rgChk at hc'
    simp only [Bool.and_eq_true] at hc'
    have h1' : ops.toList[i]? = some o := by
      have h1 : ops[i]? = some o := h1
      simpa using h1
    have h4 := List.all_eq_true.1 (List.all_eq_true.1 hc'.2.2.2.2 (o, i) (zip_mem h1')) e (by simpa using h2)
    rw [h3] at h4
    exact blt_t (by simpa using h4)
  dep := fun i j h => by
    obtain ⟨a, b, h1, h2, h3⟩ := h
    obtain ⟨o, e, q1, q2, q3, q4⟩ := masks_bit h3
    have ho : ops[b.1]? = some o := by simpa using q1
    have hb := opsAt_mem (List.mem_of_getElem? h2)
    rw [ho] at hb
    cases hb
    have he : e.on < ops.size := by
      have hc' := hc
      unfold rgChk at hc'
      simp only [Bool.and_eq_true] at hc'
      have h4 := List.all_eq_true.1 (List.all_eq_true.1 hc'.2.2.2.2 (b.2, b.1) (zip_mem q1)) e q2
      rw [q3] at h4
      have := blt_t (show Nat.blt e.on b.1 = true by simpa using h4)
      have := (Array.getElem?_eq_some_iff.1 ho).1
      omega
    have hall : ∀ i, i < ops.size → ∃ (j : Nat) (x : Nat × Oper), (opsAt ops ix)[j]? = some x ∧ x.1 = i := fun i hi => by
      have hc' := hc
      unfold rgChk at hc'
      simp only [Bool.and_eq_true] at hc'
      obtain ⟨x, hx, hxi⟩ := List.any_eq_true.1 (List.all_eq_true.1 hc'.2.2.2.1 i (List.mem_range.2 hi))
      obtain ⟨j, hj⟩ := List.mem_iff_getElem?.1 hx
      exact ⟨j, x, hj, by simpa using hxi⟩
    obtain ⟨q, x, hq, hxq⟩ := hall e.on he
    refine ⟨b.2, e, q, by rw [rg_o, h2]; rfl, by simpa using q2, q3, (rg_ix q e.on).2 ⟨x, hq, hxq⟩, ?_⟩
    rcases q4 with h5 | ⟨_, h5⟩
    · left
      have := chk_draw hc h1 hq
      unfold chk2 at this
      simp only [Bool.and_eq_true] at this
      have h6 := this.2.2.1
      have : a.1 = x.1 := by rw [hxq, h5]
      simpa [this] using h6
    · right
      exact ⟨a, x, h1, hq, by rw [hxq]; exact h5⟩
end
/-- the operations in the order in which they are evaluated: what has no effect first -/
def pickOp (ms : List Nat) (done : Nat) (want : Bool) : List (Nat × Oper) → Option Nat
  | [] => none
  | x :: l => if !(done.testBit x.1) && ((isEff x.2.op == want) && (maskAt ms x.1 &&& done == maskAt ms x.1)) then some x.1 else pickOp ms done want l
def greedy (ms : List Nat) (L : List (Nat × Oper)) : Nat → Nat → List Nat
  | 0, _ => []
  | n + 1, done => match pickOp ms done false L with
    | some i => i :: greedy ms L n (done ||| 2 ^ i)
    | none => match pickOp ms done true L with
      | some i => i :: greedy ms L n (done ||| 2 ^ i)
      | none => []
def orderOf (ops : Array Oper) (draw : Bool) : List Nat := match draw with
  | false => List.range ops.size
  | true => greedy (masks ops.toList) (opsAt ops (List.range ops.size)) ops.size 0
end Go.Ev

/- Regions, compiled: what is kept behind them. -/
set_option autoImplicit false
namespace Go.Ev
open Go.RowKit

inductive Ps where
  | none
  | slot (p : Pa)
  | push (p : Pa)
noncomputable def psK (p : Ps) (v : V) (T : Tr V) (k : Tr V → Out) : Out := Ps.rec (motive := fun _ => Out) (k T) (fun p => Tr.setK .no v p T k) (fun p => Tr.setK .no (.cons v (Tr.get .no p T)) p T k) p
/-- newest first; the oldest goes first -/
noncomputable def persistK (ps : List Ps) : V → Tr V → (Tr V → Out) → Out :=
  List.rec (motive := fun _ => V → Tr V → (Tr V → Out) → Out) (fun _ T k => k T) (fun p _ ih env T k => V.rec (motive := fun _ => Out) (fun _ _ => .bad 15) (fun _ _ v rest _ _ => ih rest T fun T' => psK p v T' k) env) ps
noncomputable def psOf (K : List Tmp) (o : Oper) : Ps := if isDef o.op then .push (Pa.ofNat K.length) else match o.dst with
  | some t => (match slotOf t K 0 with | some q => .slot (Pa.ofNat q) | none => .none)
  | none => .none
theorem slotOf_ok {t : Tmp} : ∀ {K : List Tmp} {n q : Nat}, slotOf t K n = some q → ∃ i : Nat, q = n + i ∧ K[i]? = some t
  | [], n, q, h => by cases h
  | u :: l, n, q, h => by
    unfold slotOf at h
    split at h
    · rename_i hb
      cases h
      exact ⟨0, rfl, by have := Nat.eq_of_beq_eq_true hb; subst this; rfl⟩
    · obtain ⟨i, h1, h2⟩ := slotOf_ok h
      exact ⟨i + 1, by omega, by simpa using h2⟩
theorem slot_inj {t u : Tmp} {K : List Tmp} {q : Nat} (h : slotOf t K 0 = some q) (h' : slotOf u K 0 = some q) : t = u := by
  obtain ⟨i, h1, h2⟩ := slotOf_ok h
  obtain ⟨j, h3, h4⟩ := slotOf_ok h'
  have : i = j := by omega
  subst this
  rw [h2] at h4; cases h4; rfl
theorem slot_lt {t : Tmp} {K : List Tmp} {q : Nat} (h : slotOf t K 0 = some q) : q < K.length := by
  obtain ⟨i, h1, h2⟩ := slotOf_ok h
  have := (List.getElem?_eq_some_iff.1 h2).1; omega
theorem get_set (T : Tr V) (v : V) (m n : Nat) : Tr.get .no (Pa.ofNat m) (Tr.set .no v (Pa.ofNat n) T) = if m = n then v else Tr.get .no (Pa.ofNat m) T := Tr.at_put V.no T n m v
/-- the slots and the deferred calls behind a region -/
theorem persistK_ok (K : List Tmp) : ∀ (M : List Oper) (env : V) (T : Tr V) (k : Tr V → Out), M.length ≤ env.list.length →
    ∃ T', persistK (M.map (psOf K)) env T k = k T' ∧
      (∀ t q, slotOf t K 0 = some q → (∀ (i : Nat) o, M[i]? = some o → isDef o.op = true ∨ o.dst ≠ some t) → Tr.get .no (Pa.ofNat q) T' = Tr.get .no (Pa.ofNat q) T) ∧
      (∀ t q (i : Nat) o, slotOf t K 0 = some q → M[i]? = some o → isDef o.op = false → o.dst = some t → (∀ (i' : Nat) o', i' < i → M[i']? = some o' → isDef o'.op = true ∨ o'.dst ≠ some t) → Tr.get .no (Pa.ofNat q) T' = nth i env) ∧
      ((∀ (i : Nat) o, M[i]? = some o → isDef o.op = false) → Tr.get .no (Pa.ofNat K.length) T' = Tr.get .no (Pa.ofNat K.length) T) ∧
      (∀ (i : Nat) o, M[i]? = some o → isDef o.op = true → (∀ (i' : Nat) o', M[i']? = some o' → isDef o'.op = true → i' = i) → Tr.get .no (Pa.ofNat K.length) T' = .cons (nth i env) (Tr.get .no (Pa.ofNat K.length) T))
  | [], env, T, k, _ => ⟨T, rfl, fun t q h _ => rfl, fun t q i o h hi => by simp at hi, fun _ => rfl, fun i o hi => by simp at hi⟩
  | o :: M, .a t x, T, k, h => by simp [V.list] at h
  | o :: M, .b tt x v rest, T, k, hlen => by
    obtain ⟨T1, r0, r1, r2, r3, r4⟩ := persistK_ok K M rest T (fun T' => psK (psOf K o) v T' k) (by simp [V.list] at hlen; omega)
    have e0 : persistK ((o :: M).map (psOf K)) (.b tt x v rest) T k = psK (psOf K o) v T1 k := r0
    cases hd : isDef o.op with
    | true =>
      refine ⟨Tr.set .no (.cons v (Tr.get .no (Pa.ofNat K.length) T1)) (Pa.ofNat K.length) T1, ?_, ?_, ?_, ?_, ?_⟩
      · rw [e0]; simp only [psOf, hd, if_true]; exact Tr.setK_eq _ _ _ _ _
      · intro t q hq hall
        rw [get_set, if_neg (by have := slot_lt hq; omega)]
        exact r1 t q hq fun i o' hi => hall (i + 1) o' (by simpa using hi)
      · intro t q i o' hq hi hdd hdst hall
        rw [get_set, if_neg (by have := slot_lt hq; omega)]
        cases i with
        | zero => simp at hi; subst hi; rw [hd] at hdd; cases hdd
        | succ i => exact r2 t q i o' hq (by simpa using hi) hdd hdst fun i' o'' h1 h2 => hall (i' + 1) o'' (by omega) (by simpa using h2)
      · intro hall
        have := hall 0 o rfl; rw [hd] at this; cases this
      · intro i o' hi hdd huniq
        have hi0 : i = 0 := (huniq 0 o rfl hd).symm
        subst hi0
        rw [get_set, if_pos rfl, r3 fun i' o'' h2 => by
          cases h3 : isDef o''.op with
          | false => rfl
          | true => have := huniq (i' + 1) o'' (by simpa using h2) h3; omega]
        rfl
    | false =>
      have hT2 : ∃ T2, persistK ((o :: M).map (psOf K)) (.b tt x v rest) T k = k T2 ∧ (∀ m, (∀ t q, o.dst = some t → slotOf t K 0 = some q → m ≠ q) → Tr.get .no (Pa.ofNat m) T2 = Tr.get .no (Pa.ofNat m) T1) ∧
          (∀ t q, o.dst = some t → slotOf t K 0 = some q → Tr.get .no (Pa.ofNat q) T2 = v) := by
        cases hds : o.dst with
        | none => exact ⟨T1, by rw [e0]; simp [psOf, hd, hds]; rfl, fun m _ => rfl, fun t q h => by cases h⟩
        | some t0 =>
          cases hsl : slotOf t0 K 0 with
          | none => exact ⟨T1, by rw [e0]; simp [psOf, hd, hds, hsl]; rfl, fun m _ => rfl, fun t q h h2 => by cases h; rw [hsl] at h2; cases h2⟩
          | some q0 =>
            refine ⟨Tr.set .no v (Pa.ofNat q0) T1, by rw [e0]; simp [psOf, hd, hds, hsl]; exact Tr.setK_eq _ _ _ _ _, fun m hm => ?_, fun t q h h2 => ?_⟩
            · rw [get_set, if_neg (hm t0 q0 rfl hsl)]
            · cases h; rw [hsl] at h2; cases h2; rw [get_set, if_pos rfl]
      obtain ⟨T2, s3, s1, s2⟩ := hT2
      refine ⟨T2, s3, ?_, ?_, ?_, ?_⟩
      · intro t q hq hall
        rw [s1 q fun t' q' h1 h2 => ?_]
        · exact r1 t q hq fun i o' hi => hall (i + 1) o' (by simpa using hi)
        · rintro rfl
          have := slot_inj hq h2; subst this
          rcases hall 0 o rfl with h | h
          · rw [hd] at h; cases h
          · exact h h1
      · intro t q i o' hq hi hdd hdst hall
        cases i with
        | zero => simp at hi; subst hi; exact s2 t q hdst hq
        | succ i =>
          rw [s1 q fun t' q' h1 h2 => ?_]
          · exact r2 t q i o' hq (by simpa using hi) hdd hdst fun i' o'' h1 h2 => hall (i' + 1) o'' (by omega) (by simpa using h2)
          · rintro rfl
            have := slot_inj hq h2; subst this
            rcases hall 0 o (by omega) rfl with h | h
            · rw [hd] at h; cases h
            · exact h h1
      · intro hall
        rw [s1 K.length fun t' q' h1 h2 => by have := slot_lt h2; omega]
        exact r3 fun i o' hi => hall (i + 1) o' (by simpa using hi)
      · intro i o' hi hdd huniq
        rw [s1 K.length fun t' q' h1 h2 => by have := slot_lt h2; omega]
        cases i with
        | zero => simp at hi; subst hi; rw [hd] at hdd; cases hdd
        | succ i => exact r4 i o' (by simpa using hi) hdd fun i' o'' h1 h2 => by have := huniq (i' + 1) o'' (by simpa using h1) h2; omega
end Go.Ev

/- Regions, compiled: what they promise. -/
set_option autoImplicit false
namespace Go.Ev
open Go.RowKit

structure ARel (K : List Tmp) (N : Nat) (ι : Em) (T : Tr V) (a : Act) : Prop where
  size : a.tmps.size = N
  slots : ∀ t p, slotOf t K 0 = some p → vr ι (Tr.get .no (Pa.ofNat p) T) (a.eval (.tmp t))
  defers : All2 (dR ι) (Tr.get .no (Pa.ofNat K.length) T).list a.defers
abbrev CF := CE → Tr V → HS → Out
def exitOf : Nat → Exit
  | 0 => .normal
  | 1 => .ret
  | n + 2 => .exit n
def CodeOk (P : Program) (gz : Nat → Option Nat) (K : List Tmp) (N : Nat) (c : Code) (f : CF) : Prop :=
  ∀ (ce : CE), CeOk P gz ce → ∀ (T : Tr V) (h : HS) (e : Nat) (T' : Tr V) (h' : HS), f ce T h = .fin e T' h' → ∀ (ι : Em) (w : World) (a : Act), HRel ι h w → GRel gz ι → ARel K N ι T a →
    ∀ (Q : Exit → Act → World → Prop), (∀ ι' a' w', HRel ι' h' w' → Ext ι h w ι' h' w' → ARel K N ι' T' a' → Q (exitOf e) a' w') → c.wp P Q a w

noncomputable def reserveK (cnt : Nat) (h : HS) (k : Nat → HS → Out) : Out := HS.rec (motive := fun _ => Out) (fun t n => forceN (Nat.add n cnt) fun n' => k n (.mk t n')) h
theorem reserveK_eq (cnt : Nat) (h : HS) (k : Nat → HS → Out) : reserveK cnt h k = k h.next (.mk h.tree (h.next + cnt)) := by
  cases h with
  | mk t n => show forceN (Nat.add n cnt) (fun n' => k n (.mk t n')) = k n (.mk t (n + cnt)); rw [forceN_eq]; rfl
noncomputable def regionF (l : List It) (cnt : Nat) (ps : List Ps) : CF := fun ce T h => reserveK cnt h fun base h0 => runI l ce base T .nilL h0 fun env h' => persistK ps env T fun T' => .fin 0 T' h'
noncomputable def compRegion (P : Program) (gz : Nat → Option Nat) (K : List Tmp) (ops : Array Oper) (draw : Bool) : CF :=
  regionF (itemsOf P gz K ops (orderOf ops draw) draw) (stAt P gz K ops s00 (opsAt ops (orderOf ops draw)) (opsAt ops (orderOf ops draw)).length).off (((opsAt ops (orderOf ops draw)).map (·.2)).reverse.map (psOf K))
theorem push_len (vs : Nat → V) : ∀ m, (pushN .nilL vs m).list.length = m
  | 0 => rfl
  | m + 1 => by show (vs m :: (pushN .nilL vs m).list).length = _; simp [push_len vs m]
theorem opsAt_fst (ops : Array Oper) : ∀ l : List Nat, (∀ i ∈ l, i < ops.size) → (opsAt ops l).map (·.1) = l
  | [], _ => rfl
  | i :: l, h => by
    have hi := h i (by simp)
    have ih := opsAt_fst ops l fun j hj => h j (by simp [hj])
    have e : opsAt ops (i :: l) = (i, ops[i]) :: opsAt ops l := by
      unfold opsAt; rw [List.filterMap_cons]; simp [hi]
    rw [e]; simp [ih]
theorem opsAt_range (ops : Array Oper) : (opsAt ops (List.range ops.size)).map (·.1) = List.range ops.size := opsAt_fst ops _ fun i hi => List.mem_range.1 hi
theorem max_of {p : Nat → Prop} : ∀ (n : Nat), (∃ i, i < n ∧ p i) → ∃ i, i < n ∧ p i ∧ ∀ j, j < n → p j → j ≤ i
  | 0, ⟨i, h, _⟩ => by omega
  | n + 1, h => by
    by_cases hn : p n
    · exact ⟨n, by omega, hn, fun j hj _ => by omega⟩
    · obtain ⟨i, h1, h2⟩ := h
      have hi : i ≠ n := fun e => hn (e ▸ h2)
      obtain ⟨k, q1, q2, q3⟩ := max_of n ⟨i, by omega, h2⟩
      refine ⟨k, by omega, q2, fun j hj hp => ?_⟩
      have : j ≠ n := fun e => hn (e ▸ hp)
      exact q3 j (by omega) hp
section
variable {P : Program} {gz : Nat → Option Nat} {K : List Tmp} {ops : Array Oper} {draw : Bool} {N : Nat}
theorem compRegion_ok (hm : P.follows .mixedOrders = true) (hc : rgChk ops (orderOf ops draw) draw N = true) (id : Nat) : CodeOk P gz K N (.region id ops draw) (compRegion P gz K ops draw) := by
  intro ce hce T h e T' h' hh ι w a H G A Q hQ
  unfold compRegion regionF at hh
  rw [reserveK_eq] at hh
  obtain ⟨vs, hs, t0, t1, t2⟩ := runI_fin _ _ _ hh
  generalize hix : orderOf ops draw = ix at *
  have hlen : (itemsOf P gz K ops ix draw).length = (opsAt ops ix).length := items_len ..
  rw [hlen] at t2
  obtain ⟨T1, p0, p1, p2, p3, p4⟩ := persistK_ok K ((opsAt ops ix).map (·.2)).reverse (pushN .nilL vs (opsAt ops ix).length) T (fun T' => .fin 0 T' (hs (opsAt ops ix).length)) (by rw [push_len]; simp)
  rw [p0] at t2
  cases t2
  -- for every start of the world
  have main : ∀ w, HRel ι h w → ∃ c, (rgOf P gz K ops ix draw N ce h.next T vs hs).Ok ι a ∧ (rgOf P gz K ops ix draw N ce h.next T vs hs).Inv ι h w a (fun _ => False) ι 0 c a w := by
    intro w H
    have Kk : (rgOf P gz K ops ix draw N ce h.next T vs hs).Ok ι a := rg_ok (hix ▸ hc) hce t1 (fun t p e => A.slots t p e) (fun g n e => G g n e) A.size
    have hget : ∀ id, (hs 0).get id = h.get id := fun id => by rw [t0]; cases h; rfl
    have hnx : (hs 0).next = h.next + (stAt P gz K ops s00 (opsAt ops ix) (opsAt ops ix).length).off := by rw [t0]; rfl
    have H0 : HRel ι (hs 0) w := H.same hget (by omega)
    obtain ⟨c, c1, c2, c3, c4⟩ := Rg.next_eff (rgOf P gz K ops ix draw N ce h.next T vs hs) _ 0 (Nat.zero_add _)
    obtain ⟨s1, s2, s3⟩ := Rg.seg Kk (s := 0) (i := c) (Nat.zero_le _) c2 c3
    have hid : ∀ k id ob, (rgOf P gz K ops ix draw N ce h.next T vs hs).actM k id ob → h.next ≤ id ∧ id < (hs 0).next := fun k id ob hm => by
      obtain ⟨it, f, h1, a1, a2, a3, a4, a5, a6⟩ := hm
      obtain ⟨x, hx, rfl⟩ := rg_item a1
      have hk := (List.getElem?_eq_some_iff.1 hx).1
      have := st_off P gz K ops (opsAt ops ix) s00 k (opsAt ops ix).length x f hk hx a2
      have a4 : id = h.next + (stAt P gz K ops s00 (opsAt ops ix) k).off := a4
      omega
    have hnone : ∀ k id ob, (rgOf P gz K ops ix draw N ce h.next T vs hs).actM k id ob → ∀ ver, ι id ver = none := fun k id ob hm => (H.fresh id (hid k id ob hm).1).2
    have hmore : ∀ id, (hs c).get id = (hs 0).get id ∨ ((∀ ver, ι id ver = none) ∧ id < (hs 0).next ∧ h.next ≤ id) := fun id => by
      by_cases hm : ∃ k ob, 0 ≤ k ∧ k < c ∧ (rgOf P gz K ops ix draw N ce h.next T vs hs).actM k id ob
      · obtain ⟨k, ob, z1, z2, z3⟩ := hm
        exact .inr ⟨hnone k id ob z3, (hid k id ob z3).2, (hid k id ob z3).1⟩
      · exact .inl (s2 id fun k ob x y hm' => hm ⟨k, ob, x, y, hm'⟩)
    have E0 : Ext ι h w ι (hs 0) w := ⟨Sub.refl _, rfl, rfl, rfl, Nat.le_refl _, fun _ _ _ => rfl, (by
      rintro b ⟨j, m, a1, a2, rfl⟩ _
      rw [hget] at a1 a2; exact ⟨j, m, a1, a2, rfl⟩), fun _ _ h => h, fun id _ _ => hget id, by omega⟩
    refine ⟨c, Kk, ⟨H0.more s1 fun id => (hmore id).imp (fun h => h) (fun h => ⟨h.1, h.2.1⟩), E0.more s1 fun id => (hmore id).imp (fun h => h) (fun h => ⟨h.1, h.2.2⟩), A.size, fun t p h => h.elim, fun _ _ => rfl, ⟨Nat.zero_le _, c2⟩, c3, c4, .inl rfl,
      fun e he hae => absurd hae (c3 e (Nat.zero_le _) he), fun j h => h.elim, fun i j _ h => h.elim, fun k id ob hm _ => hnone k id ob hm, fun k id ob hm _ hk => s3 k id ob (Nat.zero_le _) hk hm, fun k id ob hm _ => ?_, fun k id ob hm => hid k id ob hm, fun _ => rfl, fun j it f _ _ _ h => h.elim⟩⟩
    show ((hs 0).get id).tag = 0
    rw [hget]; exact (H.fresh id (hid k id ob hm).1).1
  have hM : ∀ i : Nat, i < (opsAt ops ix).length → (((opsAt ops ix).map (·.2)).reverse)[i]? = ((opsAt ops ix)[(opsAt ops ix).length - 1 - i]?).map (·.2) := fun i hi => by
    rw [List.getElem?_reverse (by simpa using hi)]; simp
  have hMb : ∀ (i : Nat) o, (((opsAt ops ix).map (·.2)).reverse)[i]? = some o → i < (opsAt ops ix).length ∧ ∃ x, (opsAt ops ix)[(opsAt ops ix).length - 1 - i]? = some x ∧ x.2 = o := fun i o h => by
    have hi : i < (opsAt ops ix).length := by have := (List.getElem?_eq_some_iff.1 h).1; simpa using this
    rw [hM i hi] at h
    cases hx : (opsAt ops ix)[(opsAt ops ix).length - 1 - i]? with
    | none => rw [hx] at h; cases h
    | some x => rw [hx] at h; cases h; exact ⟨hi, x, rfl, rfl⟩
  have hnth : ∀ p, p < (opsAt ops ix).length → nth ((opsAt ops ix).length - 1 - p) (pushN .nilL vs (opsAt ops ix).length) = vs p := fun p hp => by
    rw [nth_push _ _ _ (by omega)]; congr 1; omega
  have hc' : rgChk ops ix draw N = true := hix ▸ hc
  have hdd : ∀ (p : Nat) x, (opsAt ops ix)[p]? = some x → isDef x.2.op = true → x.2.dst = none ∧ x.2.guard = none := fun p x hx hd => by
    have h1 := chk_one hc' hx
    unfold chk1 at h1
    simp only [Bool.and_eq_true] at h1
    have h4 := h1.2.1
    rw [hd] at h4
    simp at h4
    exact h4
  have full : ∀ w0, HRel ι h w0 → (rgOf P gz K ops ix draw N ce h.next T vs hs).Ok ι a → ∀ a' w', (rgOf P gz K ops ix draw N ce h.next T vs hs).Full ι h w0 a a' w' → ∃ ι', HRel ι' (hs (opsAt ops ix).length) w' ∧ Ext ι h w0 ι' (hs (opsAt ops ix).length) w' ∧ ARel K N ι' T' a' := by
    intro w0 Hw Kk a' w' hf
    obtain ⟨D, ι', c0, c, hD, I⟩ := hf
    have hn : (rgOf P gz K ops ix draw N ce h.next T vs hs).n = (opsAt ops ix).length := rg_n
    have hcn : c = (opsAt ops ix).length := by
      have hle := I.le.2
      rcases I.at_ with h1 | h1
      · omega
      · rcases Nat.lt_or_ge c (rgOf P gz K ops ix draw N ce h.next T vs hs).n with h2 | h2
        · have := I.inn c (hD c h2); omega
        · omega
    subst hcn
    refine ⟨ι', I.H, I.E, I.size, fun t q hq => ?_, ?_⟩
    · by_cases hw : ∃ p, p < (opsAt ops ix).length ∧ (rgOf P gz K ops ix draw N ce h.next T vs hs).dst p t
      · obtain ⟨p, q1, q2, q3⟩ := max_of _ hw
        have hv := I.last t p (hD p (by omega)) q2 fun r hr hrt => q3 r (by
          obtain ⟨y, hy, _⟩ := rg_dst.1 hrt
          exact (List.getElem?_eq_some_iff.1 hy).1) hrt
        obtain ⟨x, hx, hdx⟩ := rg_dst.1 q2
        have hnd : isDef x.2.op = false := by
          cases hd : isDef x.2.op with
          | false => rfl
          | true => have := (hdd p x hx hd).1; rw [hdx] at this; cases this
        have := p2 t q ((opsAt ops ix).length - 1 - p) x.2 hq (by rw [hM _ (by omega), show (opsAt ops ix).length - 1 - ((opsAt ops ix).length - 1 - p) = p from by omega, hx]; rfl) hnd hdx (fun i' o' h1 h2 => by
          obtain ⟨h3, y, hy, rfl⟩ := hMb i' o' h2
          refine .inr fun h4 => ?_
          have := q3 _ (by omega) (rg_dst.2 ⟨y, hy, h4⟩)
          omega)
        rw [this, hnth p q1]
        exact hv
      · have := p1 t q hq fun i o hi => by
          obtain ⟨h3, y, hy, rfl⟩ := hMb i o hi
          exact .inr fun h4 => hw ⟨_, by omega, rg_dst.2 ⟨y, hy, h4⟩⟩
        rw [this, I.keep t fun p _ hp => hw ⟨p, by obtain ⟨y, hy, _⟩ := rg_dst.1 hp; exact (List.getElem?_eq_some_iff.1 hy).1, hp⟩]
        exact vr_mono I.E.sub (A.slots t q hq)
    · by_cases hw : ∃ (p : Nat) (x : Nat × Oper), (opsAt ops ix)[p]? = some x ∧ isDef x.2.op = true
      · obtain ⟨p, x, hx, hd⟩ := hw
        have hp := (List.getElem?_eq_some_iff.1 hx).1
        have hit : (itemsOf P gz K ops ix draw)[p]? = some (mkIt P gz K ops draw (masks ops.toList) (stAt P gz K ops s00 (opsAt ops ix) p) x) := by
          unfold itemsOf; rw [items_get, hx]; rfl
        have hgd : (mkIt P gz K ops draw (masks ops.toList) (stAt P gz K ops s00 (opsAt ops ix) p) x).g = .none := by
          show gdOf ops _ x.2 = .none
          unfold gdOf; rw [(hdd p x hx hd).2]
        have hg1 : gateN (mkIt P gz K ops draw (masks ops.toList) (stAt P gz K ops s00 (opsAt ops ix) p) x).g (pushN .nilL vs p) T 1 := by rw [hgd]; rfl
        have htr := t1 p _ hit
        have hcd : ∃ f, (mkIt P gz K ops draw (masks ops.toList) (stAt P gz K ops s00 (opsAt ops ix) p) x).c = .d f := by
          have hcls : ∃ f, compOp P (compRef gz K (stAt P gz K ops s00 (opsAt ops ix) p).ds) x.2.op = .d f ∨ compOp P (compRef gz K (stAt P gz K ops s00 (opsAt ops ix) p).ds) x.2.op = .bad := by
            cases hop : x.2.op <;> rw [hop] at hd <;> simp [isDef] at hd
            rename_i cc
            show ∃ f, cDefer _ cc = .d f ∨ cDefer _ cc = .bad
            unfold cDefer
            split
            · exact ⟨_, .inl rfl⟩
            · exact ⟨fun _ _ _ => .no, .inr rfl⟩
          obtain ⟨f, hcls | hcls⟩ := hcls
          · exact ⟨f, hcls⟩
          · rcases htr with ⟨g0, _⟩ | ⟨_, g2⟩
            · have := gateN_uniq g0 hg1; cases this
            · have hb : (mkIt P gz K ops draw (masks ops.toList) (stAt P gz K ops s00 (opsAt ops ix) p) x).c = .bad := hcls
              rw [hb] at g2; exact g2.elim
        obtain ⟨f, hcd⟩ := hcd
        obtain ⟨d, q1, q2⟩ := I.dY p _ f hit hcd hg1 (hD p (by omega))
        have huniq : ∀ (i' : Nat) o', (((opsAt ops ix).map (·.2)).reverse)[i']? = some o' → isDef o'.op = true → i' = (opsAt ops ix).length - 1 - p := fun i' o' h1 h2 => by
          obtain ⟨h3, y, hy, rfl⟩ := hMb i' o' h1
          have hD1 : ((opsAt ops ix).filter fun x => isDef x.2.op).length ≤ 1 := by
            have := hc'
            unfold rgChk at this
            simp only [Bool.and_eq_true] at this
            exact ble_t this.2.1
          rcases Nat.lt_trichotomy p ((opsAt ops ix).length - 1 - i') with h | h | h
          · have := filter_two (p := fun x : Nat × Oper => isDef x.2.op) h hx hy hd h2; omega
          · omega
          · have := filter_two (p := fun x : Nat × Oper => isDef x.2.op) h hy hx h2 hd; omega
        have := p4 ((opsAt ops ix).length - 1 - p) x.2 (by rw [hM _ (by omega), show (opsAt ops ix).length - 1 - ((opsAt ops ix).length - 1 - p) = p from by omega, hx]; rfl) hd huniq
        rw [this, hnth p hp, q1]
        exact ⟨q2, A.defers.mono fun _ _ hh => dR_mono I.E.sub hh⟩
      · have hno : ∀ (i : Nat) o, (((opsAt ops ix).map (·.2)).reverse)[i]? = some o → isDef o.op = false := fun i o hi => by
          obtain ⟨h3, y, hy, rfl⟩ := hMb i o hi
          cases hd : isDef y.2.op with
          | false => rfl
          | true => exact absurd ⟨_, y, hy, hd⟩ hw
        rw [p3 hno, I.dN fun j it f h1 h2 _ _ => by
          obtain ⟨x, hx, rfl⟩ := rg_item h1
          exact hw ⟨j, x, hx, compOp_d h2⟩]
        exact A.defers.mono fun _ _ hh => dR_mono I.E.sub hh
  cases hdr : draw with
  | false =>
    subst hdr
    obtain ⟨c, Kk, I⟩ := main w H
    have hrange : (rgOf P gz K ops ix false N ce h.next T vs hs).ix = List.range ops.size := by
      have hr : ix = List.range ops.size := by
        unfold rgChk at hc'
        simp only [Bool.and_eq_true] at hc'
        simpa using hc'.2.2
      show (opsAt ops ix).map (·.1) = _
      rw [hr]; exact opsAt_range ops
    refine Rg.region Kk hrange (fun i j h => h) (fun a' w' hf => ?_) I id
    obtain ⟨ι', q1, q2, q3⟩ := full w H Kk a' w' hf
    exact hQ ι' a' w' q1 q2 q3
  | true =>
    subst hdr
    obtain ⟨c, Kk, I⟩ := main (drawnTo w (w.drawn + 1)) (H.drawn _)
    refine Rg.region_draw Kk (rg_ord hc') hm (fun a' w' hf => ?_) I id
    obtain ⟨ι', q1, q2, q3⟩ := full _ (H.drawn _) Kk a' w' hf
    exact hQ ι' a' w' q1 q2.drew q3
end
end Go.Ev

/- Code, compiled. -/
set_option autoImplicit false
namespace Go.Ev
open Go.RowKit

noncomputable def onFin (o : Out) (k : Nat → Tr V → HS → Out) : Out := Out.rec (motive := fun _ => Out) (fun c => .bad c) k o
theorem onFin_ok {o : Out} {k : Nat → Tr V → HS → Out} {e : Nat} {T : Tr V} {h : HS} (hh : onFin o k = .fin e T h) : ∃ e1 T1 h1, o = .fin e1 T1 h1 ∧ k e1 T1 h1 = .fin e T h := by
  cases o with
  | bad c => cases hh
  | fin e1 T1 h1 => exact ⟨e1, T1, h1, rfl, hh⟩
noncomputable def endF (n : Nat) : CF := fun _ T h => .fin n T h
noncomputable def badF : CF := fun _ _ _ => .bad 21
noncomputable def seqF (f g : CF) : CF := fun ce T h => onFin (f ce T h) fun e T1 h1 => Nat.rec (motive := fun _ => Out) (g ce T1 h1) (fun e' _ => .fin (Nat.succ e') T1 h1) e
noncomputable def onBoolO (v : V) (y n : Out) : Out := V.rec (motive := fun _ => Out) (fun t x => ifB (Nat.beq t 1) (Nat.rec (motive := fun _ => Out) n (fun _ _ => y) x) (.bad 22)) (fun _ _ _ _ _ _ => .bad 22) v
noncomputable def condF (r : RefB) (f g : CF) : CF := fun ce T h => onBoolO (r.get .nilL T) (f ce T h) (g ce T h)
noncomputable def blockF (id : Nat) (f : CF) : CF := fun ce T h => onFin (f ce T h) fun e T1 h1 => ifB (Nat.beq e (Nat.succ (Nat.succ id))) (.fin 0 T1 h1) (.fin e T1 h1)
noncomputable def loopN (f : CF) (ce : CE) (n : Nat) : Tr V → HS → Out :=
  Nat.rec (motive := fun _ => Tr V → HS → Out) (fun _ _ => .bad 23) (fun _ ih T h => onFin (f ce T h) fun e T1 h1 => Nat.rec (motive := fun _ => Out) (ih T1 h1) (fun e' _ => .fin (Nat.succ e') T1 h1) e) n
noncomputable def loopF (f : CF) : CF := fun ce T h => loopN f ce 1000000 T h
noncomputable def compCode (P : Program) (gz : Nat → Option Nat) (K : List Tmp) : Code → CF
  | .skip => endF 0
  | .region _ ops d => compRegion P gz K ops d
  | .seq a b => seqF (compCode P gz K a) (compCode P gz K b)
  | .cond c a b => condF (compRef gz K [] c) (compCode P gz K a) (compCode P gz K b)
  | .block id a => blockF id (compCode P gz K a)
  | .loop a => loopF (compCode P gz K a)
  | .scope a => compCode P gz K a
  | .exit id => endF (id + 2)
  | .label _ => endF 0
  | .ret => endF 1
  | _ => badF
def codeChk (N : Nat) : Code → Bool
  | .region _ ops d => rgChk ops (orderOf ops d) d N
  | .seq a b => codeChk N a && codeChk N b
  | .cond _ a b => codeChk N a && codeChk N b
  | .block _ a => codeChk N a
  | .loop a => codeChk N a
  | .scope a => codeChk N a
  | _ => true
section
variable {P : Program} {gz : Nat → Option Nat} {K : List Tmp} {N : Nat}
theorem ok_bad {c : Code} : CodeOk P gz K N c badF := by
  intro ce hce T h e T' h' hh; cases hh
theorem ok_seq {a b : Code} {f g : CF} (ha : CodeOk P gz K N a f) (hb : CodeOk P gz K N b g) : CodeOk P gz K N (.seq a b) (seqF f g) := by
  intro ce hce T h e T' h' hh ι w A H G R Q hQ
  obtain ⟨e1, T1, h1, q1, q2⟩ := onFin_ok hh
  refine wp_seq (ha ce hce T h e1 T1 h1 q1 ι w A H G R _ fun ι1 a1 w1 H1 E1 R1 => ?_)
  cases e1 with
  | zero =>
    refine hb ce hce T1 h1 e T' h' q2 ι1 w1 a1 H1 (G.mono E1.sub) R1 Q fun ι2 a2 w2 H2 E2 R2 => ?_
    exact hQ ι2 a2 w2 H2 (E1.trans E2) R2
  | succ e1 =>
    cases q2
    have := hQ ι1 a1 w1 H1 E1 R1
    cases e1 <;> exact this
theorem ok_cond {c : Operand} {a b : Code} {f g : CF} (ha : CodeOk P gz K N a f) (hb : CodeOk P gz K N b g) : CodeOk P gz K N (.cond c a b) (condF (compRef gz K [] c) f g) := by
  intro ce hce T h e T' h' hh ι w A H G R Q hQ
  have hv : vr ι ((compRef gz K [] c).get .nilL T) (A.eval c) := by
    cases c with
    | tmp t =>
      cases hs : slotOf t K 0 with
      | none => rw [cr_no rfl hs]; exact (trivial : True)
      | some p => rw [cr_slot rfl hs]; exact R.slots t p hs
    | const v => exact vr_of fun h => (constV_ok h).1
    | global g =>
      cases hg : gz g with
      | none => rw [cr_gno hg]; exact (trivial : True)
      | some n => rw [cr_gl hg]; exact G g n hg
    | func f => exact ⟨#[], #[], rfl, lr_nil, lr_nil⟩
  have hh : onBoolO ((compRef gz K [] c).get .nilL T) (f ce T h) (g ce T h) = .fin e T' h' := hh
  generalize (compRef gz K [] c).get .nilL T = v at *
  cases v with
  | b t x l r => cases hh
  | a t x =>
    rcases ifB_two (show ifB (Nat.beq t 1) (Nat.rec (motive := fun _ => Out) (g ce T h) (fun _ _ => f ce T h) x) (Out.bad 22) = .fin e T' h' from hh) with ⟨g1, g2⟩ | ⟨g1, g2⟩
    · have := beq_t g1; subst this
      have hb' := boolR hv
      cases x with
      | zero => exact wp_cond_false (by rw [hb']; rfl) (hb ce hce T h e T' h' g2 ι w A H G R Q hQ)
      | succ x => exact wp_cond_true (by rw [hb']; simp) (ha ce hce T h e T' h' g2 ι w A H G R Q hQ)
    · cases g2
theorem ok_block {id : Nat} {a : Code} {f : CF} (ha : CodeOk P gz K N a f) : CodeOk P gz K N (.block id a) (blockF id f) := by
  intro ce hce T h e T' h' hh ι w A H G R Q hQ
  obtain ⟨e1, T1, h1, q1, q2⟩ := onFin_ok hh
  refine wp_block (ha ce hce T h e1 T1 h1 q1 ι w A H G R _ fun ι1 a1 w1 H1 E1 R1 => ?_)
  rcases ifB_two q2 with ⟨g1, g2⟩ | ⟨g1, g2⟩
  · have := beq_t g1; subst this
    cases g2
    show (if id = id then Q .normal a1 w1 else _)
    rw [if_pos rfl]
    exact hQ ι1 a1 w1 H1 E1 R1
  · cases g2
    have hq := hQ ι1 a1 w1 H1 E1 R1
    match e, g1, hq with
    | 0, _, hq => exact hq
    | 1, _, hq => exact hq
    | n + 2, g1, hq =>
      show (if n = id then _ else Q (.exit n) a1 w1)
      rw [if_neg (fun e => by subst e; rw [beq_eq] at g1; simp at g1)]
      exact hq
theorem ok_loop {a : Code} {f : CF} (ha : CodeOk P gz K N a f) : CodeOk P gz K N (.loop a) (loopF f) := by
  intro ce hce T h e T' h' hh ι w A H G R Q hQ
  have key : ∀ (n : Nat) (T : Tr V) (h : HS) (ι : Em) (w : World) (A : Act), loopN f ce n T h = .fin e T' h' → HRel ι h w → GRel gz ι → ARel K N ι T A →
      (∀ ι' a' w', HRel ι' h' w' → Ext ι h w ι' h' w' → ARel K N ι' T' a' → Q (exitOf e) a' w') → Code.rounds P a Q n A w := by
    intro n
    induction n with
    | zero => intro T h ι w A hh; cases hh
    | succ n ih =>
      intro T h ι w A hh H G R hQ
      obtain ⟨e1, T1, h1, q1, q2⟩ := onFin_ok (show onFin (f ce T h) (fun e T1 h1 => Nat.rec (motive := fun _ => Out) (loopN f ce n T1 h1) (fun e' _ => .fin (Nat.succ e') T1 h1) e) = .fin e T' h' from hh)
      rw [rounds_succ]
      refine ha ce hce T h e1 T1 h1 q1 ι w A H G R _ fun ι1 a1 w1 H1 E1 R1 => ?_
      cases e1 with
      | zero => exact ih T1 h1 ι1 w1 a1 q2 H1 (G.mono E1.sub) R1 fun ι2 a2 w2 H2 E2 R2 => hQ ι2 a2 w2 H2 (E1.trans E2) R2
      | succ e1 =>
        cases q2
        have := hQ ι1 a1 w1 H1 E1 R1
        cases e1 <;> exact this
  exact wp_loop_rounds 1000000 (key 1000000 T h ι w A hh H G R hQ)
theorem compCode_ok (hm : P.follows .mixedOrders = true) : ∀ c : Code, codeChk N c = true → CodeOk P gz K N c (compCode P gz K c)
  | .skip, _ => by intro ce hce T h e T' h' hh ι w A H G R Q hQ; cases hh; exact wp_skip (hQ ι A w H (Ext.refl _ _ _) R)
  | .region id ops d, hc => compRegion_ok hm hc id
  | .seq a b, hc => by
    have h : (codeChk N a && codeChk N b) = true := hc
    rw [Bool.and_eq_true] at h
    exact ok_seq (compCode_ok hm a h.1) (compCode_ok hm b h.2)
  | .cond c a b, hc => by
    have h : (codeChk N a && codeChk N b) = true := hc
    rw [Bool.and_eq_true] at h
    exact ok_cond (compCode_ok hm a h.1) (compCode_ok hm b h.2)
  | .block id a, hc => ok_block (compCode_ok hm a hc)
  | .loop a, hc => ok_loop (compCode_ok hm a hc)
  | .exit id, _ => by intro ce hce T h e T' h' hh ι w A H G R Q hQ; cases hh; exact wp_exit (hQ ι A w H (Ext.refl _ _ _) R)
  | .label _, _ => by intro ce hce T h e T' h' hh ι w A H G R Q hQ; cases hh; exact wp_label (hQ ι A w H (Ext.refl _ _ _) R)
  | .ret, _ => by intro ce hce T h e T' h' hh ι w A H G R Q hQ; cases hh; exact wp_ret (hQ ι A w H (Ext.refl _ _ _) R)
  | .rangeFunc .., _ => ok_bad
  | .scope a, hc => by
    intro ce hce T h e T' h' hh ι w A H G R Q hQ
    refine wp_scope_straight (compCode_ok hm a hc ce hce T h e T' h' hh ι w A H G R _ fun ι1 a1 w1 H1 E1 R1 => ?_)
    have := hQ ι1 a1 w1 H1 E1 R1
    match e, this with
    | 0, h => exact h
    | 1, h => exact h
    | n + 2, h => exact h
  | .goto _, _ => ok_bad
  | .refuse _, _ => ok_bad
end
end Go.Ev

/- Functions, compiled: arguments and results. -/
set_option autoImplicit false
namespace Go.Ev
open Go.RowKit

/-- the arguments go to their slots; each is known or not -/
noncomputable def bindK (ps : List (Option Pa)) : V → Tr V → (Tr V → OpR) → OpR :=
  List.rec (motive := fun _ => V → Tr V → (Tr V → OpR) → OpR) (fun l T k => V.rec (motive := fun _ => OpR) (fun _ _ => k T) (fun _ _ _ _ _ _ => .bad 31) l)
    (fun p _ ih l T k => V.rec (motive := fun _ => OpR) (fun _ _ => .bad 32) (fun _ _ a r _ _ => Option.rec (motive := fun _ => OpR) (ih r T k) (fun q => Tr.setK .no a q T fun T' => ih r T' k) p) l) ps
noncomputable def parsOf (K : List Tmp) : Nat → Nat → List (Option Pa)
  | _, 0 => []
  | i, n + 1 => (match slotOf i K 0 with | some q => some (Pa.ofNat q) | none => none) :: parsOf K (i + 1) n
theorem bindK_ok {K : List Tmp} {r : V} {h' : HS} : ∀ (n i : Nat) (l : V) (T : Tr V) (k : Tr V → OpR), bindK (parsOf K i n) l T k = .ok r h' →
    l.list.length = n ∧ ∃ T', k T' = .ok r h' ∧ (∀ (t q : Nat), slotOf t K 0 = some q → i ≤ t → t < i + n → Tr.get .no (Pa.ofNat q) T' = l.list.getD (t - i) .no) ∧
      (∀ m, (∀ t : Nat, slotOf t K 0 = some m → ¬ (i ≤ t ∧ t < i + n)) → Tr.get .no (Pa.ofNat m) T' = Tr.get .no (Pa.ofNat m) T)
  | 0, i, .a t x, T, k, hh => ⟨rfl, T, hh, fun t q _ h1 h2 => by omega, fun _ _ => rfl⟩
  | 0, i, .b t x a q, T, k, hh => by cases hh
  | n + 1, i, .a t x, T, k, hh => by cases hh
  | n + 1, i, .b tt x a rest, T, k, hh => by
    have hh : Option.rec (motive := fun _ => OpR) (bindK (parsOf K (i + 1) n) rest T k) (fun q => Tr.setK .no a q T fun T' => bindK (parsOf K (i + 1) n) rest T' k) (match slotOf i K 0 with | some q => some (Pa.ofNat q) | none => none) = .ok r h' := hh
    cases hs : slotOf i K 0 with
    | none =>
      rw [hs] at hh
      obtain ⟨g1, T', g2, g3, g4⟩ := bindK_ok n (i + 1) rest T k hh
      refine ⟨by simp [V.list, g1], T', g2, fun t q hq h1 h2 => ?_, fun m hm => g4 m fun t ht h => hm t ht ⟨by omega, by omega⟩⟩
      have hti : t ≠ i := fun e => by subst e; rw [hs] at hq; cases hq
      rw [g3 t q hq (by omega) (by omega)]
      obtain ⟨d, hd⟩ : ∃ d, t - i = d + 1 := ⟨t - i - 1, by omega⟩
      rw [hd, show t - (i + 1) = d from by omega]; rfl
    | some q0 =>
      rw [hs] at hh
      have hh : Tr.setK .no a (Pa.ofNat q0) T (fun T' => bindK (parsOf K (i + 1) n) rest T' k) = .ok r h' := hh
      rw [Tr.setK_eq] at hh
      obtain ⟨g1, T', g2, g3, g4⟩ := bindK_ok n (i + 1) rest _ k hh
      refine ⟨by simp [V.list, g1], T', g2, fun t q hq h1 h2 => ?_, fun m hm => ?_⟩
      · by_cases hti : t = i
        · subst hti
          rw [hs] at hq; cases hq
          rw [g4 q0 fun u hu h => by have e : u = t := slot_inj hu hs; rw [e] at h; exact absurd h.1 (Nat.not_succ_le_self _), get_set, if_pos rfl]
          simp [V.list]
        · rw [g3 t q hq (by omega) (by omega)]
          obtain ⟨d, hd⟩ : ∃ d, t - i = d + 1 := ⟨t - i - 1, by omega⟩
          rw [hd, show t - (i + 1) = d from by omega]; rfl
      · rw [g4 m fun t ht h => hm t ht ⟨by omega, by omega⟩, get_set, if_neg]
        rintro rfl
        exact hm i hs ⟨by omega, by omega⟩
end Go.Ev

/- Functions, compiled: results. -/
set_option autoImplicit false
namespace Go.Ev
open Go.RowKit

inductive ResB where
  | bad
  | t (r : RefB)
  | c (r : RefB) (f : V → HS → OpR)
noncomputable def resOf (P : Program) (gz : Nat → Option Nat) (K : List Tmp) : ResultVar → ResB
  | .tmp t => .t (compRef gz K [] (.tmp t))
  | .cell a ty => match aggOf P ty, szOf P ty with
    | some false, _ => .c (compRef gz K [] (.tmp a)) load1
    | some true, some n => .c (compRef gz K [] (.tmp a)) (loadN n)
    | _, _ => .bad
noncomputable def onRV (o : OpR) (k : V → HS → OpR) : OpR := OpR.rec (motive := fun _ => OpR) (fun c => .bad c) (fun v h => k v h) o
noncomputable def resK (rs : List ResB) (T : Tr V) (h : HS) : (V → OpR) → OpR :=
  List.rec (motive := fun _ => (V → OpR) → OpR) (fun k => k .nilL) (fun r _ ih k => ResB.rec (motive := fun _ => OpR) (.bad 41) (fun r => forceV (r.get .nilL T) .no fun v => ih fun l => k (.cons v l))
    (fun r f => onRV (f (r.get .nilL T) h) fun v _ => forceV v .no fun v => ih fun l => k (.cons v l)) r) rs
/-- one value, or a tuple -/
noncomputable def retV (l : V) (h : HS) : OpR := V.rec (motive := fun _ => OpR) (fun _ _ => .ok (.tup .nilL) h) (fun _ _ a r _ _ => V.rec (motive := fun _ => OpR) (fun _ _ => .ok a h) (fun _ _ _ _ _ _ => .ok (.tup (.cons a r)) h) r) l
section
variable {P : Program} {gz : Nat → Option Nat} {K : List Tmp} {N : Nat} {ι : Em} {T : Tr V} {a : Act} {h h' : HS} {w : World} {r : V}
def resVal (tmps : Array Value) : ResultVar → Sem Value
  | .tmp t => pure (tmps.getD t undef)
  | .cell a t => do loadVar t (← asAddr (tmps.getD a undef))
theorem ref_tmp (R : ARel K N ι T a) (t : Tmp) : vr ι ((compRef gz K [] (.tmp t)).get .nilL T) (a.eval (.tmp t)) := by
  cases hs : slotOf t K 0 with
  | none => rw [cr_no rfl hs]; exact (trivial : True)
  | some p => rw [cr_slot rfl hs]; exact R.slots t p hs
theorem loadAt_cell {t : TypeId} {ad : Addr} {v : Value} {w' : World} (hh : (Instr.loadAt t (.pointer (some ad))).run P w = .ok v w') : (do loadVar t (← asAddr (.pointer (some ad))) : Sem Value).run P w = .ok v w' := by
  simpa [Instr.loadAt, Instr.sureAddr, asAddr] using hh
theorem onRV_ok {o : OpR} {k : V → HS → OpR} (hh : onRV o k = .ok r h') : ∃ v h1, o = .ok v h1 ∧ k v h1 = .ok r h' := by
  cases o with
  | bad c => cases hh
  | ok v h1 => exact ⟨v, h1, rfl, hh⟩
theorem ptr_of {v : V} {u : Value} {k : Nat → Nat → Nat → V → OpR} {c : Nat} (hh : onPtr v (.bad c) k = .ok r h') (hv : vr ι v u) : ∃ ad, u = .pointer (some ad) := by
  obtain ⟨id, ver, off, e, rfl, _⟩ := onPtr_ok hh
  obtain ⟨_, _, _, _, _, _, rfl⟩ := ptrR_of hv
  exact ⟨_, rfl⟩
theorem resK_ok (H : HRel ι h w) (R : ARel K N ι T a) : ∀ (rs : List ResultVar) (k : V → OpR), resK (rs.map (resOf P gz K)) T h k = .ok r h' →
    ∃ l us, k l = .ok r h' ∧ lr ι l us ∧ (rs.mapM (resVal a.tmps)).run P w = .ok us w
  | [], k, hh => ⟨.nilL, [], hh, lr_nil, by simp⟩
  | .tmp t :: rs, k, hh => by
    obtain ⟨hv, hk⟩ := forceV_ok (show forceV ((compRef gz K [] (.tmp t)).get .nilL T) .no (fun v => resK (rs.map (resOf P gz K)) T h fun l => k (.cons v l)) = .ok r h' from hh)
    obtain ⟨l, us, q1, q2, q3⟩ := resK_ok H R rs _ hk
    refine ⟨_, _, q1, lr_cons (ref_tmp R t) q2, ?_⟩
    simp [List.mapM_cons, resVal, q3, Act.eval]
  | .cell ad ty :: rs, k, hh => by
    have fin : ∀ (f : V → HS → OpR), (∀ v h1, f ((compRef gz K [] (.tmp ad)).get .nilL T) h = .ok v h1 → ∃ u, (do loadVar ty (← asAddr (a.tmps.getD ad undef)) : Sem Value).run P w = .ok u w ∧ vr ι v u) →
        onRV (f ((compRef gz K [] (.tmp ad)).get .nilL T) h) (fun v _ => forceV v .no fun v => resK (rs.map (resOf P gz K)) T h fun l => k (.cons v l)) = .ok r h' →
        ∃ l us, k l = .ok r h' ∧ lr ι l us ∧ ((ResultVar.cell ad ty :: rs).mapM (resVal a.tmps)).run P w = .ok us w := fun f hf hh => by
      obtain ⟨v, h1, q1, q2⟩ := onRV_ok hh
      obtain ⟨_, hk⟩ := forceV_ok q2
      obtain ⟨u, z1, z2⟩ := hf v h1 q1
      obtain ⟨l, us, p1, p2, p3⟩ := resK_ok H R rs _ hk
      refine ⟨_, _, p1, lr_cons z2 p2, ?_⟩
      have z1' : (resVal a.tmps (.cell ad ty)).run P w = .ok u w := z1
      simp [List.mapM_cons, z1', p3]
    have hr := ref_tmp (gz := gz) R ad
    have hev : a.eval (.tmp ad) = a.tmps.getD ad undef := rfl
    rw [List.map_cons] at hh
    cases hag : aggOf P ty with
    | none =>
      have e : resOf P gz K (.cell ad ty) = .bad := by unfold resOf; simp only [hag]
      rw [e] at hh; cases hh
    | some b =>
      cases b with
      | false =>
        have e : resOf P gz K (.cell ad ty) = .c (compRef gz K [] (.tmp ad)) load1 := by unfold resOf; simp only [hag]
        rw [e] at hh
        refine fin load1 (fun v h1 hl => ?_) hh
        obtain ⟨⟨u, z1, z2⟩, _⟩ := load1_ok (P := P) hl hag H hr
        obtain ⟨adr, hp⟩ := ptr_of hl hr
        rw [hp] at z1
        rw [hev] at hp
        exact ⟨u, by rw [hp]; exact loadAt_cell z1, z2⟩
      | true =>
        cases hsz : szOf P ty with
        | none =>
          have e : resOf P gz K (.cell ad ty) = .bad := by unfold resOf; simp only [hag, hsz]
          rw [e] at hh; cases hh
        | some n =>
          have e : resOf P gz K (.cell ad ty) = .c (compRef gz K [] (.tmp ad)) (loadN n) := by unfold resOf; simp only [hag, hsz]
          rw [e] at hh
          refine fin (loadN n) (fun v h1 hl => ?_) hh
          obtain ⟨⟨u, z1, z2⟩, _⟩ := loadN_ok (P := P) hl hag hsz H hr
          obtain ⟨adr, hp⟩ := ptr_of hl hr
          rw [hp] at z1
          rw [hev] at hp
          exact ⟨u, by rw [hp]; exact loadAt_cell z1, z2⟩
end
end Go.Ev

/- Functions, compiled: what a function answers. -/
set_option autoImplicit false
namespace Go.Ev
open Go.RowKit
section
variable {P : Program} {gz : Nat → Option Nat} {K : List Tmp} {N : Nat} {ι : Em} {T : Tr V} {a : Act} {h h' : HS} {w : World} {r : V}
theorem run_results {fn : Func} {us : List Value} (hm : (fn.results.toList.mapM (resVal a.tmps)).run P w = .ok us w) :
    (results fn a.tmps).run P w = .ok (if h : us.length = 1 then us[0] else .tuple us.toArray) w := by
  have he : results fn a.tmps = (do let vs ← fn.results.mapM (resVal a.tmps); pure (if h : vs.size = 1 then vs[0] else .tuple vs)) := by
    unfold results resVal
    rfl
  rw [he, Array.mapM_eq_mapM_toList]
  simp [hm]
theorem retV_ok {l : V} {us : List Value} (hh : retV l h = .ok r h') (hl : lr ι l us) : h' = h ∧ vr ι r (if h : us.length = 1 then us[0] else .tuple us.toArray) := by
  cases l with
  | a t x =>
    cases hh
    obtain ⟨_, rfl⟩ := (show t = 12 ∧ us = [] from hl)
    exact ⟨rfl, #[], rfl, lr_nil⟩
  | b t x v q =>
    obtain ⟨_, u, us', rfl, h1, h2⟩ := (show t = 12 ∧ ∃ v' vs', us = v' :: vs' ∧ vr ι v v' ∧ lr ι q vs' from hl)
    cases q with
    | a t' x' =>
      cases hh
      obtain ⟨_, rfl⟩ := (show t' = 12 ∧ us' = [] from h2)
      exact ⟨rfl, h1⟩
    | b t' x' v' q' =>
      cases hh
      obtain ⟨_, u2, us2, rfl, _⟩ := (show t' = 12 ∧ ∃ v' vs', us' = v' :: vs' ∧ _ from h2)
      refine ⟨rfl, ?_⟩
      rw [dif_neg (by simp)]
      exact ⟨_, rfl, lr_cons h1 h2⟩
end
end Go.Ev

/- Functions, compiled: the entry. -/
set_option autoImplicit false
namespace Go.Ev
open Go.RowKit
theorem entry_ok {K : List Tmp} {np N : Nat} {args : V} {k : Tr V → OpR} {r : V} {h' : HS} {ι : Em} {avs : Array Value} (hh : bindK (parsOf K 0 np) args .lf k = .ok r h') (hl : lr ι args avs.toList) (hN : np ≤ N) :
    ∃ T, k T = .ok r h' ∧ ARel K N ι T { tmps := avs ++ Array.replicate (N - avs.size) undef, defers := [] } := by
  obtain ⟨g1, T, g2, g3, g4⟩ := bindK_ok np 0 args .lf k hh
  have h2 := ((lr_iff ι args _).1 hl).2
  have hsz : avs.size = np := by have := h2.length; rw [g1] at this; simpa using this.symm
  refine ⟨T, g2, by simp; omega, fun (t : Nat) q hq => ?_, ?_⟩
  · have hq' : slotOf (t : Nat) K 0 = some q := hq
    by_cases ht : (t : Nat) < np
    · rw [g3 t q hq' (Nat.zero_le _) (by simpa using ht)]
      have hlt : (t : Nat) < args.list.length := by omega
      obtain ⟨u, hu, hr⟩ := h2.get t _ (List.getElem?_eq_getElem hlt)
      have hlt2 : (t : Nat) < avs.size := by omega
      have e1 : args.list.getD (t - 0) V.no = args.list[t] := by simp [List.getD_eq_getElem?_getD, List.getElem?_eq_getElem hlt]
      have e2 : Act.eval { tmps := avs ++ Array.replicate (N - avs.size) undef, defers := [] } (.tmp t) = u := by
        have hu' : avs[(t : Nat)]? = some u := by simpa using hu
        simp only [Act.eval, Array.getD_eq_getD_getElem?]
        rw [Array.getElem?_append_left hlt2, hu']; rfl
      rw [e1, e2]; exact hr
    · rw [g4 q fun (t' : Nat) ht' h => by have e : (t' : Nat) = t := slot_inj ht' hq; omega, Tr.get_lf]
      exact (trivial : True)
  · rw [g4 K.length fun (t' : Nat) ht' h => by have := slot_lt ht'; omega, Tr.get_lf]
    exact trivial
end Go.Ev
