/-
  The evaluator: calls with fuel, calls answered as before, a form that is worked out ahead.
-/
import Derived.Test.YtpokmmoleijbeaaGreatDoorEvC
import Derived.Recover
import Derived.Lib.Bytealg
import Derived.ProofKit
import Derived.LaidMore
import Derived.OpenShut
import Derived.MakeChecks
import Derived.Lib.LaidU8
/- Functions, compiled: bodies, deferred calls, calls with fuel. -/
set_option autoImplicit false
namespace Go.Ev
open Go.RowKit

/-- a function: none; one that is deferred alone and does nothing; parameters, code, the place of the deferred calls, results -/
inductive FnB where
  | no
  | rc (np : Nat)
  | mk (ps : List (Option Pa)) (code : CF) (pd : Pa) (rs : List ResB)
noncomputable def onFinR (o : Out) (k : Nat → Tr V → HS → OpR) : OpR := Out.rec (motive := fun _ => OpR) (fun c => .bad c) k o
noncomputable def rcOnly (tab : Tr FnB) (k : OpR) (l : V) : OpR :=
  V.rec (motive := fun _ => OpR) (fun _ _ => k) (fun _ _ d _ _ ih => onTagB 13 d .no fun f q _ => FnB.rec (motive := fun _ => OpR) (.bad 51) (fun np => ifB (Nat.beq (lenL q) np) ih (.bad 57)) (fun _ _ _ _ => .bad 52) (Tr.get .no (Pa.ofNat f) tab)) l
noncomputable def bodyB (tab : Tr FnB) (ce : CE) (args : V) (h : HS) (fb : FnB) : OpR :=
  FnB.rec (motive := fun _ => OpR) (.bad 53) (fun _ => .bad 54) (fun ps code pd rs => bindK ps args .lf fun T => onFinR (code ce T h) fun e T1 h1 =>
    ifB (Nat.ble e 1) (rcOnly tab (resK rs T1 h1 fun l => retV l h1) (Tr.get .no pd T1)) (.bad 55)) fb
noncomputable def compFn (P : Program) (gz : Nat → Option Nat) (K : List Tmp) (np : Nat) (c : Code) (rs : List ResultVar) : FnB :=
  .mk (parsOf K 0 np) (compCode P gz K c) (Pa.ofNat K.length) (rs.map (resOf P gz K))

def RcOk (P : Program) (f np : Nat) : Prop := ∀ (args : Array Value) (w : World), args.size = np → (∃ fn cb, P.funcs[f]? = some fn ∧ fn.name ≠ "runtime.NumGoroutine" ∧ fn.body = some cb) ∧
  CallsD P f args .returning w fun e u' w' => (∃ v, e = .returned v) ∧ u' = .returning ∧ ∃ n, w' = { w with drawn := n }
def FnOk (P : Program) (gz : Nat → Option Nat) (f : Nat) : FnB → Prop
  | .no => True
  | .rc np => RcOk P f np
  | .mk ps code pd rs => ∃ fn c K np, P.funcs[f]? = some fn ∧ fn.body = some c ∧ fn.name ≠ "runtime.NumGoroutine" ∧ np ≤ fn.ntmps ∧ ps = parsOf K 0 np ∧ CodeOk P gz K fn.ntmps c code ∧ pd = Pa.ofNat K.length ∧ rs = fn.results.toList.map (resOf P gz K)
theorem compFn_ok {P : Program} {gz : Nat → Option Nat} {f : Nat} {fn : Func} {c : Code} (K : List Tmp) (np : Nat) (hm : P.follows .mixedOrders = true) (hf : P.funcs[f]? = some fn) (hb : fn.body = some c) (hn : fn.name ≠ "runtime.NumGoroutine") (hp : np ≤ fn.ntmps)
    (hc : codeChk fn.ntmps c = true) : FnOk P gz f (compFn P gz K np c fn.results.toList) :=
  ⟨fn, c, K, np, hf, hb, hn, hp, rfl, compCode_ok hm c hc, rfl, rfl⟩
theorem onFinR_ok {o : Out} {k : Nat → Tr V → HS → OpR} {r : V} {h' : HS} (hh : onFinR o k = .ok r h') : ∃ e T h, o = .fin e T h ∧ k e T h = .ok r h' := by
  cases o with
  | bad c => cases hh
  | fin e T h => exact ⟨e, T, h, rfl, hh⟩
section
variable {P : Program} {gz : Nat → Option Nat} {tab : Tr FnB}
theorem rc_leaves (ht : ∀ f, FnOk P gz f (Tr.get .no (Pa.ofNat f) tab)) {ι : Em} {fn : Func} {tmps : Array Value} {R : Ending → World → Prop} {k : OpR} {r : V} {h' : HS} :
    ∀ (l : V) (ds : List Deferred) (w : World), rcOnly tab k l = .ok r h' → All2 (dR ι) l.list ds → (k = .ok r h' → ∀ n, Leaves P fn tmps R [] .returning { w with drawn := n }) → Leaves P fn tmps R ds .returning w
  | .a t x, [], w, hh, _, hk => hk hh w.drawn
  | .a t x, _ :: _, w, hh, h, _ => h.elim
  | .b t x d l, [], w, hh, h, _ => h.elim
  | .b t x d l, dd :: ds, w, hh, h, hk => by
    obtain ⟨f, p, q, rfl, h2⟩ := onTagB_ok (show onTagB 13 d .no (fun f q _ => FnB.rec (motive := fun _ => OpR) (.bad 51) (fun np => ifB (Nat.beq (lenL q) np) (rcOnly tab k l) (.bad 57)) (fun _ _ _ _ => .bad 52) (Tr.get .no (Pa.ofNat f) tab)) = .ok r h' from hh)
    obtain ⟨h3, h4⟩ := h
    obtain ⟨f', l', caps, e1, e2, e3⟩ := h3
    cases e1
    have hf := ht f
    cases hfb : Tr.get .no (Pa.ofNat f) tab with
    | no => rw [hfb] at h2; cases h2
    | mk a b c d => rw [hfb] at h2; cases h2
    | rc np =>
      rw [hfb] at h2 hf
      obtain ⟨h2a, h2⟩ := ifB_ok (c := 57) (show ifB (Nat.beq (lenL p) np) (rcOnly tab k l) (.bad 57) = .ok r h' from h2)
      have hsz : (dd.args ++ caps).size = np := by
        have := ((lr_iff ι p _).1 e3).2.length
        have h4 := beq_t h2a
        rw [lenL_eq] at h4
        rw [← h4, this]; simp
      obtain ⟨⟨fn', cb, hfn, hname, hbody⟩, _⟩ := hf (dd.args ++ caps) w hsz
      obtain ⟨tg, ar⟩ := dd
      simp only at e2 e3
      subst e2
      have hinv : (invoke (.fn (.func f) caps) ar).run P w = .ok (.enter f (ar ++ caps)) w := by
        simp [invoke, callFunc, program, Sem.run, hfn, hname, hbody]
      refine leaves_cons (by simp) hinv (CallsD.mono (hf (ar ++ caps) w hsz).2 fun e u' w' hR => ?_)
      obtain ⟨⟨v, rfl⟩, rfl, n, rfl⟩ := hR
      show Leaves P fn tmps R ds (settle .returning) _
      exact rc_leaves ht l ds _ h2 h4 fun hk' m => hk hk' m
theorem bodyB_fn (ht : ∀ f, FnOk P gz f (Tr.get .no (Pa.ofNat f) tab)) {ce : CE} (ih : CeOk P gz ce) {f : Nat} {fb : FnB} (hf : FnOk P gz f fb) {args : V} {h : HS} {r : V} {h' : HS} {ι : Em} {w : World} {avs : Array Value} (hh : bodyB tab ce args h fb = .ok r h')
    (H : HRel ι h w) (G : GRel gz ι) (hl : lr ι args avs.toList) : CallOk P f avs w fun | .returned u, w' => ∃ ι', HRel ι' h' w' ∧ Ext ι h w ι' h' w' ∧ vr ι' r u | _, _ => False := by
    cases fb with
    | no => cases hh
    | rc np => cases hh
    | mk ps code pd rs =>
      obtain ⟨fn, c, K, np, h1, h2, h3, h4, rfl, h5, rfl, rfl⟩ := hf
      refine .inl ⟨⟨fn, h1, by rw [h2]; rfl, h3⟩, calls_of_wp_defers h1 h2 ?_⟩
      obtain ⟨T, q1, q2⟩ := entry_ok (N := fn.ntmps) hh hl h4
      obtain ⟨e, T1, h1', q3, q4⟩ := onFinR_ok q1
      refine h5 ce ih T h e T1 h1' q3 ι w _ H G q2 _ fun ι' a' w' H' E' R' => ?_
      rcases ifB_ok (c := 55) q4 with ⟨g1, g2⟩
      have key : Leaves P fn a'.tmps (fun | .returned u, w'' => ∃ ι', HRel ι' h' w'' ∧ Ext ι h w ι' h' w'' ∧ vr ι' r u | _, _ => False) a'.defers .returning w' := by
        refine rc_leaves ht _ _ _ g2 R'.defers fun hk n => ?_
        have Hn : HRel ι' h1' { w' with drawn := n } := H'.drew n
        obtain ⟨l, us, p1, p2, p3⟩ := resK_ok (P := P) Hn R' fn.results.toList _ hk
        obtain ⟨rfl, p4⟩ := retV_ok p1 p2
        exact ⟨_, run_results p3, ι', Hn, by
          have := E'
          exact ⟨E'.sub, E'.os, E'.tape, E'.output, E'.size, E'.frame, E'.wrs, E'.dom, E'.keep, E'.next⟩, p4⟩
      have : e = 0 ∨ e = 1 := by have := ble_t g1; omega
      rcases this with rfl | rfl <;> exact key
theorem bodyB_ok (ht : ∀ f, FnOk P gz f (Tr.get .no (Pa.ofNat f) tab)) {ce : CE} (ih : CeOk P gz ce) : CeOk P gz (fun f args h => bodyB tab ce args h (Tr.get .no (Pa.ofNat f) tab)) :=
  fun f _ _ _ _ _ _ _ hh H G hl => bodyB_fn ht ih (ht f) hh H G hl
end
end Go.Ev

/- Values under other names: what is read of them. -/
set_option autoImplicit false
namespace Go.Ev
open Go.RowKit

/-- each object id by f, its version by g -/
noncomputable def mapId (f g : Nat → Nat) (v : V) : V :=
  V.rec (motive := fun _ => V)
    (fun t x => ifB (Nat.beq t 6) (Nat.rec (motive := fun _ => V) (.a 6 (f x)) (fun _ _ => .a 3 0) (g x)) (.a t x))
    (fun t x l r il ir => ifB (Nat.beq t 3) (onA l (.a 3 0) fun _ off => .b 3 (f x) (.a (g x) off) r)
      (ifB (Nat.beq t 5) (onA l (.a 3 0) fun _ off => .b 5 (f x) (.a (g x) off) r) (.b t x il ir))) v
theorem no3 {ι : Em} {u : Value} (h : vr ι (.a 3 0) u) : False := by
  have h : aR ι 3 0 u := h
  unfold aR at h
  obtain ⟨h, _⟩ := h; omega
theorem mapId_a (f g : Nat → Nat) (t x : Nat) (h : t ≠ 6) : mapId f g (.a t x) = .a t x := by
  have : Nat.beq t 6 = false := by rw [beq_eq]; simpa using h
  show ifB (Nat.beq t 6) _ _ = _
  rw [this]; rfl
theorem mapId_6 (f g : Nat → Nat) (x : Nat) : mapId f g (.a 6 x) = if g x = 0 then .a 6 (f x) else .a 3 0 := by
  show (Nat.rec (motive := fun _ => V) (.a 6 (f x)) (fun _ _ => .a 3 0) (g x) : V) = _
  cases g x <;> rfl
theorem mapId_p (f g : Nat → Nat) (x : Nat) (l r : V) : mapId f g (.b 3 x l r) = onA l (.a 3 0) fun _ off => .b 3 (f x) (.a (g x) off) r := rfl
theorem mapId_s (f g : Nat → Nat) (x : Nat) (l r : V) : mapId f g (.b 5 x l r) = onA l (.a 3 0) fun _ off => .b 5 (f x) (.a (g x) off) r := rfl
theorem mapId_b (f g : Nat → Nat) (t x : Nat) (l r : V) (h : t ≠ 3) (h' : t ≠ 5) : mapId f g (.b t x l r) = .b t x (mapId f g l) (mapId f g r) := by
  have h1 : Nat.beq t 3 = false := by rw [beq_eq]; simpa using h
  have h2 : Nat.beq t 5 = false := by rw [beq_eq]; simpa using h'
  show ifB (Nat.beq t 3) _ (ifB (Nat.beq t 5) _ (V.b t x (mapId f g l) (mapId f g r))) = _
  rw [h1, h2]; rfl
theorem aR_cong {ι ι' : Em} {t x : Nat} (h : t ≠ 6) {u : Value} (hu : aR ι t x u) : aR ι' t x u := by
  have e : aR ι' t x u = aR ι t x u := by
    unfold aR
    split <;> first | rfl | exact absurd rfl h | simp_all
  rw [e]; exact hu
theorem mapId_rel {ι1 ι2 : Em} {f1 g1 f2 g2 : Nat → Nat} (h0 : ∀ id, g2 id = 0) (h : ∀ id m, ι1 (f1 id) (g1 id) = some m → ι2 (f2 id) 0 = some m) (v : V) :
    (∀ u, vr ι1 (mapId f1 g1 v) u → vr ι2 (mapId f2 g2 v) u) ∧ (∀ us, lr ι1 (mapId f1 g1 v) us → lr ι2 (mapId f2 g2 v) us) := by
  induction v with
  | a t x =>
    by_cases ht : t = 6
    · subst ht
      rw [mapId_6, mapId_6, if_pos (h0 x)]
      refine ⟨fun u hu => ?_, fun us hu => ?_⟩
      · by_cases hg : g1 x = 0
        · rw [if_pos hg] at hu
          obtain ⟨e, he, hv⟩ := hu
          rw [← hg] at he
          exact ⟨e, h _ _ he, hv⟩
        · rw [if_neg hg] at hu; exact (no3 hu).elim
      · split at hu
        · obtain ⟨h, _⟩ := hu; cases h
        · obtain ⟨h, _⟩ := hu; cases h
    · rw [mapId_a _ _ _ _ ht, mapId_a _ _ _ _ ht]
      exact ⟨fun u hu => aR_cong ht hu, fun us hu => hu⟩
  | b t x l r ihl ihr =>
    by_cases h3 : t = 3
    · subst h3
      rw [mapId_p, mapId_p]
      cases l with
      | b => exact ⟨fun u hu => (no3 hu).elim, fun us hu => by obtain ⟨h, _⟩ := hu; cases h⟩
      | a ver off =>
        refine ⟨fun u hu => ?_, fun us hu => by obtain ⟨h, _⟩ := hu; cases h⟩
        obtain ⟨ver', off', xc, ext, m, a1, a2, a3, a4, a5⟩ := (show ptrR ι1 (f1 x) (.a (g1 x) off) r u from hu)
        cases a1
        show ptrR ι2 (f2 x) (.a (g2 x) off) r u
        exact ⟨_, _, xc, ext, m, rfl, a2, by rw [h0]; exact h _ _ a3, a4, a5⟩
    · by_cases h5 : t = 5
      · subst h5
        rw [mapId_s, mapId_s]
        cases l with
        | b => exact ⟨fun u hu => (no3 hu).elim, fun us hu => by obtain ⟨h, _⟩ := hu; cases h⟩
        | a ver off =>
          refine ⟨fun u hu => ?_, fun us hu => by obtain ⟨h, _⟩ := hu; cases h⟩
          obtain ⟨ver', off', len, sz, xc, ext, m, ad, c, a1, a2, a3, a4⟩ := (show sliceR ι1 (f1 x) (.a (g1 x) off) r u from hu)
          cases a1
          show sliceR ι2 (f2 x) (.a (g2 x) off) r u
          exact ⟨_, _, len, sz, xc, ext, m, ad, c, rfl, a2, by rw [h0]; exact h _ _ a3, a4⟩
      · rw [mapId_b _ _ _ _ _ _ h3 h5, mapId_b _ _ _ _ _ _ h3 h5]
        refine ⟨fun u hu => ?_, ?_⟩
        · show bR ι2 t x _ _ (VR ι2 _) (VR ι2 _) u
          have h' : bR ι1 t x _ _ (VR ι1 (mapId f1 g1 l)) (VR ι1 (mapId f1 g1 r)) u := hu
          unfold bR at *
          split at h'
          · exact absurd rfl h3
          · exact absurd rfl h5
          · obtain ⟨f, c, a1, a2, a3⟩ := h'
            exact ⟨f, c, a1, ihl.2 _ a2, ihr.2 _ a3⟩
          · obtain ⟨u', a1, a2⟩ := h'; exact ⟨u', a1, ihl.1 _ a2⟩
          · obtain ⟨u', a1, a2⟩ := h'; exact ⟨u', a1, ihl.2 _ a2⟩
          · obtain ⟨u', a1, a2⟩ := h'; exact ⟨u', a1, ihl.2 _ a2⟩
          · exact h'.elim
        · rintro us ⟨rfl, v, vs', rfl, hv, hr⟩
          exact ⟨rfl, v, vs', rfl, ihl.1 _ hv, ihr.2 _ hr⟩

/-- all ids are below n0, all versions 0 -/
noncomputable def lowB (n0 : Nat) (v : V) : Bool :=
  V.rec (motive := fun _ => Bool) (fun t x => ifB (Nat.beq t 6) (Nat.blt x n0) true)
    (fun t x l r il ir => ifB (Nat.beq t 3) (onA l false fun ver _ => ifB (Nat.blt x n0) (Nat.beq ver 0) false)
      (ifB (Nat.beq t 5) (onA l false fun ver _ => ifB (Nat.blt x n0) (Nat.beq ver 0) false) (ifB il ir false))) v
theorem lowB_rel {ι ι' : Em} {n0 : Nat} (h : ∀ id m, id < n0 → ι id 0 = some m → ι' id 0 = some m) (v : V) : lowB n0 v = true → (∀ u, vr ι v u → vr ι' v u) ∧ (∀ us, lr ι v us → lr ι' v us) := by
  induction v with
  | a t x =>
    intro hl
    by_cases ht : t = 6
    · subst ht
      have hx : x < n0 := blt_t (show Nat.blt x n0 = true from hl)
      exact ⟨fun u hu => by obtain ⟨e, he, hv⟩ := hu; exact ⟨e, h _ _ hx he, hv⟩, fun us hu => hu⟩
    · exact ⟨fun u hu => aR_cong ht hu, fun us hu => hu⟩
  | b t x l r ihl ihr =>
    intro hl
    by_cases h3 : t = 3
    · subst h3
      have hl : onA l false (fun ver _ => ifB (Nat.blt x n0) (Nat.beq ver 0) false) = true := hl
      cases l with
      | b => cases hl
      | a ver off =>
        obtain ⟨q1, q2⟩ := ifB_t (show ifB (Nat.blt x n0) (Nat.beq ver 0) false = true from hl)
        have := beq_t q2; subst this
        refine ⟨fun u hu => ?_, fun us hu => by obtain ⟨h, _⟩ := hu; cases h⟩
        obtain ⟨ver', off', xc, ext, m, a1, a2, a3, a4, a5⟩ := (show ptrR ι x (.a 0 off) r u from hu)
        cases a1
        exact ⟨_, _, xc, ext, m, rfl, a2, h _ _ (blt_t q1) a3, a4, a5⟩
    · by_cases h5 : t = 5
      · subst h5
        have hl : onA l false (fun ver _ => ifB (Nat.blt x n0) (Nat.beq ver 0) false) = true := hl
        cases l with
        | b => cases hl
        | a ver off =>
          obtain ⟨q1, q2⟩ := ifB_t (show ifB (Nat.blt x n0) (Nat.beq ver 0) false = true from hl)
          have := beq_t q2; subst this
          refine ⟨fun u hu => ?_, fun us hu => by obtain ⟨h, _⟩ := hu; cases h⟩
          obtain ⟨ver', off', len, sz, xc, ext, m, ad, c, a1, a2, a3, a4⟩ := (show sliceR ι x (.a 0 off) r u from hu)
          cases a1
          exact ⟨_, _, len, sz, xc, ext, m, ad, c, rfl, a2, h _ _ (blt_t q1) a3, a4⟩
      · have hl : ifB (Nat.beq t 3) (onA l false fun ver _ => ifB (Nat.blt x n0) (Nat.beq ver 0) false) (ifB (Nat.beq t 5) (onA l false fun ver _ => ifB (Nat.blt x n0) (Nat.beq ver 0) false) (ifB (lowB n0 l) (lowB n0 r) false)) = true := hl
        have e3 : Nat.beq t 3 = false := by rw [beq_eq]; simpa using h3
        have e5 : Nat.beq t 5 = false := by rw [beq_eq]; simpa using h5
        rw [e3, e5] at hl
        obtain ⟨q1, q2⟩ := ifB_t (show ifB (lowB n0 l) (lowB n0 r) false = true from hl)
        have ihl := ihl q1
        have ihr := ihr q2
        refine ⟨fun u hu => ?_, ?_⟩
        · show bR ι' t x l r (VR ι' l) (VR ι' r) u
          have h' : bR ι t x l r (VR ι l) (VR ι r) u := hu
          unfold bR at *
          split at h'
          · exact absurd rfl h3
          · exact absurd rfl h5
          · obtain ⟨f, c, a1, a2, a3⟩ := h'
            exact ⟨f, c, a1, ihl.2 _ a2, ihr.2 _ a3⟩
          · obtain ⟨u', a1, a2⟩ := h'; exact ⟨u', a1, ihl.1 _ a2⟩
          · obtain ⟨u', a1, a2⟩ := h'; exact ⟨u', a1, ihl.2 _ a2⟩
          · obtain ⟨u', a1, a2⟩ := h'; exact ⟨u', a1, ihl.2 _ a2⟩
          · exact h'.elim
        · rintro us ⟨rfl, v, vs', rfl, hv, hr⟩
          exact ⟨rfl, v, vs', rfl, ihl.1 _ hv, ihr.2 _ hr⟩

/-! trees -/
noncomputable def mapTr (k : V → V) (t : Tr V) : Tr V := Tr.rec (motive := fun _ => Tr V) .lf (fun _ v _ il ir => .nd il (k v) ir) t
noncomputable def trAll (p : V → Bool) (t : Tr V) : Bool := Tr.rec (motive := fun _ => Bool) true (fun _ v _ il ir => ifB il (ifB (p v) ir false) false) t
noncomputable def trEq (t : Tr V) : Tr V → Bool :=
  Tr.rec (motive := fun _ => Tr V → Bool) (fun u => Tr.rec (motive := fun _ => Bool) true (fun _ _ _ _ _ => false) u)
    (fun _ v _ il ir u => Tr.rec (motive := fun _ => Bool) false (fun l' v' r' _ _ => ifB (veq v v') (ifB (il l') (ir r') false) false) u) t
theorem get_mapTr {k : V → V} (hk : k .no = .no) (p : Pa) : ∀ t : Tr V, Tr.get .no p (mapTr k t) = k (Tr.get .no p t) := by
  induction p with
  | h => intro t; cases t with
    | lf => exact hk.symm
    | nd l v r => rfl
  | l p ih => intro t; cases t with
    | lf => exact hk.symm
    | nd l v r => exact ih l
  | r p ih => intro t; cases t with
    | lf => exact hk.symm
    | nd l v r => exact ih r
theorem val_mapTr {k : V → V} (hk : k .no = .no) (t : Tr V) : Tr.val .no (mapTr k t) = k (Tr.val .no t) := get_mapTr hk .h t
theorem trAll_get {p : V → Bool} (hp : p .no = true) (q : Pa) : ∀ t : Tr V, trAll p t = true → p (Tr.get .no q t) = true := by
  induction q with
  | h => intro t ht; cases t with
    | lf => exact hp
    | nd l v r => exact (ifB_t (ifB_t (show ifB (trAll p l) (ifB (p v) (trAll p r) false) false = true from ht)).2).1
  | l q ih => intro t ht; cases t with
    | lf => exact hp
    | nd l v r => exact ih l (ifB_t (show ifB (trAll p l) (ifB (p v) (trAll p r) false) false = true from ht)).1
  | r q ih => intro t ht; cases t with
    | lf => exact hp
    | nd l v r => exact ih r (ifB_t (ifB_t (show ifB (trAll p l) (ifB (p v) (trAll p r) false) false = true from ht)).2).2
theorem trEq_t : ∀ {t u : Tr V}, trEq t u = true → t = u := by
  intro t
  induction t with
  | lf => intro u h; cases u with
    | lf => rfl
    | nd => cases h
  | nd l v r ihl ihr => intro u h; cases u with
    | lf => cases h
    | nd l' v' r' =>
      obtain ⟨h1, h2⟩ := ifB_t (show ifB (veq v v') (ifB (trEq l l') (trEq r r') false) false = true from h)
      obtain ⟨h3, h4⟩ := ifB_t h2
      rw [veq_t h1, ihl h3, ihr h4]
noncomputable def obEq (a b : Ob) : Bool :=
  Ob.rec (motive := fun _ => Bool) (fun tag n el cur mn t => Ob.rec (motive := fun _ => Bool) (fun tag' n' el' cur' mn' t' =>
    ifB (Nat.beq tag tag') (ifB (Nat.beq n n') (ifB (Nat.beq el el') (ifB (Nat.beq cur cur') (ifB (Nat.beq mn mn') (ifB (trEq t t') true false) false) false) false) false) false) b) a
theorem obEq_t {a b : Ob} (h : obEq a b = true) : a = b := by
  cases a with
  | mk tag n el cur mn t => cases b with
    | mk tag' n' el' cur' mn' t' =>
      obtain ⟨h1, h⟩ := ifB_t (show ifB (Nat.beq tag tag') (ifB (Nat.beq n n') (ifB (Nat.beq el el') (ifB (Nat.beq cur cur') (ifB (Nat.beq mn mn') (ifB (trEq t t') true false) false) false) false) false) false = true from h)
      obtain ⟨h2, h⟩ := ifB_t h
      obtain ⟨h3, h⟩ := ifB_t h
      obtain ⟨h4, h⟩ := ifB_t h
      obtain ⟨h5, h⟩ := ifB_t h
      rw [beq_t h1, beq_t h2, beq_t h3, beq_t h4, beq_t h5, trEq_t (ifB_t h).1]
noncomputable def mapOb (k : V → V) (o : Ob) : Ob := Ob.rec (motive := fun _ => Ob) (fun tag n el _ _ t => .mk tag n el 0 0 (mapTr k t)) o
end Go.Ev

/- A call that was evaluated once, in a heap of its own, answers so in every heap. -/
set_option autoImplicit false
namespace Go.Ev
open Go.RowKit

noncomputable def g0Tree (gl : List (Nat × Ob)) : Tr Ob := List.rec (motive := fun _ => Tr Ob) .lf (fun p _ ih => Tr.set .none p.2 (Pa.ofNat p.1) ih) gl
noncomputable def h0Of (gl : List (Nat × Ob)) (n0 : Nat) : HS := .mk (g0Tree gl) n0
noncomputable def glChk (gl : List (Nat × Ob)) (h : HS) : Bool := List.rec (motive := fun _ => Bool) true (fun p _ ih => ifB (obEq (h.get p.1) p.2) ih false) gl
noncomputable def instL (f : Nat → Nat) (obs : List Ob) : HS → (HS → OpR) → OpR :=
  List.rec (motive := fun _ => HS → (HS → OpR) → OpR) (fun h k => k h) (fun o _ ih h k => HS.newK h (mapOb (mapId f fun _ => 0) o) fun _ h' => ih h' k) obs
noncomputable def shiftN (n0 base id : Nat) : Nat := ifB (Nat.blt id n0) id (Nat.add base (Nat.sub id n0))
noncomputable def memoE (gl : List (Nat × Ob)) (n0 f0 : Nat) (args0 vL : V) (obs : List Ob) : CE := fun f args h =>
  ifB (Nat.beq f f0) (ifB (veq args args0) (ifB (glChk gl h) (HS.rec (motive := fun _ => OpR) (fun _ nx => ifB (Nat.ble n0 nx) (instL (shiftN n0 nx) obs h fun h' => .ok (mapId (shiftN n0 nx) (fun _ => 0) vL) h') (.bad 61)) h) (.bad 62)) (.bad 63)) (.bad 64)
noncomputable def nthN (d n : Nat) : List Nat → Nat := Nat.rec (motive := fun _ => List Nat → Nat) (fun l => List.rec (motive := fun _ => Nat) d (fun a _ _ => a) l) (fun _ ih l => List.rec (motive := fun _ => Nat) d (fun _ r _ => ih r) l) n
noncomputable def rhoN (n0 nx : Nat) (ρ : List Nat) (id : Nat) : Nat := ifB (Nat.blt id n0) id (nthN nx (Nat.sub id n0) ρ)
noncomputable def verN (n0 : Nat) (h1 : HS) (ρ : List Nat) (id : Nat) : Nat := ifB (Nat.blt id n0) 0 (onOb (h1.get (rhoN n0 h1.next ρ id)) fun _ _ _ cur _ _ => cur)
noncomputable def obChk (k : V → V) (o o1 : Ob) : Bool :=
  onOb o fun tag n el _ _ t => onOb o1 fun tag1 n1 el1 cur1 mn1 t1 => ifB (Nat.beq tag tag1) (ifB (Nat.beq n n1) (ifB (Nat.beq el el1) (ifB (Nat.ble mn1 cur1)
    (ifB (Nat.beq tag 1) (veq (cellsFrom (mapTr k t) n 0) (cellsFrom t1 n 0)) (ifB (Nat.beq tag 2) (ifB (Nat.beq cur1 0) (veq (k (Tr.val .no t)) (Tr.val .no t1)) false) false)) false) false) false) false
noncomputable def notIn (r : Nat) (l : List Nat) : Bool := List.rec (motive := fun _ => Bool) true (fun a _ ih => ifB (Nat.beq r a) false ih) l
noncomputable def rhoChk (n0 : Nat) (h1 : HS) (k : V → V) (obs : List Ob) : List Nat → Bool :=
  List.rec (motive := fun _ => List Nat → Bool) (fun l => List.rec (motive := fun _ => Bool) true (fun _ _ _ => false) l)
    (fun o _ ih l => List.rec (motive := fun _ => Bool) false (fun r l' _ => ifB (Nat.ble n0 r) (ifB (Nat.blt r h1.next) (ifB (notIn r l') (ifB (obChk k o (h1.get r)) (ih l') false) false) false) false) l) obs
noncomputable def memoTest (ce : CE) (gl : List (Nat × Ob)) (n0 f0 : Nat) (args0 vL : V) (obs : List Ob) (ρ : List Nat) : Bool :=
  OpR.rec (motive := fun _ => Bool) (fun _ => false) (fun v1 h1 => ifB (veq (mapId (rhoN n0 h1.next ρ) (verN n0 h1 ρ) vL) v1) (rhoChk n0 h1 (mapId (rhoN n0 h1.next ρ) (verN n0 h1 ρ)) obs ρ) false) (ce f0 args0 (h0Of gl n0))
/-- what stands at the start: below n0, never written -/
noncomputable def glLow (n0 : Nat) (gl : List (Nat × Ob)) : Bool :=
  List.rec (motive := fun _ => Bool) true (fun p _ ih => ifB (Nat.blt p.1 n0) (onOb p.2 fun tag _ _ cur mn t => ifB (Nat.beq cur 1) (ifB (Nat.beq mn 0) (ifB (trAll (lowB n0) t) ih false) false) false) false) gl

theorem h0_get (gl : List (Nat × Ob)) (n0 id : Nat) : (h0Of gl n0).get id = .none ∨ ∃ o, (id, o) ∈ gl ∧ (h0Of gl n0).get id = o := by
  have e : (h0Of gl n0).get id = Tr.at_ .none (g0Tree gl) id := rfl
  rw [e]; clear e
  induction gl with
  | nil => exact .inl (Tr.get_lf _ _)
  | cons p gl ih =>
    have e : Tr.at_ .none (g0Tree (p :: gl)) id = if id = p.1 then p.2 else Tr.at_ .none (g0Tree gl) id := Tr.at_put .none (g0Tree gl) p.1 id p.2
    by_cases h : id = p.1
    · subst h
      rw [if_pos rfl] at e
      exact .inr ⟨p.2, by simp, e⟩
    · rw [if_neg h] at e
      rcases ih with h1 | ⟨o, h1, h2⟩
      · exact .inl (by rw [e, h1])
      · exact .inr ⟨o, List.mem_cons_of_mem _ h1, by rw [e, h2]⟩
theorem glChk_t {gl : List (Nat × Ob)} {h : HS} (hc : glChk gl h = true) : ∀ p ∈ gl, h.get p.1 = p.2 := by
  induction gl with
  | nil => intro p hp; cases hp
  | cons q gl ih =>
    obtain ⟨h1, h2⟩ := ifB_t (show ifB (obEq (h.get q.1) q.2) (glChk gl h) false = true from hc)
    intro p hp
    rcases List.mem_cons.1 hp with rfl | hp
    · exact obEq_t h1
    · exact ih h2 p hp
theorem glLow_t {n0 : Nat} {gl : List (Nat × Ob)} (hc : glLow n0 gl = true) : ∀ p ∈ gl, p.1 < n0 ∧ p.2.cur = 1 ∧ p.2.mn = 0 ∧ trAll (lowB n0) p.2.t = true := by
  induction gl with
  | nil => intro p hp; cases hp
  | cons q gl ih =>
    obtain ⟨i, o⟩ := q
    cases o with
    | mk tag n el cur mn t =>
    obtain ⟨h1, h2⟩ := ifB_t (show ifB (Nat.blt i n0) (ifB (Nat.beq cur 1) (ifB (Nat.beq mn 0) (ifB (trAll (lowB n0) t) (glLow n0 gl) false) false) false) false = true from hc)
    obtain ⟨h3, h2⟩ := ifB_t h2
    obtain ⟨h4, h2⟩ := ifB_t h2
    obtain ⟨h5, h2⟩ := ifB_t h2
    intro p hp
    rcases List.mem_cons.1 hp with rfl | hp
    · exact ⟨blt_t h1, beq_t h3, beq_t h4, h5⟩
    · exact ih h2 p hp
/-- objects, one behind the other -/
noncomputable def addL (f : Nat → Nat) : List Ob → HS → HS
  | [], h => h
  | o :: l, h => addL f l (h.add (mapOb (mapId f fun _ => 0) o))
theorem instL_eq (f : Nat → Nat) : ∀ (obs : List Ob) (h : HS) (k : HS → OpR), instL f obs h k = k (addL f obs h)
  | [], h, k => rfl
  | o :: l, h, k => by
    show HS.newK h (mapOb (mapId f fun _ => 0) o) (fun _ h' => instL f l h' k) = _
    rw [HS.newK_eq]; exact instL_eq f l _ k
theorem addL_next (f : Nat → Nat) : ∀ (obs : List Ob) (h : HS), (addL f obs h).next = h.next + obs.length
  | [], h => rfl
  | o :: l, h => by show (addL f l (h.add _)).next = _; rw [addL_next f l, HS.next_add]; simp; omega
theorem addL_get (f : Nat → Nat) : ∀ (obs : List Ob) (h : HS) (id : Nat), (addL f obs h).get id = if h.next ≤ id ∧ id < h.next + obs.length then mapOb (mapId f fun _ => 0) (obs.getD (id - h.next) .none) else h.get id
  | [], h, id => by rw [if_neg (by simp)]; rfl
  | o :: l, h, id => by
    show (addL f l (h.add _)).get id = _
    rw [addL_get f l, HS.next_add, HS.get_add]
    by_cases h1 : h.next + 1 ≤ id ∧ id < h.next + 1 + l.length
    · rw [if_pos h1, if_pos (by simp; omega)]
      obtain ⟨d, hd⟩ : ∃ d, id - h.next = d + 1 := ⟨id - h.next - 1, by omega⟩
      rw [hd, show id - (h.next + 1) = d from by omega]; rfl
    · rw [if_neg h1]
      by_cases h2 : id = h.next
      · subst h2; rw [if_pos rfl, if_pos (by simp)]; simp
      · rw [if_neg h2, if_neg (by simp; omega)]
theorem nthN_eq (d : Nat) : ∀ (n : Nat) (l : List Nat), nthN d n l = l.getD n d
  | 0, [] => rfl
  | 0, a :: l => rfl
  | n + 1, [] => rfl
  | n + 1, a :: l => by show nthN d n l = _; rw [nthN_eq d n l]; rfl
theorem notIn_t {r : Nat} {l : List Nat} (h : notIn r l = true) : r ∉ l := by
  induction l with
  | nil => simp
  | cons a l ih =>
    have h : ifB (Nat.beq r a) false (notIn r l) = true := h
    cases hb : Nat.beq r a with
    | true => rw [hb] at h; cases h
    | false =>
      rw [hb] at h
      intro hm
      rcases List.mem_cons.1 hm with rfl | hm
      · rw [beq_eq] at hb; simp at hb
      · exact ih h hm
structure RhoOk (n0 : Nat) (h1 : HS) (k : V → V) (obs : List Ob) (ρ : List Nat) : Prop where
  len : obs.length = ρ.length
  ran : ∀ (j : Nat) o r, obs[j]? = some o → ρ[j]? = some r → n0 ≤ r ∧ r < h1.next ∧ obChk k o (h1.get r) = true
  inj : ∀ (i j r : Nat), ρ[i]? = some r → ρ[j]? = some r → i = j
theorem rhoChk_t {n0 : Nat} {h1 : HS} {k : V → V} : ∀ {obs : List Ob} {ρ : List Nat}, rhoChk n0 h1 k obs ρ = true → RhoOk n0 h1 k obs ρ
  | [], [], _ => ⟨rfl, by simp, by simp⟩
  | [], _ :: _, h => by cases h
  | _ :: _, [], h => by cases h
  | o :: obs, r :: ρ, h => by
    obtain ⟨q1, h⟩ := ifB_t (show ifB (Nat.ble n0 r) (ifB (Nat.blt r h1.next) (ifB (notIn r ρ) (ifB (obChk k o (h1.get r)) (rhoChk n0 h1 k obs ρ) false) false) false) false = true from h)
    obtain ⟨q2, h⟩ := ifB_t h
    obtain ⟨q3, h⟩ := ifB_t h
    obtain ⟨q4, h⟩ := ifB_t h
    have ih := rhoChk_t h
    have q3 := notIn_t q3
    refine ⟨by simp [ih.len], ?_, ?_⟩
    · intro j o' r' ho hr
      cases j with
      | zero => simp at ho hr; subst ho; subst hr; exact ⟨ble_t q1, blt_t q2, q4⟩
      | succ j => exact ih.ran j o' r' (by simpa using ho) (by simpa using hr)
    · intro i j r' hi hj
      cases i with
      | zero =>
        cases j with
        | zero => rfl
        | succ j =>
          simp at hi hj; subst hi
          exact absurd (List.mem_of_getElem? hj) q3
      | succ i =>
        cases j with
        | zero =>
          simp at hi hj; subst hj
          exact absurd (List.mem_of_getElem? hi) q3
        | succ j => rw [ih.inj i j r' (by simpa using hi) (by simpa using hj)]
structure ObChk (k : V → V) (o o1 : Ob) : Prop where
  tag : o.tag = o1.tag
  n : o.n = o1.n
  el : o.el = o1.el
  mn : o1.mn ≤ o1.cur
  kind : (o.tag = 1 ∧ ∀ i, i < o.n → Tr.at_ .no (mapTr k o.t) i = Tr.at_ .no o1.t i) ∨ (o.tag = 2 ∧ o1.cur = 0 ∧ k (Tr.val .no o.t) = Tr.val .no o1.t)
theorem obChk_t {k : V → V} {o o1 : Ob} (h : obChk k o o1 = true) : ObChk k o o1 := by
  cases o with
  | mk tag n el cur mn t => cases o1 with
    | mk tag1 n1 el1 cur1 mn1 t1 =>
      obtain ⟨q1, h⟩ := ifB_t (show ifB (Nat.beq tag tag1) (ifB (Nat.beq n n1) (ifB (Nat.beq el el1) (ifB (Nat.ble mn1 cur1)
        (ifB (Nat.beq tag 1) (veq (cellsFrom (mapTr k t) n 0) (cellsFrom t1 n 0)) (ifB (Nat.beq tag 2) (ifB (Nat.beq cur1 0) (veq (k (Tr.val .no t)) (Tr.val .no t1)) false) false)) false) false) false) false = true from h)
      obtain ⟨q2, h⟩ := ifB_t h
      obtain ⟨q3, h⟩ := ifB_t h
      obtain ⟨q4, h⟩ := ifB_t h
      refine ⟨beq_t q1, beq_t q2, beq_t q3, ble_t q4, ?_⟩
      rcases ifB_two h with ⟨g1, g2⟩ | ⟨g1, g2⟩
      · refine .inl ⟨beq_t g1, fun i hi => ?_⟩
        have hi : i < n := hi
        have e := congrArg V.list (veq_t g2)
        rw [list_cellsFrom, list_cellsFrom] at e
        have := congrArg (fun l => l[i]?) e
        simp only [List.getElem?_map, List.getElem?_range hi, Option.map_some, Option.some.injEq, Nat.zero_add] at this
        exact this
      · obtain ⟨g2, g3⟩ := ifB_t g2
        obtain ⟨g4, g5⟩ := ifB_t g3
        exact .inr ⟨beq_t g2, beq_t g4, veq_t g5⟩
theorem All2.map_left {α β : Type} {R : α → β → Prop} {l : List α} {m : List β} (h : All2 R l m) {f : α → α} {S : α → β → Prop} (hs : ∀ a b, a ∈ l → R a b → S (f a) b) : All2 S (l.map f) m := by
  induction l generalizing m with
  | nil => cases m with
    | nil => trivial
    | cons => exact h.elim
  | cons a l ih => cases m with
    | nil => exact h.elim
    | cons b m => exact ⟨hs a b (by simp) h.1, ih h.2 fun a b hm => hs a b (by simp [hm])⟩
end Go.Ev

/- A call that was evaluated once, in a heap of its own, answers so in every heap: the proof. -/
set_option autoImplicit false
namespace Go.Ev
open Go.RowKit

theorem isL_mapId {f g : Nat → Nat} : ∀ {l : V}, isL (mapId f g l) → isL l ∧ (mapId f g l).list = l.list.map (mapId f g)
  | .a t x, h => by
    by_cases ht : t = 6
    · subst ht
      rw [mapId_6] at h
      split at h <;> exact absurd (show _ = 12 from h) (by decide)
    · rw [mapId_a _ _ _ _ ht] at h ⊢
      exact ⟨h, rfl⟩
  | .b t x l r, h => by
    by_cases h3 : t = 3
    · subst h3
      rw [mapId_p] at h
      cases l with
      | a => exact absurd h.1 (by decide)
      | b => exact absurd (show (3 : Nat) = 12 from h) (by decide)
    · by_cases h5 : t = 5
      · subst h5
        rw [mapId_s] at h
        cases l with
        | a => exact absurd h.1 (by decide)
        | b => exact absurd (show (3 : Nat) = 12 from h) (by decide)
      · rw [mapId_b _ _ _ _ _ _ h3 h5] at h ⊢
        obtain ⟨h1, h2⟩ := h
        obtain ⟨h4, h6⟩ := isL_mapId h2
        exact ⟨⟨h1, h4⟩, by show mapId f g l :: (mapId f g r).list = _; rw [h6]; rfl⟩
theorem isL_mapId' {f g : Nat → Nat} : ∀ {l : V}, isL l → isL (mapId f g l)
  | .a t x, h => by
    have h : t = 12 := h
    subst h; rw [mapId_a _ _ _ _ (by decide)]; rfl
  | .b t x l r, h => by
    obtain ⟨h1, h2⟩ := h
    subst h1
    rw [mapId_b _ _ _ _ _ _ (by decide) (by decide)]
    exact ⟨rfl, isL_mapId' h2⟩
theorem cons_mapId {f g : Nat → Nat} {e k v : V} (h : mapId f g e = .b 12 0 k v) : ∃ k0 v0, e = .b 12 0 k0 v0 ∧ k = mapId f g k0 ∧ v = mapId f g v0 := by
  cases e with
  | a t x =>
    by_cases ht : t = 6
    · subst ht; rw [mapId_6] at h; split at h <;> cases h
    · rw [mapId_a _ _ _ _ ht] at h; cases h
  | b t x l r =>
    by_cases h3 : t = 3
    · subst h3; rw [mapId_p] at h; cases l <;> cases h
    · by_cases h5 : t = 5
      · subst h5; rw [mapId_s] at h; cases l <;> cases h
      · rw [mapId_b _ _ _ _ _ _ h3 h5] at h
        cases h
        exact ⟨l, r, rfl, rfl, rfl⟩
theorem entR_mapId {ι1 ι2 : Em} {f1 g1 f2 g2 : Nat → Nat} (h0 : ∀ id, g2 id = 0) (h : ∀ id m, ι1 (f1 id) (g1 id) = some m → ι2 (f2 id) 0 = some m) {e : V} {x : MapEntry} (he : entR ι1 (mapId f1 g1 e) x) : entR ι2 (mapId f2 g2 e) x := by
  obtain ⟨k, v, e1, e2, e3⟩ := he
  obtain ⟨k0, v0, rfl, rfl, rfl⟩ := cons_mapId e1
  rw [mapId_b _ _ _ _ _ _ (by decide) (by decide)]
  exact ⟨_, _, rfl, (mapId_rel h0 h k0).1 _ e2, (mapId_rel h0 h v0).1 _ e3⟩
theorem lowB_cons {n0 x : Nat} {k v : V} (h : lowB n0 (.b 12 x k v) = true) : lowB n0 k = true ∧ lowB n0 v = true := ifB_t (show ifB (lowB n0 k) (lowB n0 v) false = true from h)
theorem lowB_list {n0 : Nat} : ∀ {l : V}, isL l → lowB n0 l = true → ∀ e ∈ l.list, lowB n0 e = true
  | .a t x, _, _, e, he => by cases he
  | .b t x a r, hi, h, e, he => by
    obtain ⟨rfl, hi⟩ := hi
    obtain ⟨h1, h2⟩ := lowB_cons h
    rcases List.mem_cons.1 he with rfl | he
    · exact h1
    · exact lowB_list hi h2 e he
theorem lowB_no (n0 : Nat) : lowB n0 .no = true := rfl
theorem mapId_no (f g : Nat → Nat) : mapId f g .no = .no := rfl

section
variable {P : Program} {gz : Nat → Option Nat} {ce : CE} {gl : List (Nat × Ob)} {n0 f0 : Nat} {args0 vL : V} {obs : List Ob} {ρ : List Nat}
/-- what is known at the start -/
def lowE (n0 : Nat) (ι : Em) : Em := fun id ver => if id < n0 ∧ ver = 0 then ι id 0 else none
theorem lowE_some {ι : Em} {id ver : Nat} {m : Emb} (h : lowE n0 ι id ver = some m) : id < n0 ∧ ver = 0 ∧ ι id ver = some m := by
  unfold lowE at h
  split at h
  · rename_i hc
    obtain ⟨h1, h2⟩ := hc
    subst h2
    exact ⟨h1, rfl, h⟩
  · cases h
theorem lowE_of {ι : Em} {id : Nat} {m : Emb} (hi : id < n0) (h : ι id 0 = some m) : lowE n0 ι id 0 = some m := by unfold lowE; rw [if_pos ⟨hi, rfl⟩]; exact h
theorem lowE_1 {ι : Em} {id : Nat} : lowE n0 ι id 1 = none := by unfold lowE; rw [if_neg (by simp)]
theorem start_rel {ι : Em} {h : HS} {w : World} (H : HRel ι h w) (hlow : glLow n0 gl = true) (hg : glChk gl h = true) : HRel (lowE n0 ι) (h0Of gl n0) w where
  cells := fun id ver m ht hv hm => by
    obtain ⟨h1, rfl, h2⟩ := lowE_some hm
    rcases h0_get gl n0 id with e | ⟨o, hin, e⟩
    · rw [e] at ht; cases ht
    · have e2 := glChk_t hg _ hin
      obtain ⟨_, c1, c2, c3⟩ := glLow_t hlow _ hin
      simp only at e2 c1 c2 c3
      rw [e] at ht hv ⊢
      obtain ⟨cs, el, fz, q1, q2, q3, q4, q5, q6⟩ := H.cells id 0 m (by rw [e2]; exact ht) (by rw [e2]; exact hv) h2
      rw [e2] at q4 q5 q6
      refine ⟨cs, el, fz, q1, q2, q3, q4, q5, fun i hi => ?_⟩
      obtain ⟨u, u1, u2⟩ := q6 i hi
      exact ⟨u, u1, (lowB_rel (fun id m hi hm => lowE_of hi hm) _ (trAll_get (lowB_no n0) _ _ c3)).1 _ u2⟩
  maps := fun id m ht hm => by
    obtain ⟨h1, _, h2⟩ := lowE_some hm
    rcases h0_get gl n0 id with e | ⟨o, hin, e⟩
    · rw [e] at ht; cases ht
    · have e2 := glChk_t hg _ hin
      obtain ⟨_, c1, c2, c3⟩ := glLow_t hlow _ hin
      simp only at e2 c1 c2 c3
      rw [e] at ht ⊢
      obtain ⟨es, c, q1, _, q2, q4⟩ := H.maps id m (by rw [e2]; exact ht) h2
      rw [e2] at q2 q4
      obtain ⟨q3, lst, q5, q6, q7⟩ := q2 (by rw [c1]; decide)
      have hl : lowB n0 (Tr.val .no o.t) = true := trAll_get (lowB_no n0) .h _ c3
      have hm := lowB_list q3 hl
      refine ⟨es, c, q1, fun h0 => absurd (h0.symm.trans c1) (by decide), fun _ => ⟨q3, lst, q5, ?_, q7⟩, q4⟩
      have := q6.map_left (f := fun e => e) (S := entR (lowE n0 ι)) fun e x he hr => by
        obtain ⟨k, v, rfl, r1, r2⟩ := hr
        obtain ⟨l1, l2⟩ := lowB_cons (hm _ he)
        exact ⟨k, v, rfl, (lowB_rel (fun id m hi hm => lowE_of hi hm) _ l1).1 _ r1, (lowB_rel (fun id m hi hm => lowE_of hi hm) _ l2).1 _ r2⟩
      simpa using this
  inj := fun id ver m id' ver' m' a b c => H.inj id ver m id' ver' m' (lowE_some a).2.2 (lowE_some b).2.2 c
  fresh := fun id hid => by
    have hid : n0 ≤ id := hid
    refine ⟨?_, fun ver => ?_⟩
    · rcases h0_get gl n0 id with e | ⟨o, hin, e⟩
      · rw [e]; rfl
      · have := (glLow_t hlow _ hin).1; simp only at this; omega
    · unfold lowE; rw [if_neg (by omega)]
  top := fun id ver hv => by
    unfold lowE
    split
    · omega
    · rfl
  bound := fun id ver m hm => H.bound id ver m (lowE_some hm).2.2
theorem start_wr {ι : Em} (hlow : glLow n0 gl = true) (b : Nat) : ¬ wr (lowE n0 ι) (h0Of gl n0) b := by
  rintro ⟨id, m, h1, h2, _⟩
  rcases h0_get gl n0 id with e | ⟨o, hin, e⟩
  · rw [e] at h1; exact h1 rfl
  · rw [e] at h2
    have := (glLow_t hlow _ hin).2.1
    simp only at this
    rw [this, lowE_1] at h2; cases h2

theorem memo_ok (hce : CeOk P gz ce) (ht : memoTest ce gl n0 f0 args0 vL obs ρ = true) (ha : lowB n0 args0 = true) (hlow : glLow n0 gl = true) (hgz : ∀ g n, gz g = some n → g < n0) : CeOk P gz (memoE gl n0 f0 args0 vL obs) := by
  intro f args h r h' ι w avs hh H G hl
  unfold memoE at hh
  obtain ⟨c1, hh1⟩ := ifB_ok hh
  obtain ⟨c2, hh2⟩ := ifB_ok hh1
  obtain ⟨c3, hh3⟩ := ifB_ok hh2
  clear hh hh1 hh2
  have := beq_t c1; subst this
  have := veq_t c2; subst this
  have hh : ifB (Nat.ble n0 h.next) (instL (shiftN n0 h.next) obs h fun h' => OpR.ok (mapId (shiftN n0 h.next) (fun _ => 0) vL) h') (.bad 61) = .ok r h' := by
    cases h; exact hh3
  clear hh3
  obtain ⟨c4, hh⟩ := ifB_ok hh
  have c4 := ble_t c4
  rw [instL_eq] at hh
  cases hh
  -- the run
  have H0 := start_rel H hlow c3
  have G0 : GRel gz (lowE n0 ι) := fun g n e => by
    obtain ⟨ver, off, xc, ext, m, a1, a2, a3, a4, a5⟩ := (show ptrR ι g (.a 0 0) (.a 0 n) (.pointer (some ⟨g, 0, none⟩)) from G g n e)
    cases a1; cases a2
    show ptrR (lowE n0 ι) g (.a 0 0) (.a 0 n) (.pointer (some ⟨g, 0, none⟩))
    exact ⟨0, 0, 0, n, m, rfl, rfl, lowE_of (hgz g n e) a3, a4, a5⟩
  have hl0 : lr (lowE n0 ι) args avs.toList := (lowB_rel (fun id m hi hm => lowE_of hi hm) args ha).2 _ hl
  unfold memoTest at ht
  cases hr : ce f args (h0Of gl n0) with
  | bad c => rw [hr] at ht; cases ht
  | ok v1 h1 =>
  rw [hr] at ht
  obtain ⟨t1, t2⟩ := ifB_t (show ifB (veq (mapId (rhoN n0 h1.next ρ) (verN n0 h1 ρ) vL) v1) (rhoChk n0 h1 (mapId (rhoN n0 h1.next ρ) (verN n0 h1 ρ)) obs ρ) false = true from ht)
  have t1 := veq_t t1
  have R := rhoChk_t t2
  refine CallOk.mono (hce f args (h0Of gl n0) v1 h1 (lowE n0 ι) w avs hr H0 G0 hl0) fun e w' hR => ?_
  cases e with
  | panicked ch => exact hR.elim
  | outgrown => exact hR.elim
  | returned u =>
  obtain ⟨ι1, H1, E1, hv⟩ := hR
  have hnowr := start_wr (ι := ι) hlow
  -- names
  let base := h.next
  have hshift : ∀ id, shiftN n0 base id = if id < n0 then id else base + (id - n0) := fun id => by
    unfold shiftN; rw [ifB_eq]
    by_cases hi : id < n0
    · rw [if_pos hi, if_pos (show Nat.blt id n0 = true from Nat.ble_eq_true_of_le (show id + 1 ≤ n0 from hi))]
    · rw [if_neg hi, if_neg (by simp [Nat.blt]; omega)]; rfl
  have hrho : ∀ id, rhoN n0 h1.next ρ id = if id < n0 then id else ρ.getD (id - n0) h1.next := fun id => by
    unfold rhoN; rw [ifB_eq, nthN_eq]
    by_cases hi : id < n0
    · rw [if_pos hi, if_pos (show Nat.blt id n0 = true from Nat.ble_eq_true_of_le (show id + 1 ≤ n0 from hi))]
    · rw [if_neg hi, if_neg (by simp [Nat.blt]; omega)]; rfl
  have hver : ∀ id, verN n0 h1 ρ id = if id < n0 then 0 else (h1.get (rhoN n0 h1.next ρ id)).cur := fun id => by
    unfold verN; rw [ifB_eq]
    have eo : ∀ o : Ob, (onOb o fun _ _ _ cur _ _ => cur) = o.cur := fun o => by cases o; rfl
    rw [eo]
    by_cases hi : id < n0
    · rw [if_pos hi, if_pos (show Nat.blt id n0 = true from Nat.ble_eq_true_of_le (show id + 1 ≤ n0 from hi))]
    · rw [if_neg hi, if_neg (by simp [Nat.blt]; omega)]
  let ι2 : Em := fun id ver => if base ≤ id ∧ id < base + obs.length then (if ver = 0 then ι1 (ρ.getD (id - base) h1.next) (h1.get (ρ.getD (id - base) h1.next)).cur else none) else ι id ver
  have hold : ∀ id ver, ¬ (base ≤ id ∧ id < base + obs.length) → ι2 id ver = ι id ver := fun id ver hi => if_neg hi
  have hnew : ∀ id ver m, (base ≤ id ∧ id < base + obs.length) → ι2 id ver = some m → ver = 0 ∧ ι1 (ρ.getD (id - base) h1.next) (h1.get (ρ.getD (id - base) h1.next)).cur = some m := fun id ver m hi hm => by
    have hm : (if base ≤ id ∧ id < base + obs.length then (if ver = 0 then ι1 (ρ.getD (id - base) h1.next) (h1.get (ρ.getD (id - base) h1.next)).cur else none) else ι id ver) = some m := hm
    rw [if_pos hi] at hm
    split at hm
    · rename_i h0; exact ⟨h0, hm⟩
    · cases hm
  have hsub : Sub ι ι2 := fun id ver m hm => by
    by_cases hi : base ≤ id ∧ id < base + obs.length
    · rw [H.none_ge hi.1] at hm; cases hm
    · rw [hold _ _ hi]; exact hm
  have hren : ∀ id m, ι1 (rhoN n0 h1.next ρ id) (verN n0 h1 ρ id) = some m → ι2 (shiftN n0 base id) 0 = some m := fun id m hm => by
    rw [hver, hrho] at hm
    rw [hshift]
    by_cases hi : id < n0
    · rw [if_pos hi, if_pos hi] at hm
      rw [if_pos hi, hold _ _ (by show ¬ (h.next ≤ id ∧ _); omega)]
      cases hx : ι id 0 with
      | some m' =>
        have := E1.sub id 0 m' (lowE_of hi hx)
        rw [hm] at this; exact this.symm
      | none =>
        have := E1.dom id hi (fun ver => by
          unfold lowE; split
          · exact hx
          · rfl) 0
        rw [hm] at this; cases this
    · rw [if_neg hi, if_neg hi] at hm
      rw [if_neg hi]
      by_cases hj : id - n0 < obs.length
      · show (if base ≤ base + (id - n0) ∧ base + (id - n0) < base + obs.length then _ else _) = _
        rw [if_pos (by omega), if_pos rfl, show base + (id - n0) - base = id - n0 from by omega]
        exact hm
      · rw [List.getD_eq_getElem?_getD, List.getElem?_eq_none (by rw [← R.len]; omega)] at hm
        rw [show ((none : Option Nat).getD h1.next) = h1.next from rfl, H1.none_ge (Nat.le_refl _)] at hm
        cases hm
  have hbig : ∀ (j r : Nat) m, ρ[j]? = some r → ι1 r (h1.get r).cur = some m → w.heap.size ≤ m.b := fun j r m hj hm => by
    have hjl : j < obs.length := by rw [R.len]; exact (List.getElem?_eq_some_iff.1 hj).1
    obtain ⟨_, _, hc⟩ := R.ran j _ r (List.getElem?_eq_getElem hjl) hj
    have hc := obChk_t hc
    have htag : (h1.get r).tag ≠ 0 := by
      rw [← hc.tag]
      rcases hc.kind with h | h
      · rw [h.1]; simp
      · rw [h.1]; simp
    rcases Nat.lt_or_ge m.b w.heap.size with hb | hb
    · exact absurd (E1.wrs m.b ⟨r, m, htag, hm, rfl⟩ hb) (hnowr _)
    · exact hb
  have hidx : ∀ id, base ≤ id ∧ id < base + obs.length → ∃ o r, obs[id - base]? = some o ∧ ρ[id - base]? = some r ∧ ρ.getD (id - base) h1.next = r ∧ obs.getD (id - base) .none = o ∧ ObChk (mapId (rhoN n0 h1.next ρ) (verN n0 h1 ρ)) o (h1.get r) := fun id hi => by
    have hjl : id - base < obs.length := by omega
    have hjr : id - base < ρ.length := by rw [← R.len]; exact hjl
    refine ⟨obs[id - base], ρ[id - base], List.getElem?_eq_getElem hjl, List.getElem?_eq_getElem hjr, by simp [List.getD_eq_getElem?_getD, List.getElem?_eq_getElem hjr], by simp [List.getD_eq_getElem?_getD, List.getElem?_eq_getElem hjl], ?_⟩
    exact obChk_t (R.ran _ _ _ (List.getElem?_eq_getElem hjl) (List.getElem?_eq_getElem hjr)).2.2
  have hget : ∀ id, (addL (shiftN n0 base) obs h).get id = if base ≤ id ∧ id < base + obs.length then mapOb (mapId (shiftN n0 base) fun _ => 0) (obs.getD (id - base) .none) else h.get id := fun id => addL_get _ obs h id
  have hframe : ∀ b, b < w.heap.size → w'.heap[b]? = w.heap[b]? := fun b hb => E1.frame b hb (hnowr b)
  have obf : ∀ o : Ob, (mapOb (mapId (shiftN n0 base) fun _ => 0) o).tag = o.tag ∧ (mapOb (mapId (shiftN n0 base) fun _ => 0) o).n = o.n ∧ (mapOb (mapId (shiftN n0 base) fun _ => 0) o).el = o.el ∧ (mapOb (mapId (shiftN n0 base) fun _ => 0) o).cur = 0 ∧ (mapOb (mapId (shiftN n0 base) fun _ => 0) o).mn = 0 ∧ (mapOb (mapId (shiftN n0 base) fun _ => 0) o).t = mapTr (mapId (shiftN n0 base) fun _ => 0) o.t := fun o => by cases o; exact ⟨rfl, rfl, rfl, rfl, rfl, rfl⟩
  refine ⟨ι2, ⟨?_, ?_, ?_, ?_, ?_, ?_⟩, ⟨hsub, E1.os, E1.tape, E1.output, E1.size, fun b hb _ => hframe b hb, ?_, ?_, ?_, ?_⟩, ?_⟩
  · intro id ver m htag hv hm
    rw [hget] at htag hv ⊢
    by_cases hi : base ≤ id ∧ id < base + obs.length
    · rw [if_pos hi] at htag hv ⊢
      obtain ⟨rfl, hm1⟩ := hnew id ver m hi hm
      obtain ⟨o, r, ho, hr', e1, e2, hc⟩ := hidx id hi
      rw [e1] at hm1
      rw [e2] at htag hv ⊢
      obtain ⟨b1, b2, b3, b4, b5, b6⟩ := obf o
      rw [b1] at htag
      rcases hc.kind with ⟨k1, k2⟩ | ⟨k1, _⟩
      · obtain ⟨cs, el, fz, q1, q2, q3, q4, q5, q6⟩ := H1.cells r _ m (by rw [← hc.tag]; exact k1) hc.mn hm1
        refine ⟨cs, el, fz, q1, q2, q3, by rw [b2, hc.n]; exact q4, fun _ => ⟨by rw [b2, hc.n]; exact (q5 rfl).1, (q5 rfl).2⟩, fun i hi' => ?_⟩
        obtain ⟨u', u1, u2⟩ := q6 i hi'
        refine ⟨u', u1, ?_⟩
        rw [b6]
        have e3 : Tr.at_ .no (mapTr (mapId (shiftN n0 base) fun _ => 0) o.t) i = mapId (shiftN n0 base) (fun _ => 0) (Tr.at_ .no o.t i) := get_mapTr rfl _ _
        rw [e3]
        rw [← k2 i (by rw [hc.n]; omega), show Tr.at_ .no (mapTr (mapId (rhoN n0 h1.next ρ) (verN n0 h1 ρ)) o.t) i = mapId (rhoN n0 h1.next ρ) (verN n0 h1 ρ) (Tr.at_ .no o.t i) from get_mapTr rfl _ _] at u2
        exact (mapId_rel (fun _ => rfl) hren _).1 _ u2
      · rw [k1] at htag; cases htag
    · rw [if_neg hi] at htag hv ⊢
      rw [hold _ _ hi] at hm
      obtain ⟨cs, el, fz, q1, q2, q3, q4, q5, q6⟩ := H.cells id ver m htag hv hm
      refine ⟨cs, el, fz, by rw [hframe _ (H.bound _ _ _ hm)]; exact q1, q2, q3, q4, q5, fun i hi' => ?_⟩
      obtain ⟨u', u1, u2⟩ := q6 i hi'
      exact ⟨u', u1, vr_mono hsub u2⟩
  · intro id m htag hm
    rw [hget] at htag ⊢
    by_cases hi : base ≤ id ∧ id < base + obs.length
    · rw [if_pos hi] at htag ⊢
      obtain ⟨_, hm1⟩ := hnew id 0 m hi hm
      obtain ⟨o, r, ho, hr', e1, e2, hc⟩ := hidx id hi
      rw [e1] at hm1
      rw [e2] at htag ⊢
      obtain ⟨b1, b2, b3, b4, b5, b6⟩ := obf o
      rw [b1] at htag
      rcases hc.kind with ⟨k1, k2⟩ | ⟨k1, k2, k3⟩
      · rw [k1] at htag; cases htag
      · rw [k2] at hm1
        obtain ⟨es, q1, q2, q3, q4⟩ := (H1.maps r m (by rw [← hc.tag]; exact k1) hm1).exact k2
        rw [← k3] at q2 q3
        obtain ⟨z1, z2⟩ := isL_mapId q3
        rw [z2] at q2
        refine MapOK.mk0 (es := es) (by rw [b3, hc.el]; exact q1) ?_ ?_ (by rw [b2, hc.n]; exact q4) b4
        · rw [b6, val_mapTr rfl, (isL_mapId (isL_mapId' (f := shiftN n0 base) (g := fun _ => 0) z1)).2]
          have hz : ∀ (l : List V) (m : List MapEntry), All2 (entR ι1) (l.map (mapId (rhoN n0 h1.next ρ) (verN n0 h1 ρ))) m → All2 (entR ι2) (l.map (mapId (shiftN n0 base) fun _ => 0)) m := by
            intro l
            induction l with
            | nil => intro m h; cases m with
              | nil => trivial
              | cons => exact h.elim
            | cons a l ih => intro m h; cases m with
              | nil => exact h.elim
              | cons b m => exact ⟨entR_mapId (fun _ => rfl) hren h.1, ih m h.2⟩
          exact hz _ _ q2
        · rw [b6, val_mapTr rfl]; exact isL_mapId' z1
    · rw [if_neg hi] at htag ⊢
      rw [hold _ _ hi] at hm
      exact (H.maps id m htag hm).step hsub fun x hx => by rw [hframe _ (H.bound _ _ _ hm)]; exact hx
  · intro id ver m id' ver' m' hm hm' hb
    by_cases hi : base ≤ id ∧ id < base + obs.length
    · obtain ⟨rfl, hm1⟩ := hnew id ver m hi hm
      obtain ⟨o, r, ho, hr', e1, e2, hc⟩ := hidx id hi
      rw [e1] at hm1
      by_cases hi' : base ≤ id' ∧ id' < base + obs.length
      · obtain ⟨rfl, hm1'⟩ := hnew id' ver' m' hi' hm'
        obtain ⟨o', r', ho', hr'', e1', e2', hc'⟩ := hidx id' hi'
        rw [e1'] at hm1'
        obtain ⟨x1, x2⟩ := H1.inj _ _ _ _ _ _ hm1 hm1' hb
        subst x1
        have := R.inj _ _ _ hr' hr''
        exact ⟨by omega, x2⟩
      · rw [hold _ _ hi'] at hm'
        have := hbig _ _ _ hr' hm1
        have := H.bound _ _ _ hm'
        omega
    · rw [hold _ _ hi] at hm
      by_cases hi' : base ≤ id' ∧ id' < base + obs.length
      · obtain ⟨rfl, hm1'⟩ := hnew id' ver' m' hi' hm'
        obtain ⟨o', r', ho', hr'', e1', e2', hc'⟩ := hidx id' hi'
        rw [e1'] at hm1'
        have := hbig _ _ _ hr'' hm1'
        have := H.bound _ _ _ hm
        omega
      · rw [hold _ _ hi'] at hm'
        exact H.inj _ _ _ _ _ _ hm hm' hb
  · intro id hid
    rw [addL_next] at hid
    have hi : ¬ (base ≤ id ∧ id < base + obs.length) := by show ¬ (h.next ≤ id ∧ id < h.next + obs.length); omega
    rw [hget, if_neg hi]
    exact ⟨(H.fresh id (by omega)).1, fun ver => by rw [hold _ _ hi]; exact (H.fresh id (by omega)).2 ver⟩
  · intro id ver hv
    rw [hget] at hv
    by_cases hi : base ≤ id ∧ id < base + obs.length
    · show (if base ≤ id ∧ id < base + obs.length then (if ver = 0 then _ else none) else _) = none
      rw [if_pos hi, if_neg (by omega)]
    · rw [if_neg hi] at hv
      rw [hold _ _ hi]; exact H.top id ver hv
  · intro id ver m hm
    by_cases hi : base ≤ id ∧ id < base + obs.length
    · exact H1.bound _ _ _ (hnew id ver m hi hm).2
    · rw [hold _ _ hi] at hm
      exact Nat.lt_of_lt_of_le (H.bound _ _ _ hm) E1.size
  · rintro b ⟨id, m, h1', h2', rfl⟩ hb
    rw [hget] at h1' h2'
    by_cases hi : base ≤ id ∧ id < base + obs.length
    · obtain ⟨_, hm1⟩ := hnew id _ m hi h2'
      obtain ⟨o, r, ho, hr', e1, e2, hc⟩ := hidx id hi
      rw [e1] at hm1
      have := hbig _ _ _ hr' hm1
      omega
    · rw [if_neg hi] at h1' h2'
      rw [hold _ _ hi] at h2'
      exact ⟨id, m, h1', h2', rfl⟩
  · intro id hid hn ver
    rw [hold _ _ (by show ¬ (h.next ≤ id ∧ _); omega)]; exact hn ver
  · intro id hid _
    rw [hget, if_neg (by show ¬ (h.next ≤ id ∧ _); omega)]
  · rw [addL_next]; omega
  · rw [← t1] at hv
    exact (mapId_rel (fun _ => rfl) hren _).1 _ hv
end
/-- first the one, where it doesn't answer the other -/
noncomputable def orE (a b : CE) : CE := fun f args h => OpR.rec (motive := fun _ => OpR) (fun _ => b f args h) (fun v h' => .ok v h') (a f args h)
theorem or_ok {P : Program} {gz : Nat → Option Nat} {a b : CE} (ha : CeOk P gz a) (hb : CeOk P gz b) : CeOk P gz (orE a b) := by
  intro f args h r h' ι w avs hh H G hl
  have hh : OpR.rec (motive := fun _ => OpR) (fun _ => b f args h) (fun v h' => .ok v h') (a f args h) = .ok r h' := hh
  cases hx : a f args h with
  | bad c => rw [hx] at hh; exact hb f args h r h' ι w avs hh H G hl
  | ok v g => rw [hx] at hh; cases hh; exact ha f args h r h' ι w avs hx H G hl
noncomputable def noE : CE := fun _ _ _ => .bad 65
theorem no_ok {P : Program} {gz : Nat → Option Nat} : CeOk P gz noE := by intro f args h r h' ι w avs hh; cases hh
/-- calls with fuel, some answered as before -/
noncomputable def runM (tab : Tr FnB) (mc : CE) (n : Nat) : CE := Nat.rec (motive := fun _ => CE) noE (fun _ ih => orE mc fun f args h => bodyB tab ih args h (Tr.get .no (Pa.ofNat f) tab)) n
theorem runM_ok {P : Program} {gz : Nat → Option Nat} {tab : Tr FnB} {mc : CE} (ht : ∀ f, FnOk P gz f (Tr.get .no (Pa.ofNat f) tab)) (hm : CeOk P gz mc) : ∀ n, CeOk P gz (runM tab mc n)
  | 0 => no_ok
  | n + 1 => or_ok hm (bodyB_ok ht (runM_ok ht hm n))

/-! the machine's own index of a byte -/
noncomputable def ixN (c : Nat) (n : Nat) : Nat → Nat → (Nat → OpR) → OpR → OpR :=
  Nat.rec (motive := fun _ => Nat → Nat → (Nat → OpR) → OpR → OpR) (fun _ _ _ no => no) (fun _ ih i s k no => ifB (Nat.beq (Nat.land s 255) c) (k i) (ih (Nat.succ i) (Nat.shiftRight s 8) k no)) n
noncomputable def ixE (f0 : Nat) : CE := fun f args h => ifB (Nat.beq f f0) (onB args .no fun _ _ a l => onB l .no fun _ _ b l2 => onTagA 12 l2 .no fun _ => onTagA 2 a .no fun s => onTagA 40 b .no fun c => ifB (Nat.blt c 256) (ixN c (strLen s) 0 (un16 s) (fun i => .ok (.a 38 i) h) (.ok (.a 39 0) h)) .no) .no
theorem ixN_ok {c : Nat} {h : HS} {r : V} {h' : HS} : ∀ (l : List UInt8) (i : Nat), c < 256 → ixN c l.length i (encLO l) (fun i => .ok (.a 38 i) h) (.ok (.a 39 0) h) = .ok r h' →
    h' = h ∧ ((Lib.indexByte l c.toUInt8 = -1 ∧ r = .a 39 0) ∨ ∃ j : Nat, Lib.indexByte l c.toUInt8 = j ∧ r = .a 38 (i + j))
  | [], i, _, hh => by cases hh; exact ⟨rfl, .inl ⟨rfl, rfl⟩⟩
  | b :: l, i, hc, hh => by
    have e1 : Nat.land (encLO (b :: l)) 255 = b.toNat := by
      have := strAt_encO (b :: l) 0 (by simp)
      simpa [strAtO] using this
    have e2 : Nat.shiftRight (encLO (b :: l)) 8 = encLO l := by
      have := encL_shiftO (b :: l) 1 (by simp)
      simpa using this
    have hh : ifB (Nat.beq (Nat.land (encLO (b :: l)) 255) c) (.ok (.a 38 i) h) (ixN c l.length (Nat.succ i) (Nat.shiftRight (encLO (b :: l)) 8) (fun i => .ok (.a 38 i) h) (.ok (.a 39 0) h)) = OpR.ok r h' := hh
    rw [e1, e2] at hh
    have hbc : (b == c.toUInt8) = Nat.beq b.toNat c := by
      rw [beq_eq]
      by_cases h : b.toNat = c
      · rw [decide_eq_true h]; simp; rw [← h]; simp
      · rw [decide_eq_false h]; simp; intro e; apply h; rw [e]; simp; omega
    rcases ifB_two hh with ⟨g1, g2⟩ | ⟨g1, g2⟩
    · cases g2
      refine ⟨rfl, .inr ⟨0, ?_, by simp⟩⟩
      unfold Lib.indexByte; rw [hbc, g1]; rfl
    · obtain ⟨q1, q2⟩ := ixN_ok l (i + 1) hc g2
      refine ⟨q1, ?_⟩
      unfold Lib.indexByte
      rw [hbc, g1]
      rcases q2 with ⟨q2, q3⟩ | ⟨j, q2, q3⟩
      · exact .inl ⟨by rw [q2]; rfl, q3⟩
      · refine .inr ⟨j + 1, ?_, by rw [q3]; congr 1; omega⟩
        rw [q2]
        have : (((j : Nat) : Int) == -1) = false := by rw [beq_eq_false_iff_ne]; omega
        simp [this]
theorem ixE_ok {P : Program} {gz : Nat → Option Nat} {f0 : Nat} (hr : ∀ (s : ByteArray) (c : Int) (w : World), (callFunc f0 #[.string s, .int .u8 c]).run P w = .ok (.value (.int .i64 (Lib.indexByte s.data.toList c.toNat.toUInt8))) w) : CeOk P gz (ixE f0) := by
  intro f args h r h' ι w avs hh H G hl
  unfold ixE at hh
  obtain ⟨g1, h1⟩ := ifB_ok (c := 0) hh
  obtain ⟨t1, x1, a, l, rfl, h2⟩ := onB_ok h1
  obtain ⟨t2, x2, b, l', rfl, h3⟩ := onB_ok h2
  obtain ⟨x3, rfl, h3a⟩ := onTagA_ok h3
  obtain ⟨s, rfl, h4⟩ := onTagA_ok h3a
  obtain ⟨c, rfl, h5a⟩ := onTagA_ok h4
  obtain ⟨hc, h5⟩ := ifB_ok h5a
  clear h1 h2 h3 h3a h4 h5a
  have hc : c < 256 := blt_t hc
  have := beq_t g1; subst this
  obtain ⟨rfl, u1, us, e1, r1, rfl, u2, us2, rfl, r3, _, rfl⟩ := hl
  obtain ⟨s, rfl, rfl⟩ := strR r1
  obtain ⟨_, rfl⟩ := aR_int r3 (by decide)
  have hav : avs = #[.string s, .int .u8 (c : Int)] := Array.ext' e1
  rw [show strLen (enc s) = s.data.toList.length from strLen_enc _, show un16 (enc s) = encLO s.data.toList from un_enc _] at h5
  rw [hav]
  obtain ⟨rfl, q⟩ := ixN_ok s.data.toList 0 hc h5
  refine .inr ⟨_, hr s c w, ι, H, Ext.refl _ _ _, ?_⟩
  rw [show (c : Int).toNat = c from rfl]
  rcases q with ⟨q1, rfl⟩ | ⟨j, q1, rfl⟩
  · rw [q1]; exact aR_mk (t := 39) (x := 0) (by decide) (by decide)
  · rw [q1, Nat.zero_add]; exact mk38 j
end Go.Ev

/- The table of the functions. -/
set_option autoImplicit false
namespace Go.Ev
open Go.RowKit

noncomputable def tabOf (l : List (Nat × FnB)) : Tr FnB := List.rec (motive := fun _ => Tr FnB) .lf (fun p _ ih => Tr.set .no p.2 (Pa.ofNat p.1) ih) l
def cOf (f : Func) : Code := match f.body with | some c => c | none => .skip
def isSome' {α : Type} : Option α → Bool | some _ => true | none => false
def fnChk (fn : Func) (np : Nat) : Bool := isSome' fn.body && (fn.name != "runtime.NumGoroutine") && Nat.ble np fn.ntmps && codeChk fn.ntmps (cOf fn)
theorem fnOk_of {P : Program} {gz : Nat → Option Nat} {f : Nat} {fn : Func} (K : List Tmp) (np : Nat) (hm : P.follows .mixedOrders = true) (hf : P.funcs[f]? = some fn) (hc : fnChk fn np = true) : FnOk P gz f (compFn P gz K np (cOf fn) fn.results.toList) := by
  unfold fnChk at hc
  simp only [Bool.and_eq_true] at hc
  obtain ⟨⟨⟨h1, h2⟩, h3⟩, h4⟩ := hc
  refine compFn_ok K np hm hf ?_ (by simpa using h2) (Nat.le_of_ble_eq_true h3) h4
  cases hb : fn.body with
  | none => rw [hb] at h1; cases h1
  | some c => unfold cOf; rw [hb]
def AllFn (P : Program) (gz : Nat → Option Nat) : List (Nat × FnB) → Prop
  | [] => True
  | p :: l => FnOk P gz p.1 p.2 ∧ AllFn P gz l
theorem tab_ok {P : Program} {gz : Nat → Option Nat} : ∀ (l : List (Nat × FnB)), AllFn P gz l → ∀ f, FnOk P gz f (Tr.get .no (Pa.ofNat f) (tabOf l))
  | [], _, f => by
    have : Tr.get .no (Pa.ofNat f) (tabOf []) = FnB.no := Tr.get_lf _ _
    rw [this]; trivial
  | p :: l, h, f => by
    have e : Tr.get .no (Pa.ofNat f) (tabOf (p :: l)) = if f = p.1 then p.2 else Tr.get .no (Pa.ofNat f) (tabOf l) := Tr.at_put FnB.no (tabOf l) p.1 f p.2
    rw [e]
    by_cases hf : f = p.1
    · rw [if_pos hf, hf]; exact h.1
    · rw [if_neg hf]; exact tab_ok l h.2 f
end Go.Ev

/- The same code in another form: what is known before the run is worked out first. References, stores of slots. -/
set_option autoImplicit false
namespace Go.Ev
open Go.RowKit

noncomputable def getL1 (r : RefB) : RefB := RefB.rec (motive := fun _ => RefB) (fun f => .mk fun e T => Tr.rec (motive := fun _ => V) .no (fun l _ _ _ _ => f e l) T) r
noncomputable def getR1 (r : RefB) : RefB := RefB.rec (motive := fun _ => RefB) (fun f => .mk fun e T => Tr.rec (motive := fun _ => V) .no (fun _ _ r _ _ => f e r) T) r
noncomputable def getS (p : Pa) : RefB := Pa.rec (motive := fun _ => RefB) (.mk fun _ T => Tr.rec (motive := fun _ => V) .no (fun _ v _ _ _ => v) T) (fun _ ih => getL1 ih) (fun _ ih => getR1 ih) p
theorem getS_eq (p : Pa) : getS p = locC p := by
  induction p with
  | h => rfl
  | l p ih => show getL1 (getS p) = _; rw [ih]; rfl
  | r p ih => show getR1 (getS p) = _; rw [ih]; rfl
noncomputable def nthS1 (r : RefB) : RefB := RefB.rec (motive := fun _ => RefB) (fun f => .mk fun env T => V.rec (motive := fun _ => V) (fun _ _ => .no) (fun _ _ _ r _ _ => f r T) env) r
noncomputable def nthS (n : Nat) : RefB :=
  Nat.rec (motive := fun _ => RefB) (.mk fun env _ => V.rec (motive := fun _ => V) (fun _ _ => .no) (fun _ _ a _ _ _ => a) env) (fun _ ih => nthS1 ih) n
theorem nthS_eq (n : Nat) : nthS n = nthC n := by
  induction n with
  | zero => rfl
  | succ n ih => show nthS1 (nthS n) = _; rw [ih]; rfl
noncomputable def cstS (v : V) : RefB := V.rec (motive := fun _ => RefB) (fun t x => .mk fun _ _ => .a t x) (fun t x l r _ _ => .mk fun _ _ => .b t x l r) v
theorem cstS_eq (v : V) : cstS v = cstC v := by cases v <;> rfl
noncomputable def compRefS (gz : Nat → Option Nat) (K : List Tmp) (ds : List (Option Tmp)) : Operand → RefB
  | .tmp t => match findEnv t ds 0 with
    | some n => nthS n
    | none => match slotOf t K 0 with
      | some p => getS (Pa.ofNat p)
      | none => cstS .no
  | .const v => cstS (constV v)
  | .global g => match gz g with
    | some n => cstS (.ptr g 0 0 (.a 0 n))
    | none => cstS .no
  | .func f => cstS (.b 8 f .nilL .nilL)
theorem compRefS_eq (gz : Nat → Option Nat) (K : List Tmp) (ds : List (Option Tmp)) : compRefS gz K ds = compRef gz K ds := by
  funext x
  cases x with
  | tmp t =>
    unfold compRefS compRef
    dsimp only
    cases findEnv t ds 0 with
    | some n => exact nthS_eq n
    | none => cases slotOf t K 0 with
      | some p => exact getS_eq _
      | none => exact cstS_eq _
  | const v => exact cstS_eq _
  | global g =>
    unfold compRefS compRef
    dsimp only
    cases gz g with
    | some n => exact cstS_eq _
    | none => exact cstS_eq _
  | func f => exact cstS_eq (.b 8 f .nilL .nilL)

/-- a store in a tree -/
inductive SetB where
  | mk (f : V → Tr V → (Tr V → Out) → Out)
noncomputable def setL1 (r : SetB) : SetB := SetB.rec (motive := fun _ => SetB) (fun f => .mk fun a t k => Tr.rec (motive := fun _ => Out) (f a .lf fun l' => k (.nd l' .no .lf)) (fun l v r _ _ => f a l fun l' => k (.nd l' v r)) t) r
noncomputable def setR1 (r : SetB) : SetB := SetB.rec (motive := fun _ => SetB) (fun f => .mk fun a t k => Tr.rec (motive := fun _ => Out) (f a .lf fun r' => k (.nd .lf .no r')) (fun l v r _ _ => f a r fun r' => k (.nd l v r')) t) r
noncomputable def setS (p : Pa) : SetB := Pa.rec (motive := fun _ => SetB) (.mk fun a t k => Tr.rec (motive := fun _ => Out) (k (.nd .lf a .lf)) (fun l _ r _ _ => k (.nd l a r)) t) (fun _ ih => setL1 ih) (fun _ ih => setR1 ih) p
theorem setS_eq (p : Pa) : setS p = .mk fun a t k => Tr.setK .no a p t k := by
  induction p with
  | h => rfl
  | l p ih => show setL1 (setS p) = _; rw [ih]; rfl
  | r p ih => show setR1 (setS p) = _; rw [ih]; rfl
inductive PerB where
  | mk (f : V → Tr V → (Tr V → Out) → Out)
noncomputable def perN (g : PerB) : PerB := PerB.rec (motive := fun _ => PerB) (fun g => .mk fun env T k => V.rec (motive := fun _ => Out) (fun _ _ => .bad 15) (fun _ _ _ rest _ _ => g rest T k) env) g
noncomputable def perP (s : SetB) (g : PerB) : PerB := PerB.rec (motive := fun _ => PerB) (fun g => SetB.rec (motive := fun _ => PerB) (fun s => .mk fun env T k => V.rec (motive := fun _ => Out) (fun _ _ => .bad 15) (fun _ _ v rest _ _ => g rest T fun T' => s v T' k) env) s) g
noncomputable def perQ (q : Pa) (g : PerB) : PerB := PerB.rec (motive := fun _ => PerB) (fun g => .mk fun env T k => V.rec (motive := fun _ => Out) (fun _ _ => .bad 15) (fun _ _ v rest _ _ => g rest T fun T' => Tr.setK .no (.cons v (Tr.get .no q T')) q T' k) env) g
noncomputable def perS (ps : List Ps) : PerB :=
  List.rec (motive := fun _ => PerB) (.mk fun _ T k => k T) (fun p _ ih => Ps.rec (motive := fun _ => PerB) (perN ih) (fun q => perP (setS q) ih) (fun q => perQ q ih) p) ps
theorem perS_eq (ps : List Ps) : perS ps = .mk (persistK ps) := by
  induction ps with
  | nil => rfl
  | cons p ps ih =>
    cases p with
    | none => show perN (perS ps) = _; rw [ih]; rfl
    | slot q => show perP (setS q) (perS ps) = _; rw [ih, setS_eq]; rfl
    | push q => show perQ q (perS ps) = _; rw [ih]; rfl
end Go.Ev

/- The same code in another form: operations. -/
set_option autoImplicit false
namespace Go.Ev
open Go.RowKit

noncomputable def okvH (v : V) (h : HS) : OpR := V.rec (motive := fun _ => OpR) (fun t x => Bool.rec (motive := fun _ => OpR) (.ok (.a t x) h) .no (Nat.beq t 0)) (fun t x l r _ _ => .ok (.b t x l r) h) v
theorem okvH_eq : okvH = okv := by
  funext v h
  cases v with
  | a t x => cases t <;> rfl
  | b t x l r => rfl
theorem land33 {t : Nat} (h : Nat.beq (Nat.land t 33) 32 = true) : Nat.blt t 32 = false ∧ Nat.land t 1 = 0 := by
  have e : t &&& 33 = 32 := beq_t h
  have h1 : 32 ≤ t := by rw [← e]; exact Nat.and_le_left
  have h2 : t &&& 1 = 0 := by
    have : (t &&& 33) &&& 1 = t &&& 1 := by rw [Nat.and_assoc]; rfl
    rw [← this, e]; rfl
  refine ⟨?_, h2⟩
  cases hb : Nat.blt t 32 with
  | false => rfl
  | true => have := blt_t hb; omega
theorem cmp_fast (f : Nat → Nat → Bool) (op : BinOp) {t x u y : Nat} {h : HS} (h1 : Nat.beq (Nat.land t 33) 32 = true) (h2 : Nat.beq t u = true) : intCmp f op (.a t x) (.a u y) h = okb (f x y) h := by
  obtain ⟨q1, q2⟩ := land33 h1
  have := beq_t h2; subst this
  show ifB (Nat.blt t 32) .no (ifB (Nat.beq t t) (Nat.rec (motive := fun _ => OpR) (okb (f x y) h) (fun _ _ => slowI op t x t y h) (Nat.land t 1)) (slowI op t x t y h)) = _
  rw [q1, h2, q2]; rfl
noncomputable def lssH (v w : V) (h : HS) : OpR :=
  V.rec (motive := fun _ => OpR) (fun t x => V.rec (motive := fun _ => OpR) (fun u y => Bool.rec (motive := fun _ => OpR) (lssX (.a t x) (.a u y) h) (Bool.rec (motive := fun _ => OpR) (lssX (.a t x) (.a u y) h) (Bool.rec (motive := fun _ => OpR) (.ok (.a 1 0) h) (.ok (.a 1 1) h) (Nat.blt x y)) (Nat.beq t u)) (Nat.beq (Nat.land t 33) 32)) (fun u y l r _ _ => lssX (.a t x) (.b u y l r) h) w) (fun t x l r _ _ => lssX (.b t x l r) w h) v
theorem lssH_eq : lssH = lssX := by
  funext v w h
  cases v with
  | b t x l r => rfl
  | a t x => cases w with
    | b u y l r => rfl
    | a u y =>
      show (Bool.rec (motive := fun _ => OpR) (lssX (.a t x) (.a u y) h) (Bool.rec (motive := fun _ => OpR) (lssX (.a t x) (.a u y) h) (Bool.rec (motive := fun _ => OpR) (.ok (.a 1 0) h) (.ok (.a 1 1) h) (Nat.blt x y)) (Nat.beq t u)) (Nat.beq (Nat.land t 33) 32) : OpR) = _
      cases h1 : Nat.beq (Nat.land t 33) 32 with
      | false => rfl
      | true => cases h2 : Nat.beq t u with
        | false => rfl
        | true =>
          have e := cmp_fast (fun a b => Nat.blt a b) .lss (x := x) (y := y) (h := h) h1 h2
          show (Bool.rec (motive := fun _ => OpR) (.ok (.a 1 0) h) (.ok (.a 1 1) h) (Nat.blt x y) : OpR) = lssX (.a t x) (.a u y) h
          unfold lssX
          rw [show intCmp _ _ (.a t x) (.a u y) h = _ from e]
          cases Nat.blt x y <;> rfl

noncomputable def leqH (v w : V) (h : HS) : OpR :=
  V.rec (motive := fun _ => OpR) (fun t x => V.rec (motive := fun _ => OpR) (fun u y => Bool.rec (motive := fun _ => OpR) (intCmp Nat.ble .leq (.a t x) (.a u y) h) (Bool.rec (motive := fun _ => OpR) (intCmp Nat.ble .leq (.a t x) (.a u y) h) (Bool.rec (motive := fun _ => OpR) (.ok (.a 1 0) h) (.ok (.a 1 1) h) (Nat.ble x y)) (Nat.beq t u)) (Nat.beq (Nat.land t 33) 32)) (fun u y l r _ _ => intCmp Nat.ble .leq (.a t x) (.b u y l r) h) w) (fun t x l r _ _ => intCmp Nat.ble .leq (.b t x l r) w h) v
theorem leqH_eq : leqH = (intCmp Nat.ble .leq) := by
  funext v w h
  cases v with
  | b t x l r => rfl
  | a t x => cases w with
    | b u y l r => rfl
    | a u y =>
      show (Bool.rec (motive := fun _ => OpR) (intCmp Nat.ble .leq (.a t x) (.a u y) h) (Bool.rec (motive := fun _ => OpR) (intCmp Nat.ble .leq (.a t x) (.a u y) h) (Bool.rec (motive := fun _ => OpR) (.ok (.a 1 0) h) (.ok (.a 1 1) h) (Nat.ble x y)) (Nat.beq t u)) (Nat.beq (Nat.land t 33) 32) : OpR) = _
      cases h1 : Nat.beq (Nat.land t 33) 32 with
      | false => rfl
      | true => cases h2 : Nat.beq t u with
        | false => rfl
        | true =>
          have e := cmp_fast (fun a b => Nat.ble a b) .leq (x := x) (y := y) (h := h) h1 h2
          show (Bool.rec (motive := fun _ => OpR) (.ok (.a 1 0) h) (.ok (.a 1 1) h) (Nat.ble x y) : OpR) = intCmp Nat.ble .leq (.a t x) (.a u y) h
          skip
          refine Eq.trans ?_ e.symm
          cases Nat.ble x y <;> rfl

noncomputable def gtrH (v w : V) (h : HS) : OpR :=
  V.rec (motive := fun _ => OpR) (fun t x => V.rec (motive := fun _ => OpR) (fun u y => Bool.rec (motive := fun _ => OpR) (gtrX (.a t x) (.a u y) h) (Bool.rec (motive := fun _ => OpR) (gtrX (.a t x) (.a u y) h) (Bool.rec (motive := fun _ => OpR) (.ok (.a 1 0) h) (.ok (.a 1 1) h) (Nat.blt y x)) (Nat.beq t u)) (Nat.beq (Nat.land t 33) 32)) (fun u y l r _ _ => gtrX (.a t x) (.b u y l r) h) w) (fun t x l r _ _ => gtrX (.b t x l r) w h) v
theorem gtrH_eq : gtrH = gtrX := by
  funext v w h
  cases v with
  | b t x l r => rfl
  | a t x => cases w with
    | b u y l r => rfl
    | a u y =>
      show (Bool.rec (motive := fun _ => OpR) (gtrX (.a t x) (.a u y) h) (Bool.rec (motive := fun _ => OpR) (gtrX (.a t x) (.a u y) h) (Bool.rec (motive := fun _ => OpR) (.ok (.a 1 0) h) (.ok (.a 1 1) h) (Nat.blt y x)) (Nat.beq t u)) (Nat.beq (Nat.land t 33) 32) : OpR) = _
      cases h1 : Nat.beq (Nat.land t 33) 32 with
      | false => rfl
      | true => cases h2 : Nat.beq t u with
        | false => rfl
        | true =>
          have e := cmp_fast (fun a b => Nat.blt b a) .gtr (x := x) (y := y) (h := h) h1 h2
          show (Bool.rec (motive := fun _ => OpR) (.ok (.a 1 0) h) (.ok (.a 1 1) h) (Nat.blt y x) : OpR) = gtrX (.a t x) (.a u y) h
          unfold gtrX
          rw [show intCmp _ _ (.a t x) (.a u y) h = _ from e]
          cases Nat.blt y x <;> rfl

noncomputable def geqH (v w : V) (h : HS) : OpR :=
  V.rec (motive := fun _ => OpR) (fun t x => V.rec (motive := fun _ => OpR) (fun u y => Bool.rec (motive := fun _ => OpR) (intCmp (fun a b => Nat.ble b a) .geq (.a t x) (.a u y) h) (Bool.rec (motive := fun _ => OpR) (intCmp (fun a b => Nat.ble b a) .geq (.a t x) (.a u y) h) (Bool.rec (motive := fun _ => OpR) (.ok (.a 1 0) h) (.ok (.a 1 1) h) (Nat.ble y x)) (Nat.beq t u)) (Nat.beq (Nat.land t 33) 32)) (fun u y l r _ _ => intCmp (fun a b => Nat.ble b a) .geq (.a t x) (.b u y l r) h) w) (fun t x l r _ _ => intCmp (fun a b => Nat.ble b a) .geq (.b t x l r) w h) v
theorem geqH_eq : geqH = (intCmp (fun a b => Nat.ble b a) .geq) := by
  funext v w h
  cases v with
  | b t x l r => rfl
  | a t x => cases w with
    | b u y l r => rfl
    | a u y =>
      show (Bool.rec (motive := fun _ => OpR) (intCmp (fun a b => Nat.ble b a) .geq (.a t x) (.a u y) h) (Bool.rec (motive := fun _ => OpR) (intCmp (fun a b => Nat.ble b a) .geq (.a t x) (.a u y) h) (Bool.rec (motive := fun _ => OpR) (.ok (.a 1 0) h) (.ok (.a 1 1) h) (Nat.ble y x)) (Nat.beq t u)) (Nat.beq (Nat.land t 33) 32) : OpR) = _
      cases h1 : Nat.beq (Nat.land t 33) 32 with
      | false => rfl
      | true => cases h2 : Nat.beq t u with
        | false => rfl
        | true =>
          have e := cmp_fast (fun a b => Nat.ble b a) .geq (x := x) (y := y) (h := h) h1 h2
          show (Bool.rec (motive := fun _ => OpR) (.ok (.a 1 0) h) (.ok (.a 1 1) h) (Nat.ble y x) : OpR) = intCmp (fun a b => Nat.ble b a) .geq (.a t x) (.a u y) h
          skip
          refine Eq.trans ?_ e.symm
          cases Nat.ble y x <;> rfl

noncomputable def eqlH (v w : V) (h : HS) : OpR :=
  V.rec (motive := fun _ => OpR) (fun t x => V.rec (motive := fun _ => OpR) (fun u y => Bool.rec (motive := fun _ => OpR) (intCmp Nat.beq .eql (.a t x) (.a u y) h) (Bool.rec (motive := fun _ => OpR) (intCmp Nat.beq .eql (.a t x) (.a u y) h) (Bool.rec (motive := fun _ => OpR) (.ok (.a 1 0) h) (.ok (.a 1 1) h) (Nat.beq x y)) (Nat.beq t u)) (Nat.beq (Nat.land t 33) 32)) (fun u y l r _ _ => intCmp Nat.beq .eql (.a t x) (.b u y l r) h) w) (fun t x l r _ _ => intCmp Nat.beq .eql (.b t x l r) w h) v
theorem eqlH_eq : eqlH = (intCmp Nat.beq .eql) := by
  funext v w h
  cases v with
  | b t x l r => rfl
  | a t x => cases w with
    | b u y l r => rfl
    | a u y =>
      show (Bool.rec (motive := fun _ => OpR) (intCmp Nat.beq .eql (.a t x) (.a u y) h) (Bool.rec (motive := fun _ => OpR) (intCmp Nat.beq .eql (.a t x) (.a u y) h) (Bool.rec (motive := fun _ => OpR) (.ok (.a 1 0) h) (.ok (.a 1 1) h) (Nat.beq x y)) (Nat.beq t u)) (Nat.beq (Nat.land t 33) 32) : OpR) = _
      cases h1 : Nat.beq (Nat.land t 33) 32 with
      | false => rfl
      | true => cases h2 : Nat.beq t u with
        | false => rfl
        | true =>
          have e := cmp_fast (fun a b => Nat.beq a b) .eql (x := x) (y := y) (h := h) h1 h2
          show (Bool.rec (motive := fun _ => OpR) (.ok (.a 1 0) h) (.ok (.a 1 1) h) (Nat.beq x y) : OpR) = intCmp Nat.beq .eql (.a t x) (.a u y) h
          skip
          refine Eq.trans ?_ e.symm
          cases Nat.beq x y <;> rfl

noncomputable def neqH (v w : V) (h : HS) : OpR :=
  V.rec (motive := fun _ => OpR) (fun t x => V.rec (motive := fun _ => OpR) (fun u y => Bool.rec (motive := fun _ => OpR) (intCmp (fun a b => bnot (Nat.beq a b)) .neq (.a t x) (.a u y) h) (Bool.rec (motive := fun _ => OpR) (intCmp (fun a b => bnot (Nat.beq a b)) .neq (.a t x) (.a u y) h) (Bool.rec (motive := fun _ => OpR) (.ok (.a 1 1) h) (.ok (.a 1 0) h) (Nat.beq x y)) (Nat.beq t u)) (Nat.beq (Nat.land t 33) 32)) (fun u y l r _ _ => intCmp (fun a b => bnot (Nat.beq a b)) .neq (.a t x) (.b u y l r) h) w) (fun t x l r _ _ => intCmp (fun a b => bnot (Nat.beq a b)) .neq (.b t x l r) w h) v
theorem neqH_eq : neqH = (intCmp (fun a b => bnot (Nat.beq a b)) .neq) := by
  funext v w h
  cases v with
  | b t x l r => rfl
  | a t x => cases w with
    | b u y l r => rfl
    | a u y =>
      show (Bool.rec (motive := fun _ => OpR) (intCmp (fun a b => bnot (Nat.beq a b)) .neq (.a t x) (.a u y) h) (Bool.rec (motive := fun _ => OpR) (intCmp (fun a b => bnot (Nat.beq a b)) .neq (.a t x) (.a u y) h) (Bool.rec (motive := fun _ => OpR) (.ok (.a 1 1) h) (.ok (.a 1 0) h) (Nat.beq x y)) (Nat.beq t u)) (Nat.beq (Nat.land t 33) 32) : OpR) = _
      cases h1 : Nat.beq (Nat.land t 33) 32 with
      | false => rfl
      | true => cases h2 : Nat.beq t u with
        | false => rfl
        | true =>
          have e := cmp_fast (fun a b => bnot (Nat.beq a b)) .neq (x := x) (y := y) (h := h) h1 h2
          show (Bool.rec (motive := fun _ => OpR) (.ok (.a 1 1) h) (.ok (.a 1 0) h) (Nat.beq x y) : OpR) = intCmp (fun a b => bnot (Nat.beq a b)) .neq (.a t x) (.a u y) h
          skip
          refine Eq.trans ?_ e.symm
          cases Nat.beq x y <;> rfl
noncomputable def addH (v w : V) (h : HS) : OpR :=
  V.rec (motive := fun _ => OpR) (fun t x => V.rec (motive := fun _ => OpR) (fun u y => Bool.rec (motive := fun _ => OpR) (intAdd (.a t x) (.a u y) h) (Bool.rec (motive := fun _ => OpR) (intAdd (.a t x) (.a u y) h)
    (Nat.rec (motive := fun _ => OpR) (.ok (.a 38 0) h) (fun m _ => Bool.rec (motive := fun _ => OpR) .no (.ok (.a 38 (Nat.succ m)) h) (Nat.blt m 9223372036854775807)) (Nat.add x y)) (Nat.beq u 38)) (Nat.beq t 38)) (fun u y l r _ _ => intAdd (.a t x) (.b u y l r) h) w) (fun t x l r _ _ => intAdd (.b t x l r) w h) v
theorem addH_eq : addH = intAdd := by
  funext v w h
  cases v with
  | b t x l r => rfl
  | a t x => cases w with
    | b u y l r => rfl
    | a u y =>
      show (Bool.rec (motive := fun _ => OpR) (intAdd (.a t x) (.a u y) h) (Bool.rec (motive := fun _ => OpR) (intAdd (.a t x) (.a u y) h)
        (Nat.rec (motive := fun _ => OpR) (.ok (.a 38 0) h) (fun m _ => Bool.rec (motive := fun _ => OpR) .no (.ok (.a 38 (Nat.succ m)) h) (Nat.blt m 9223372036854775807)) (Nat.add x y)) (Nat.beq u 38)) (Nat.beq t 38) : OpR) = _
      cases h1 : Nat.beq t 38 with
      | false => rfl
      | true => cases h2 : Nat.beq u 38 with
        | false => rfl
        | true =>
          have e : intAdd (.a t x) (.a u y) h = forceN (Nat.add x y) fun z => ifB (Nat.blt z 9223372036854775808) (OpR.ok (.a 38 z) h) .no := by
            show ifB (Nat.beq t 38) (ifB (Nat.beq u 38) (forceN (Nat.add x y) fun z => ifB (Nat.blt z 9223372036854775808) (OpR.ok (.a 38 z) h) .no) (slowI .add t x u y h)) (slowI .add t x u y h) = _
            rw [h1, h2]; rfl
          rw [e, forceN_eq]
          show (Nat.rec (motive := fun _ => OpR) (.ok (.a 38 0) h) (fun m _ => Bool.rec (motive := fun _ => OpR) .no (.ok (.a 38 (Nat.succ m)) h) (Nat.blt m 9223372036854775807)) (Nat.add x y) : OpR) = _
          cases Nat.add x y with
          | zero => rfl
          | succ m =>
            show (Bool.rec (motive := fun _ => OpR) .no (.ok (.a 38 (Nat.succ m)) h) (Nat.blt m 9223372036854775807) : OpR) = ifB (Nat.blt (m + 1) 9223372036854775808) (OpR.ok (.a 38 (Nat.succ m)) h) .no
            have e : Nat.blt (m + 1) 9223372036854775808 = Nat.blt m 9223372036854775807 := by rw [blt_eq, blt_eq]; exact decide_eq_decide.2 (by omega)
            rw [e]; cases Nat.blt m 9223372036854775807 <;> rfl
noncomputable def hget (h : HS) (id : Nat) : Ob := HS.rec (motive := fun _ => Ob) (fun t _ => Tr.get .none (Pa.ofNat id) t) h
noncomputable def load1H (v : V) (h : HS) : OpR :=
  V.rec (motive := fun _ => OpR) (fun _ _ => .no) (fun t id p e _ _ => Bool.rec (motive := fun _ => OpR) .no (V.rec (motive := fun _ => OpR) (fun ver off => V.rec (motive := fun _ => OpR) (fun _ ext =>
    Ob.rec (motive := fun _ => OpR) (fun tag _ _ _ mn tr => Bool.rec (motive := fun _ => OpR) .no (Bool.rec (motive := fun _ => OpR) .no (Bool.rec (motive := fun _ => OpR) .no (okvH (Tr.get .no (Pa.ofNat off) tr) h) (Nat.blt off ext)) (Nat.ble mn ver)) (Nat.beq tag 1)) (hget h id))
    (fun _ _ _ _ _ _ => .no) e) (fun _ _ _ _ _ _ => .no) p) (Nat.beq t 3)) v
theorem load1H_eq : load1H = load1 := by
  funext v h
  cases v with
  | a t x => rfl
  | b t id p e =>
    show (Bool.rec (motive := fun _ => OpR) .no _ (Nat.beq t 3) : OpR) = ifB (Nat.beq t 3) _ .no
    cases Nat.beq t 3 with
    | false => rfl
    | true => cases p with
      | b => rfl
      | a ver off => cases e with
        | b => rfl
        | a xc ext =>
          show (Ob.rec (motive := fun _ => OpR) (fun tag _ _ _ mn tr => Bool.rec (motive := fun _ => OpR) .no (Bool.rec (motive := fun _ => OpR) .no (Bool.rec (motive := fun _ => OpR) .no (okvH (Tr.get .no (Pa.ofNat off) tr) h) (Nat.blt off ext)) (Nat.ble mn ver)) (Nat.beq tag 1)) (hget h id) : OpR)
            = onCells (hget h id) OpR.no fun _ _ _ mn t => ifB (Nat.ble mn ver) (ifB (Nat.blt off ext) (okv (Tr.get .no (Pa.ofNat off) t) h) .no) .no
          cases hget h id with
          | mk tag n el cur mn tr =>
            show (Bool.rec (motive := fun _ => OpR) .no (Bool.rec (motive := fun _ => OpR) .no (Bool.rec (motive := fun _ => OpR) .no (okvH (Tr.get .no (Pa.ofNat off) tr) h) (Nat.blt off ext)) (Nat.ble mn ver)) (Nat.beq tag 1) : OpR) = ifB (Nat.beq tag 1) (ifB (Nat.ble mn ver) (ifB (Nat.blt off ext) (okv (Tr.get .no (Pa.ofNat off) tr) h) .no) .no) .no
            rw [okvH_eq]
            cases Nat.beq tag 1 <;> cases Nat.ble mn ver <;> cases Nat.blt off ext <;> rfl

/-! operands first -/
noncomputable def p1S (f : V → HS → OpR) (x : RefB) : OpC := RefB.rec (motive := fun _ => OpC) (fun fx => .p fun env T h => f (fx env T) h) x
noncomputable def p2S (f : V → V → HS → OpR) (x y : RefB) : OpC := RefB.rec (motive := fun _ => OpC) (fun fx => RefB.rec (motive := fun _ => OpC) (fun fy => .p fun env T h => f (fx env T) (fy env T) h) y) x
noncomputable def p3S (f : V → V → V → HS → OpR) (x y z : RefB) : OpC := RefB.rec (motive := fun _ => OpC) (fun fx => RefB.rec (motive := fun _ => OpC) (fun fy => RefB.rec (motive := fun _ => OpC) (fun fz => .p fun env T h => f (fx env T) (fy env T) (fz env T) h) z) y) x
noncomputable def r1S (f : V → HS → OpR) (x : RefB) : OpC := RefB.rec (motive := fun _ => OpC) (fun fx => .r fun env T h => f (fx env T) h) x
noncomputable def e2S (f : V → V → HS → OpR) (x y : RefB) : OpC := RefB.rec (motive := fun _ => OpC) (fun fx => RefB.rec (motive := fun _ => OpC) (fun fy => .e fun _ env T h => f (fx env T) (fy env T) h) y) x
theorem p1S_eq (f : V → HS → OpR) (x : RefB) : p1S f x = .p (f1 f x) := by cases x; rfl
theorem p2S_eq (f : V → V → HS → OpR) (x y : RefB) : p2S f x y = .p (f2 f x y) := by cases x; cases y; rfl
theorem p3S_eq (f : V → V → V → HS → OpR) (x y z : RefB) : p3S f x y z = .p (f3 f x y z) := by cases x; cases y; cases z; rfl
theorem r1S_eq (f : V → HS → OpR) (x : RefB) : r1S f x = .r (f1 f x) := by cases x; rfl
theorem e2S_eq (f : V → V → HS → OpR) (x y : RefB) : e2S f x y = .e (e2 f x y) := by cases x; cases y; rfl
inductive LstB where
  | mk (f : V → Tr V → (V → OpR) → OpR)
noncomputable def lstC (r : RefB) (l : LstB) : LstB := RefB.rec (motive := fun _ => LstB) (fun fr => LstB.rec (motive := fun _ => LstB) (fun g => .mk fun env T k =>
  V.rec (motive := fun _ => OpR) (fun t x => Bool.rec (motive := fun _ => OpR) (g env T fun l => k (.cons (.a t x) l)) .no (Nat.beq t 0)) (fun t x l r _ _ => g env T fun q => k (.cons (.b t x l r) q)) (fr env T)) l) r
noncomputable def lstS (l : RefL) : LstB := RefL.rec (motive := fun _ => LstB) (.mk fun _ _ k => k .nilL) (fun r _ ih => lstC r ih) l
theorem lstS_eq (l : RefL) : lstS l = .mk (getL l) := by
  induction l with
  | nil => rfl
  | cons r l ih =>
    show lstC r (lstS l) = _
    rw [ih]
    cases r with
    | mk f =>
      show LstB.mk _ = LstB.mk _
      congr 1
      funext env T k
      show (V.rec (motive := fun _ => OpR) (fun t x => Bool.rec (motive := fun _ => OpR) (getL l env T fun l => k (.cons (.a t x) l)) .no (Nat.beq t 0)) (fun t x l' r _ _ => getL l env T fun q => k (.cons (.b t x l' r) q)) (f env T) : OpR) = forceV (f env T) .no fun v => getL l env T fun q => k (.cons v q)
      cases f env T with
      | a t x => cases t <;> rfl
      | b t x l r => rfl
noncomputable def callFS (f : Nat) (l : RefL) : OpC := LstB.rec (motive := fun _ => OpC) (fun g => .e fun ce env T h => g env T fun args => ce f args h) (lstS l)
noncomputable def callVS (x : RefB) (l : RefL) : OpC := RefB.rec (motive := fun _ => OpC) (fun fx => LstB.rec (motive := fun _ => OpC) (fun g => .e fun ce env T h => onTagB 8 (fx env T) .no fun f caps first => g env T fun args => ce f (appL first (appL args caps)) h) (lstS l)) x
theorem callFS_eq (f : Nat) (l : RefL) : callFS f l = .e (callF f l) := by unfold callFS; rw [lstS_eq]; rfl
theorem callVS_eq (x : RefB) (l : RefL) : callVS x l = .e (callV x l) := by unfold callVS; rw [lstS_eq]; cases x; rfl
noncomputable def fieldS (o : Nat) (x : RefB) : OpC := forceN o fun o => p1S (fieldA o) x
noncomputable def ixS (n : Nat) (x i : RefB) : OpC := forceN n fun n => p2S (ixSlice n) x i
noncomputable def loadNS (n : Nat) (x : RefB) : OpC := forceN n fun n => r1S (loadN n) x
noncomputable def storeNS (n : Nat) (x y : RefB) : OpC := forceN n fun n => e2S (storeN n) x y
noncomputable def compOpS (P : Program) (R : Operand → RefB) (op : Op) : OpC :=
  match op with
  | .move x | .assign x => p1S okvH (R x)
  | .binOp op t x y ty => (match P.underlying t with
    | some (.int _) => (match op with
      | .lss => p2S lssH (R x) (R y)
      | .leq => p2S leqH (R x) (R y)
      | .gtr => p2S gtrH (R x) (R y)
      | .geq => p2S geqH (R x) (R y)
      | .eql => p2S eqlH (R x) (R y)
      | .neq => p2S neqH (R x) (R y)
      | .add => p2S addH (R x) (R y)
      | op => compOp P R (.binOp op t x y ty))
    | some .string => (match op with
      | .eql => p2S strEqX (R x) (R y)
      | .neq => p2S strNeX (R x) (R y)
      | op => compOp P R (.binOp op t x y ty))
    | _ => compOp P R (.binOp op t x y ty))
  | .pick c a b => p3S pickV (R c) (R a) (R b)
  | .nilCheck x => p1S nilV (R x)
  | .load t x => (match aggOf P t, szOf P t with
    | some false, _ => r1S load1H (R x)
    | some true, some n => loadNS n (R x)
    | _, _ => .bad)
  | .store t x y => (match aggOf P t, szOf P t with
    | some false, some 1 => e2S store1 (R x) (R y)
    | some true, some n => storeNS n (R x) (R y)
    | _, _ => .bad)
  | .fieldAddr s x f => (match P.underlying s with
    | some (.struct fs) => (match fs[f]? with | some fd => (match szOf P fd.type with | some (_ + 1) => fieldS fd.offset (R x) | _ => .bad) | none => .bad)
    | _ => .bad)
  | .indexAddr t x i => (match P.underlying t with
    | some (.slice e) => (match szOf P e with | some n => ixS n (R x) (R i) | none => .bad)
    | _ => compOp P R (.indexAddr t x i))
  | .index t x i => (match P.underlying t with
    | some .string => p2S ixStr (R x) (R i)
    | _ => .bad)
  | .unOp .not t x => p1S notV (R x)
  | .extract x i => p1S (extractV i) (R x)
  | .call c => (match c.callee with
    | .value (.func f) => callFS f (refL R c.args.toList)
    | .value (.tmp t) => callVS (R (.tmp t)) (refL R c.args.toList)
    | _ => compOp P R (.call c))
  | op => compOp P R op
theorem compOpS_eq (P : Program) (R : Operand → RefB) : compOpS P R = compOp P R := by
  funext op
  cases op <;> (try rfl)
  case move x => show p1S okvH (R x) = .p (f1 okv (R x)); rw [p1S_eq, okvH_eq]
  case assign x => show p1S okvH (R x) = .p (f1 okv (R x)); rw [p1S_eq, okvH_eq]
  case load t x =>
    show (match aggOf P t, szOf P t with | some false, _ => r1S load1H (R x) | some true, some n => loadNS n (R x) | _, _ => .bad) = cLoad P R t x
    unfold cLoad
    cases aggOf P t with
    | none => cases szOf P t <;> rfl
    | some b => cases b with
      | false => show r1S load1H (R x) = .r (f1 load1 (R x)); rw [r1S_eq, load1H_eq]
      | true => cases szOf P t with
        | none => rfl
        | some n => show loadNS n (R x) = .r (f1 (loadN n) (R x)); unfold loadNS; rw [forceN_eq, r1S_eq]
  case store t x y =>
    show (match aggOf P t, szOf P t with | some false, some 1 => e2S store1 (R x) (R y) | some true, some n => storeNS n (R x) (R y) | _, _ => .bad) = cStore P R t x y
    unfold cStore
    cases aggOf P t with
    | none => cases szOf P t <;> rfl
    | some b => cases b with
      | false => cases szOf P t with
        | none => rfl
        | some n => match n with
          | 0 => rfl
          | 1 => exact e2S_eq _ _ _
          | n + 2 => rfl
      | true => cases szOf P t with
        | none => rfl
        | some n => show storeNS n (R x) (R y) = .e (e2 (storeN n) (R x) (R y)); unfold storeNS; rw [forceN_eq, e2S_eq]
  case fieldAddr s x f =>
    show (match P.underlying s with | some (.struct fs) => (match fs[f]? with | some fd => (match szOf P fd.type with | some (_ + 1) => fieldS fd.offset (R x) | _ => .bad) | none => .bad) | _ => .bad) = cFieldA P R s x f
    unfold cFieldA
    cases P.underlying s with
    | none => rfl
    | some d =>
      cases d <;> (try rfl)
      rename_i fs
      dsimp only
      cases fs[f]? with
      | none => rfl
      | some fd =>
        dsimp only
        cases szOf P fd.type with
        | none => rfl
        | some n => cases n with
          | zero => rfl
          | succ n => show fieldS fd.offset (R x) = .p (f1 (fieldA fd.offset) (R x)); unfold fieldS; rw [forceN_eq, p1S_eq]
  case indexAddr t x i =>
    show (match P.underlying t with | some (.slice e) => (match szOf P e with | some n => ixS n (R x) (R i) | none => .bad) | _ => compOp P R (.indexAddr t x i)) = cIxA P R t x i
    split
    · rename_i e hu
      unfold cIxA; rw [hu]
      dsimp only
      cases szOf P e with
      | none => rfl
      | some n => show ixS n (R x) (R i) = .p (f2 (ixSlice n) (R x) (R i)); unfold ixS; rw [forceN_eq, p2S_eq]
    · rfl
  case unOp op t x =>
    cases op <;> rfl
  case binOp op t x y ty =>
    show (match P.underlying t with
      | some (.int _) => (match op with
        | .lss => p2S lssH (R x) (R y)
        | .leq => p2S leqH (R x) (R y)
        | .gtr => p2S gtrH (R x) (R y)
        | .geq => p2S geqH (R x) (R y)
        | .eql => p2S eqlH (R x) (R y)
        | .neq => p2S neqH (R x) (R y)
        | .add => p2S addH (R x) (R y)
        | op => compOp P R (.binOp op t x y ty))
      | some .string => (match op with
        | .eql => p2S strEqX (R x) (R y)
        | .neq => p2S strNeX (R x) (R y)
        | op => compOp P R (.binOp op t x y ty))
      | _ => compOp P R (.binOp op t x y ty)) = cBin P R op t x y
    split
    · rename_i k hu
      have e : cBin P R op t x y = .p (f2 (cInt op) (R x) (R y)) := by unfold cBin; rw [hu]
      rw [e]
      cases op <;> first
        | (rw [p2S_eq, lssH_eq]; rfl) | (rw [p2S_eq, leqH_eq]; rfl) | (rw [p2S_eq, gtrH_eq]; rfl) | (rw [p2S_eq, geqH_eq]; rfl) | (rw [p2S_eq, eqlH_eq]; rfl) | (rw [p2S_eq, neqH_eq]; rfl) | (rw [p2S_eq, addH_eq]; rfl) | exact e
    · rename_i hu
      cases op <;> first
        | rfl
        | (show p2S strEqX (R x) (R y) = _; rw [p2S_eq]; unfold cBin; rw [hu]; rfl)
        | (show p2S strNeX (R x) (R y) = _; rw [p2S_eq]; unfold cBin; rw [hu]; rfl)
    · rfl
  case call c =>
    show (match c.callee with | .value (.func f) => callFS f (refL R c.args.toList) | .value (.tmp t) => callVS (R (.tmp t)) (refL R c.args.toList) | _ => compOp P R (.call c)) = cCall P R c
    split
    · rename_i f hc; unfold cCall; rw [hc]; exact callFS_eq _ _
    · rename_i f hc; unfold cCall; rw [hc]; exact callVS_eq _ _
    · rfl
end Go.Ev

/- The same code in another form: regions, code. -/
set_option autoImplicit false
namespace Go.Ev
open Go.RowKit

inductive ItB where
  | mk (f : CE → Nat → V → Tr V → HS → (V → HS → Out) → Out)
noncomputable def opS (c : OpC) (off : Nat) (ck : List Ck) : ItB :=
  OpC.rec (motive := fun _ => ItB) (.mk fun _ _ _ _ _ _ => .bad 13)
    (fun f => .mk fun _ _ env T h k => OpR.rec (motive := fun _ => Out) (fun c => .bad c) (fun v _ => k v h) (f env T h))
    (fun f => .mk fun _ _ env T h k => OpR.rec (motive := fun _ => Out) (fun c => .bad c) (fun v _ => k v h) (f env T h))
    (fun f => .mk fun _ base env T h k => forceN (Nat.add base off) fun id => OpR.rec (motive := fun _ => Out) (fun c => .bad c) (fun v h1 => onOb (h1.get 0) fun tag n el _ mn t => h.putK id (.mk tag n el 0 mn t) fun h' => k v h') (f id env T))
    (fun f => List.rec (motive := fun _ => ItB) (.mk fun ce _ env T h k => OpR.rec (motive := fun _ => Out) (fun c => .bad c) (fun v h' => k v h') (f ce env T h))
      (fun _ _ _ => .mk fun ce _ env T h k => OpR.rec (motive := fun _ => Out) (fun c => .bad c) (fun v h' => ckRun ck (.cons v env) T h' (k v h')) (f ce env T h)) ck)
    (fun f => .mk fun _ _ env T h k => OpR.rec (motive := fun _ => Out) (fun c => .bad c) (fun v _ => k v h) (f env T h)) c
theorem opS_eq (c : OpC) (off : Nat) (ck : List Ck) : opS c off ck = .mk fun ce base env T h k => opRun c ck (Nat.add base off) ce env T h k := by
  cases c with
  | bad => rfl
  | p f => rfl
  | r f => rfl
  | m f => rfl
  | e f => cases ck <;> rfl
  | d f => rfl
noncomputable def gdS (g : Gd) (x : ItB) : ItB :=
  Gd.rec (motive := fun _ => ItB) x (fun r want => RefB.rec (motive := fun _ => ItB) (fun fr => ItB.rec (motive := fun _ => ItB) (fun f => .mk fun ce base env T h k => gateV (fr env T) want (f ce base env T h k) (k .undef h) (.bad 14)) x) r) g
noncomputable def itS (it : It) : ItB := It.rec (motive := fun _ => ItB) (fun g c off ck => gdS g (opS c off ck)) it
theorem itS_eq (it : It) : itS it = .mk fun ce base env T h k => itRun it ce base env T h k := by
  obtain ⟨g, c, off, ck⟩ := it
  show gdS g (opS c off ck) = _
  rw [opS_eq]
  cases g with
  | none => rfl
  | mk r want => cases r; rfl
inductive RunB where
  | mk (f : CE → Nat → Tr V → V → HS → (V → HS → Out) → Out)
noncomputable def runC (x : ItB) (r : RunB) : RunB := ItB.rec (motive := fun _ => RunB) (fun f => RunB.rec (motive := fun _ => RunB) (fun g => .mk fun ce base T env h k => f ce base env T h fun v h' => g ce base T (.cons v env) h' k) r) x
noncomputable def runS (l : List It) : RunB := List.rec (motive := fun _ => RunB) (.mk fun _ _ _ env h k => k env h) (fun it _ ih => runC (itS it) ih) l
theorem runS_eq (l : List It) : runS l = .mk fun ce base T env h k => runI l ce base T env h k := by
  induction l with
  | nil => rfl
  | cons it l ih =>
    show runC (itS it) (runS l) = _
    rw [ih, itS_eq]; rfl
inductive CodB where
  | mk (f : CF)
noncomputable def regS (r : RunB) (cnt : Nat) (p : PerB) : CodB :=
  RunB.rec (motive := fun _ => CodB) (fun g => PerB.rec (motive := fun _ => CodB) (fun q => Nat.rec (motive := fun _ => CodB)
    (.mk fun ce T h => HS.rec (motive := fun _ => Out) (fun _ n => g ce n T .nilL h fun env h' => q env T fun T' => .fin 0 T' h') h)
    (fun c _ => .mk fun ce T h => HS.rec (motive := fun _ => Out) (fun t n => forceN (Nat.add n (Nat.succ c)) fun n' => g ce n T .nilL (.mk t n') fun env h' => q env T fun T' => .fin 0 T' h') h) cnt) p) r
theorem regS_eq (l : List It) (cnt : Nat) (ps : List Ps) : regS (runS l) cnt (perS ps) = .mk (regionF l cnt ps) := by
  rw [runS_eq, perS_eq]
  cases cnt with
  | zero =>
    show CodB.mk _ = CodB.mk _
    congr 1
    funext ce T h
    cases h with
    | mk t n =>
      show runI l ce n T .nilL (.mk t n) (fun env h' => persistK ps env T fun T' => .fin 0 T' h') = forceN (Nat.add n 0) fun n' => runI l ce n T .nilL (.mk t n') fun env h' => persistK ps env T fun T' => .fin 0 T' h'
      rw [forceN_eq]; rfl
  | succ c => rfl
section
variable (P : Program) (gz : Nat → Option Nat) (K : List Tmp)
section
variable (ops : Array Oper) (draw : Bool) (ms : List Nat)
noncomputable def itCS (s : St) (o : Oper) : OpC := compOpS P (compRefS gz K s.ds) o.op
noncomputable def itGS (s : St) (o : Oper) : Gd := gdOf ops (compRefS gz K s.ds) o
noncomputable def mkItS (s : St) (x : Nat × Oper) : It := .mk (itGS gz K ops s x.2) (itCS P gz K s x.2) s.off (cksOf draw (maskAt ms x.1) s.pos s.rs)
noncomputable def nextStS (s : St) (x : Nat × Oper) : St := ⟨s.pos + 1, x.2.dst :: s.ds, offNext s.off (itCS P gz K s x.2), rsNext s.pos x.1 (itGS gz K ops s x.2) s.rs (itCS P gz K s x.2)⟩
noncomputable def itemsGoS : St → List (Nat × Oper) → List It
  | _, [] => []
  | s, x :: l => mkItS P gz K ops draw ms s x :: itemsGoS (nextStS P gz K ops s x) l
noncomputable def stAtS : St → List (Nat × Oper) → Nat → St
  | s, _, 0 => s
  | s, [], _ + 1 => s
  | s, x :: l, j + 1 => stAtS (nextStS P gz K ops s x) l j
theorem itCS_eq (s : St) (o : Oper) : itCS P gz K s o = itC P gz K s o := by unfold itCS itC; rw [compOpS_eq, compRefS_eq]
theorem itGS_eq (s : St) (o : Oper) : itGS gz K ops s o = itG gz K ops s o := by unfold itGS itG; rw [compRefS_eq]
theorem mkItS_eq (s : St) (x : Nat × Oper) : mkItS P gz K ops draw ms s x = mkIt P gz K ops draw ms s x := by unfold mkItS mkIt; rw [itCS_eq, itGS_eq]
theorem nextStS_eq (s : St) (x : Nat × Oper) : nextStS P gz K ops s x = nextSt P gz K ops s x := by unfold nextStS nextSt; rw [itCS_eq, itGS_eq]
theorem itemsGoS_eq : ∀ (l : List (Nat × Oper)) (s : St), itemsGoS P gz K ops draw ms s l = itemsGo P gz K ops draw ms s l
  | [], s => rfl
  | x :: l, s => by show mkItS P gz K ops draw ms s x :: itemsGoS P gz K ops draw ms (nextStS P gz K ops s x) l = _; rw [mkItS_eq, nextStS_eq, itemsGoS_eq l]; rfl
theorem stAtS_eq : ∀ (l : List (Nat × Oper)) (s : St) (j : Nat), stAtS P gz K ops s l j = stAt P gz K ops s l j
  | [], s, 0 => rfl
  | [], s, j + 1 => rfl
  | x :: l, s, 0 => rfl
  | x :: l, s, j + 1 => by show stAtS P gz K ops (nextStS P gz K ops s x) l j = _; rw [nextStS_eq, stAtS_eq l]; rfl
end
noncomputable def compRegS (ops : Array Oper) (draw : Bool) : CodB :=
  regS (runS (itemsGoS P gz K ops draw (masks ops.toList) s00 (opsAt ops (orderOf ops draw)))) (stAtS P gz K ops s00 (opsAt ops (orderOf ops draw)) (opsAt ops (orderOf ops draw)).length).off
    (perS (((opsAt ops (orderOf ops draw)).map (·.2)).reverse.map (psOf K)))
theorem compRegS_eq (ops : Array Oper) (draw : Bool) : compRegS P gz K ops draw = .mk (compRegion P gz K ops draw) := by
  unfold compRegS compRegion
  rw [regS_eq, itemsGoS_eq, stAtS_eq]; rfl
noncomputable def seqS (a b : CodB) : CodB := CodB.rec (motive := fun _ => CodB) (fun f => CodB.rec (motive := fun _ => CodB) (fun g => .mk fun ce T h => Out.rec (motive := fun _ => Out) (fun c => .bad c) (fun e T1 h1 => Nat.rec (motive := fun _ => Out) (g ce T1 h1) (fun e' _ => .fin (Nat.succ e') T1 h1) e) (f ce T h)) b) a
theorem seqS_eq (f g : CF) : seqS (.mk f) (.mk g) = .mk (seqF f g) := rfl
noncomputable def condS (r : RefB) (a b : CodB) : CodB := RefB.rec (motive := fun _ => CodB) (fun fr => CodB.rec (motive := fun _ => CodB) (fun f => CodB.rec (motive := fun _ => CodB) (fun g => .mk fun ce T h =>
  V.rec (motive := fun _ => Out) (fun t x => Bool.rec (motive := fun _ => Out) (.bad 22) (Nat.rec (motive := fun _ => Out) (g ce T h) (fun _ _ => f ce T h) x) (Nat.beq t 1)) (fun _ _ _ _ _ _ => .bad 22) (fr .nilL T)) b) a) r
theorem condS_eq (r : RefB) (f g : CF) : condS r (.mk f) (.mk g) = .mk (condF r f g) := by cases r; rfl
noncomputable def blockS (id : Nat) (a : CodB) : CodB := CodB.rec (motive := fun _ => CodB) (fun f => .mk fun ce T h => Out.rec (motive := fun _ => Out) (fun c => .bad c) (fun e T1 h1 => Bool.rec (motive := fun _ => Out) (.fin e T1 h1) (.fin 0 T1 h1) (Nat.beq e (Nat.succ (Nat.succ id)))) (f ce T h)) a
theorem blockS_eq (id : Nat) (f : CF) : blockS id (.mk f) = .mk (blockF id f) := rfl
noncomputable def loopNS (f : CF) (ce : CE) (n : Nat) : Tr V → HS → Out :=
  Nat.rec (motive := fun _ => Tr V → HS → Out) (fun _ _ => .bad 23) (fun _ ih T h => Out.rec (motive := fun _ => Out) (fun c => .bad c) (fun e T1 h1 => Nat.rec (motive := fun _ => Out) (ih T1 h1) (fun e' _ => .fin (Nat.succ e') T1 h1) e) (f ce T h)) n
theorem loopNS_eq : loopNS = loopN := rfl
noncomputable def loopS (a : CodB) : CodB := CodB.rec (motive := fun _ => CodB) (fun f => .mk fun ce T h => loopNS f ce 1000000 T h) a
theorem loopS_eq (f : CF) : loopS (.mk f) = .mk (loopF f) := by unfold loopF; rw [← loopNS_eq]; rfl
noncomputable def codeS : Code → CodB
  | .skip => .mk fun _ T h => .fin 0 T h
  | .region _ ops d => compRegS P gz K ops d
  | .seq a b => seqS (codeS a) (codeS b)
  | .cond c a b => condS (compRefS gz K [] c) (codeS a) (codeS b)
  | .block id a => blockS id (codeS a)
  | .loop a => loopS (codeS a)
  | .scope a => codeS a
  | .exit id => .mk fun _ T h => .fin (id + 2) T h
  | .label _ => .mk fun _ T h => .fin 0 T h
  | .ret => .mk fun _ T h => .fin 1 T h
  | _ => .mk badF
theorem codeS_eq : ∀ c : Code, codeS P gz K c = .mk (compCode P gz K c)
  | .skip => rfl
  | .region _ ops d => compRegS_eq P gz K ops d
  | .seq a b => by show seqS (codeS P gz K a) (codeS P gz K b) = _; rw [codeS_eq a, codeS_eq b]; rfl
  | .cond c a b => by show condS (compRefS gz K [] c) (codeS P gz K a) (codeS P gz K b) = _; rw [codeS_eq a, codeS_eq b, condS_eq, compRefS_eq]; rfl
  | .block id a => by show blockS id (codeS P gz K a) = _; rw [codeS_eq a]; rfl
  | .loop a => by show loopS (codeS P gz K a) = _; rw [codeS_eq a, loopS_eq, show compCode P gz K (.loop a) = loopF (compCode P gz K a) by rw [compCode]]
  | .scope a => codeS_eq a
  | .exit id => rfl
  | .label _ => rfl
  | .ret => rfl
  | .rangeFunc .. => rfl
  | .goto _ => rfl
  | .refuse _ => rfl
end
end Go.Ev

/- Functions in the other form; calls with fuel. -/
set_option autoImplicit false
namespace Go.Ev
open Go.RowKit

/-- a store in a tree; results are operations' -/
inductive SetR where
  | mk (f : V → Tr V → (Tr V → OpR) → OpR)
noncomputable def setRL (r : SetR) : SetR := SetR.rec (motive := fun _ => SetR) (fun f => .mk fun a t k => Tr.rec (motive := fun _ => OpR) (f a .lf fun l' => k (.nd l' .no .lf)) (fun l v r _ _ => f a l fun l' => k (.nd l' v r)) t) r
noncomputable def setRR (r : SetR) : SetR := SetR.rec (motive := fun _ => SetR) (fun f => .mk fun a t k => Tr.rec (motive := fun _ => OpR) (f a .lf fun r' => k (.nd .lf .no r')) (fun l v r _ _ => f a r fun r' => k (.nd l v r')) t) r
noncomputable def setRS (p : Pa) : SetR := Pa.rec (motive := fun _ => SetR) (.mk fun a t k => Tr.rec (motive := fun _ => OpR) (k (.nd .lf a .lf)) (fun l _ r _ _ => k (.nd l a r)) t) (fun _ ih => setRL ih) (fun _ ih => setRR ih) p
theorem setRS_eq (p : Pa) : setRS p = .mk fun a t k => Tr.setK .no a p t k := by
  induction p with
  | h => rfl
  | l p ih => show setRL (setRS p) = _; rw [ih]; rfl
  | r p ih => show setRR (setRS p) = _; rw [ih]; rfl
inductive BndB where
  | mk (f : V → Tr V → (Tr V → OpR) → OpR)
noncomputable def bndN (b : BndB) : BndB := BndB.rec (motive := fun _ => BndB) (fun g => .mk fun l T k => V.rec (motive := fun _ => OpR) (fun _ _ => .bad 32) (fun _ _ _ r _ _ => g r T k) l) b
noncomputable def bndC (s : SetR) (b : BndB) : BndB := SetR.rec (motive := fun _ => BndB) (fun s => BndB.rec (motive := fun _ => BndB) (fun g => .mk fun l T k => V.rec (motive := fun _ => OpR) (fun _ _ => .bad 32) (fun _ _ a r _ _ => s a T fun T' => g r T' k) l) b) s
noncomputable def bndS (ps : List (Option Pa)) : BndB :=
  List.rec (motive := fun _ => BndB) (.mk fun l T k => V.rec (motive := fun _ => OpR) (fun _ _ => k T) (fun _ _ _ _ _ _ => .bad 31) l) (fun p _ ih => Option.rec (motive := fun _ => BndB) (bndN ih) (fun q => bndC (setRS q) ih) p) ps
theorem bndS_eq (ps : List (Option Pa)) : bndS ps = .mk (bindK ps) := by
  induction ps with
  | nil => rfl
  | cons p ps ih =>
    cases p with
    | none => show bndN (bndS ps) = _; rw [ih]; rfl
    | some q => show bndC (setRS q) (bndS ps) = _; rw [ih, setRS_eq]; rfl
inductive ResL where
  | mk (f : Tr V → HS → (V → OpR) → OpR)
noncomputable def resT (r : RefB) (x : ResL) : ResL := RefB.rec (motive := fun _ => ResL) (fun fr => ResL.rec (motive := fun _ => ResL) (fun g => .mk fun T h k =>
  V.rec (motive := fun _ => OpR) (fun t y => Bool.rec (motive := fun _ => OpR) (g T h fun l => k (.cons (.a t y) l)) .no (Nat.beq t 0)) (fun t y l r _ _ => g T h fun q => k (.cons (.b t y l r) q)) (fr .nilL T)) x) r
noncomputable def resCl (r : RefB) (f : V → HS → OpR) (x : ResL) : ResL := RefB.rec (motive := fun _ => ResL) (fun fr => ResL.rec (motive := fun _ => ResL) (fun g => .mk fun T h k => onRV (f (fr .nilL T) h) fun v _ => forceV v .no fun v => g T h fun l => k (.cons v l)) x) r
noncomputable def resS (rs : List ResB) : ResL :=
  List.rec (motive := fun _ => ResL) (.mk fun _ _ k => k .nilL) (fun r _ ih => ResB.rec (motive := fun _ => ResL) (.mk fun _ _ _ => .bad 41) (fun r => resT r ih) (fun r f => resCl r f ih) r) rs
theorem resS_eq (rs : List ResB) : resS rs = .mk fun T h k => resK rs T h k := by
  induction rs with
  | nil => rfl
  | cons r rs ih =>
    cases r with
    | bad => rfl
    | t r =>
      show resT r (resS rs) = _
      rw [ih]
      cases r with
      | mk f =>
        show ResL.mk _ = ResL.mk _
        congr 1
        funext T h k
        show (V.rec (motive := fun _ => OpR) (fun t y => Bool.rec (motive := fun _ => OpR) (resK rs T h fun l => k (.cons (.a t y) l)) .no (Nat.beq t 0)) (fun t y l r _ _ => resK rs T h fun q => k (.cons (.b t y l r) q)) (f .nilL T) : OpR) = forceV (f .nilL T) .no fun v => resK rs T h fun l => k (.cons v l)
        cases f .nilL T with
        | a t x => cases t <;> rfl
        | b t x l r => rfl
    | c r f =>
      show resCl r f (resS rs) = _
      rw [ih]; cases r; rfl
inductive FnX where
  | no
  | mk (f : CE → V → HS → OpR)
noncomputable def fnS (tab : Tr FnB) (ps : List (Option Pa)) (code : CodB) (pd : Pa) (df : Bool) (rs : List ResB) : FnX :=
  BndB.rec (motive := fun _ => FnX) (fun b => CodB.rec (motive := fun _ => FnX) (fun c => RefB.rec (motive := fun _ => FnX) (fun gd => ResL.rec (motive := fun _ => FnX) (fun rr =>
    .mk fun ce args h => b args .lf fun T => Out.rec (motive := fun _ => OpR) (fun c => .bad c) (fun e T1 h1 => Bool.rec (motive := fun _ => OpR) (.bad 55) (rcOnly tab (rr T1 h1 fun l => retV l h1) (gd .nilL T1)) (Nat.ble e 1)) (c ce T h)) (resS rs)) (getS pd)) code) (bndS ps)
theorem fnS_eq (tab : Tr FnB) (ps : List (Option Pa)) (code : CF) (pd : Pa) (df : Bool) (rs : List ResB) : fnS tab ps (.mk code) pd df rs = .mk fun ce args h => bodyB tab ce args h (.mk ps code pd rs) := by
  unfold fnS
  rw [bndS_eq, resS_eq, getS_eq]; rfl
def FxOk (P : Program) (gz : Nat → Option Nat) (f : Nat) : FnX → Prop
  | .no => True
  | .mk g => ∀ ce, CeOk P gz ce → ∀ (args : V) (h : HS) (r : V) (h' : HS) (ι : Em) (w : World) (avs : Array Value), g ce args h = .ok r h' → HRel ι h w → GRel gz ι → lr ι args avs.toList →
    CallOk P f avs w fun | .returned u, w' => ∃ ι', HRel ι' h' w' ∧ Ext ι h w ι' h' w' ∧ vr ι' r u | _, _ => False
/-- bodies of deferred functions that do nothing: the only ones -/
noncomputable def compFx (tab : Tr FnB) (P : Program) (gz : Nat → Option Nat) (K : List Tmp) (np : Nat) (c : Code) (rs : List ResultVar) : FnX :=
  fnS tab (parsOf K 0 np) (codeS P gz K c) (Pa.ofNat K.length) true (rs.map (resOf P gz K))
theorem compFx_ok {P : Program} {gz : Nat → Option Nat} {f : Nat} {fn : Func} {tab : Tr FnB} (ht : ∀ f, FnOk P gz f (Tr.get .no (Pa.ofNat f) tab)) (K : List Tmp) (np : Nat) (hm : P.follows .mixedOrders = true) (hf : P.funcs[f]? = some fn) (hc : fnChk fn np = true) :
    FxOk P gz f (compFx tab P gz K np (cOf fn) fn.results.toList) := by
  unfold compFx
  rw [codeS_eq, fnS_eq]
  intro ce hce args h r h' ι w avs hh H G hl
  exact bodyB_fn ht hce (fnOk_of K np hm hf hc) hh H G hl
noncomputable def tabX (l : List (Nat × FnX)) : Tr FnX := List.rec (motive := fun _ => Tr FnX) .lf (fun p _ ih => Tr.set .no p.2 (Pa.ofNat p.1) ih) l
def AllFx (P : Program) (gz : Nat → Option Nat) : List (Nat × FnX) → Prop
  | [] => True
  | p :: l => FxOk P gz p.1 p.2 ∧ AllFx P gz l
theorem tabX_ok {P : Program} {gz : Nat → Option Nat} : ∀ (l : List (Nat × FnX)), AllFx P gz l → ∀ f, FxOk P gz f (Tr.get .no (Pa.ofNat f) (tabX l))
  | [], _, f => by
    have : Tr.get .no (Pa.ofNat f) (tabX []) = FnX.no := Tr.get_lf _ _
    rw [this]; trivial
  | p :: l, h, f => by
    have e : Tr.get .no (Pa.ofNat f) (tabX (p :: l)) = if f = p.1 then p.2 else Tr.get .no (Pa.ofNat f) (tabX l) := Tr.at_put FnX.no (tabX l) p.1 f p.2
    rw [e]
    by_cases hf : f = p.1
    · rw [if_pos hf, hf]; exact h.1
    · rw [if_neg hf]; exact tabX_ok l h.2 f
noncomputable def runX (tab : Tr FnX) (n : Nat) : CE := Nat.rec (motive := fun _ => CE) noE (fun _ ih f args h => FnX.rec (motive := fun _ => OpR) (.bad 71) (fun g => g ih args h) (Tr.get .no (Pa.ofNat f) tab)) n
theorem runX_ok {P : Program} {gz : Nat → Option Nat} {tab : Tr FnX} (ht : ∀ f, FxOk P gz f (Tr.get .no (Pa.ofNat f) tab)) : ∀ n, CeOk P gz (runX tab n)
  | 0 => no_ok
  | n + 1 => by
    intro f args h r h' ι w avs hh H G hl
    have hh : FnX.rec (motive := fun _ => OpR) (.bad 71) (fun g => g (runX tab n) args h) (Tr.get .no (Pa.ofNat f) tab) = .ok r h' := hh
    have hf := ht f
    cases hx : Tr.get .no (Pa.ofNat f) tab with
    | no => rw [hx] at hh; cases hh
    | mk g =>
      rw [hx] at hh hf
      exact hf (runX tab n) (runX_ok ht n) args h r h' ι w avs hh H G hl
/-- a call that is answered as before; else the other -/
noncomputable def memoX (m : CE) (f : Nat) (x : FnX) : FnX := FnX.rec (motive := fun _ => FnX) (.mk fun _ args h => m f args h) (fun g => .mk fun ce args h => OpR.rec (motive := fun _ => OpR) (fun _ => g ce args h) (fun v h' => .ok v h') (m f args h)) x
theorem memoX_ok {P : Program} {gz : Nat → Option Nat} {m : CE} {f : Nat} {x : FnX} (hm : CeOk P gz m) (hx : FxOk P gz f x) : FxOk P gz f (memoX m f x) := by
  cases x with
  | no => intro ce hce args h r h' ι w avs hh H G hl; exact hm f args h r h' ι w avs hh H G hl
  | mk g =>
    intro ce hce args h r h' ι w avs hh H G hl
    have hh : OpR.rec (motive := fun _ => OpR) (fun _ => g ce args h) (fun v h' => .ok v h') (m f args h) = .ok r h' := hh
    cases hq : m f args h with
    | bad c => rw [hq] at hh; exact hx ce hce args h r h' ι w avs hh H G hl
    | ok v g' => rw [hq] at hh; cases hh; exact hm f args h r h' ι w avs hq H G hl
theorem set_ok {P : Program} {gz : Nat → Option Nat} {tab : Tr FnX} {f0 : Nat} {x : FnX} (hx : FxOk P gz f0 x) (ht : ∀ f, FxOk P gz f (Tr.get .no (Pa.ofNat f) tab)) : ∀ f, FxOk P gz f (Tr.get .no (Pa.ofNat f) (Tr.set .no x (Pa.ofNat f0) tab)) := by
  intro f
  have e : Tr.get .no (Pa.ofNat f) (Tr.set .no x (Pa.ofNat f0) tab) = if f = f0 then x else Tr.get .no (Pa.ofNat f) tab := Tr.at_put FnX.no tab f0 f x
  rw [e]
  by_cases hf : f = f0
  · rw [if_pos hf, hf]; exact hx
  · rw [if_neg hf]; exact ht f
end Go.Ev

/- The start: what a world whose listed variables read so says of the first heap. -/
set_option autoImplicit false
namespace Go.Ev
open Go.RowKit

def startE (l : List (Nat × Emb)) : Em := fun id ver => if ver = 0 then (l.find? (fun p => p.1 == id)).map (·.2) else none
theorem startE_some {l : List (Nat × Emb)} {id ver : Nat} {m : Emb} (h : startE l id ver = some m) : ver = 0 ∧ (id, m) ∈ l := by
  unfold startE at h
  split at h
  · rename_i hv
    obtain ⟨p, hp, hm⟩ := Option.map_eq_some_iff.1 h
    have h1 := List.find?_some hp
    have h2 := List.mem_of_find?_eq_some hp
    obtain ⟨a, b⟩ := p
    simp at h1 hm
    subst h1; subst hm
    exact ⟨hv, h2⟩
  · cases h
theorem start_HRel {gl : List (Nat × Ob)} {n0 : Nat} {l : List (Nat × Emb)} {W : World} (hl : ∀ p ∈ l, p.1 < n0) (hlow : glLow n0 gl = true)
    (hc : ∀ p ∈ l, (((h0Of gl n0).get p.1).tag = 1 → CellsOK (startE l) W ((h0Of gl n0).get p.1) 0 p.2) ∧ (((h0Of gl n0).get p.1).tag = 2 → MapOK (startE l) W ((h0Of gl n0).get p.1) p.2))
    (hinj : ∀ p ∈ l, ∀ q ∈ l, p.2.b = q.2.b → p.1 = q.1 ∧ p.2.o = q.2.o) (hb : ∀ p ∈ l, p.2.b < W.heap.size) : HRel (startE l) (h0Of gl n0) W where
  cells := fun id ver m ht _ hm => by obtain ⟨rfl, h⟩ := startE_some hm; exact (hc _ h).1 ht
  maps := fun id m ht hm => by obtain ⟨_, h⟩ := startE_some hm; exact (hc _ h).2 ht
  inj := fun id ver m id' ver' m' a b e => by obtain ⟨rfl, h⟩ := startE_some a; obtain ⟨rfl, h'⟩ := startE_some b; exact hinj _ h _ h' e
  fresh := fun id hid => by
    have hid : n0 ≤ id := hid
    refine ⟨?_, fun ver => ?_⟩
    · rcases h0_get gl n0 id with e | ⟨o, hin, e⟩
      · rw [e]; rfl
      · have := (glLow_t hlow _ hin).1; simp only at this; omega
    · cases h : startE l id ver with
      | none => rfl
      | some m => have := hl _ (startE_some h).2; simp only at this; omega
  top := fun id ver hv => by
    cases h : startE l id ver with
    | none => rfl
    | some m => have := (startE_some h).1; omega
  bound := fun id ver m hm => hb _ (startE_some hm).2

theorem var_heap {P : Program} {w : World} {n : String} {g : Nat} {cs : Array Value} (hg : P.globalNamed n = some g) (h : w.var? P n = some cs) : ∃ el fz, w.heap[g]? = some (.cells cs el fz) := by
  simp only [World.var?, hg, Option.bind_some] at h
  split at h
  · rename_i c el fz hh; cases h; exact ⟨el, fz, hh⟩
  · cases h
/-- a table of numbers -/
theorem tab_cells {ι : Em} {w : World} {g n : Nat} {k : IntKind} {zs : List Int} {el : TypeId} {fz : Nat × Nat} {o : Ob} (hh : w.heap[g]? = some (.cells (zs.map fun z => Value.int k z).toArray el fz)) (hn : zs.length = n) (ho : o.n = n) (hc : o.cur = 1)
    (ht : veq (cellsFrom o.t n 0) (V.ofList (zs.map (ofI k))) = true) : CellsOK ι w o 0 ⟨g, 0, n, n⟩ := by
  refine ⟨_, el, fz, hh, by simp [hn], by simp, by simp [ho], (fun h => by rw [hc] at h; cases h), fun i hi => ?_⟩
  have hi : i < n := hi
  have e := congrArg V.list (veq_t ht)
  rw [list_cellsFrom, V.list_ofList] at e
  have h1 := congrArg (fun l => l[i]?) e
  simp only [List.getElem?_map, List.getElem?_range hi, Option.map_some, Nat.zero_add] at h1
  have hz : zs[i]? = some (zs[i]'(by omega)) := List.getElem?_eq_getElem (by omega)
  rw [hz] at h1
  simp only [Option.map_some, Option.some.injEq] at h1
  refine ⟨.int k (zs[i]'(by omega)), by simp [hz], ?_⟩
  rw [h1]; exact ofI_ok _ _
/-- a variable that holds a map -/
theorem one_cell {ι : Em} {w : World} {g id b : Nat} {m : Emb} {el : TypeId} {fz : Nat × Nat} {o : Ob} (hh : w.heap[g]? = some (.cells #[.map (some b)] el fz)) (ho : o.n = 1) (hc : o.cur = 1) (ht : Tr.at_ .no o.t 0 = .a 6 id) (hm : ι id 0 = some m) (hb : m.b = b) : CellsOK ι w o 0 ⟨g, 0, 1, 1⟩ := by
  refine ⟨_, el, fz, hh, rfl, by simp, by simp [ho], (fun h => by rw [hc] at h; cases h), fun i hi => ?_⟩
  have hi : i = 0 := by have : i < 1 := hi; omega
  subst hi
  exact ⟨.map (some b), by simp, by rw [ht]; exact ⟨m, hm, by rw [hb]⟩⟩

/-! maps -/
theorem perm_map_inv {α β : Type} (f : α → β) : ∀ (K : List β) (l : List α), (l.map f).Perm K → ∃ l' : List α, l'.Perm l ∧ l'.map f = K
  | [], l, h => by
    have := h.eq_nil
    have : l = [] := by simpa using this
    subst this; exact ⟨[], .refl _, rfl⟩
  | k :: K, l, h => by
    have hk : k ∈ l.map f := h.mem_iff.2 (by simp)
    obtain ⟨x, hx, hfx⟩ := List.mem_map.1 hk
    obtain ⟨s, t, rfl⟩ := List.append_of_mem hx
    have h2 : (s ++ x :: t).Perm (x :: (s ++ t)) := List.perm_middle
    have h3 : ((s ++ t).map f).Perm K := by
      have := (h2.map f).symm.trans h
      rw [List.map_cons, hfx] at this
      exact this.cons_inv
    obtain ⟨l', h4, h5⟩ := perm_map_inv f K (s ++ t) h3
    exact ⟨x :: l', (h4.cons x).trans h2.symm, by rw [List.map_cons, h5, hfx]⟩
def litV : Lit → V
  | .string bs => .a 2 (encL bs)
  | .int k n => ofI k n
  | _ => .no
def datV {H : Type} : DataW H → V
  | .lit l => litV l
  | _ => .no
theorem key_vr {P : Program} {k : TypeId} {ι : Em} {v : Value} {l : Lit} (hk : P.underlying k = some .string ∨ ∃ q, P.underlying k = some (.int q)) (h : keyOf P k v = some l) :
    vr ι (litV l) v ∧ ((P.underlying k = some .string ∧ ∃ s, v = .string s) ∨ ∃ q n, P.underlying k = some (.int q) ∧ v = .int q n) := by
  rcases hk with hk | ⟨q, hk⟩
  · unfold keyOf mapKey at h
    rw [hk] at h
    cases v <;> simp at h
    rename_i s
    obtain ⟨_, rfl⟩ := h
    exact ⟨⟨s, rfl, rfl⟩, .inl ⟨hk, s, rfl⟩⟩
  · unfold keyOf mapKey at h
    rw [hk] at h
    cases v <;> simp at h
    rename_i q' n
    obtain ⟨⟨rfl, _⟩, rfl⟩ := h
    exact ⟨ofI_ok _ _, .inr ⟨_, _, hk, rfl⟩⟩
theorem val_vr {H : Type} {enc : TypeId × Value → H} {P : Program} {e : TypeId} {W : World} {base : Nat} {sp : Nat → Bool} {held : Bool} {n : Nat} {ι : Em} {v : Value} {z : DataW H × List MemPlace} (he : P.underlying e = some .string ∨ ∃ q, P.underlying e = some (.int q))
    (h : WideElems.elemAt enc P W base sp held n e v = some z) : vr ι (datV z.1) v := by
  rcases he with he | ⟨q, he⟩
  · unfold WideElems.elemAt at h
    split at h
    · rename_i hf
      obtain ⟨s, hc, rfl, _⟩ := DataW.trod_string he h
      cases v <;> simp [Value.formed, he, Value.cells] at hf hc
      subst hc
      exact ⟨_, rfl, rfl⟩
    · cases h
  · obtain ⟨a, rfl, rfl, _⟩ := WideElems.elemAt_int he h
    exact ofI_ok _ _
theorem map_ro {P : Program} {W : World} {base : Nat} {sp : Nat → Bool} {held : Bool} {fuel : Nat} {t k e : TypeId} {cs : List Value} {K : List (Lit × DataW Unit)} {p : List MemPlace} {l : V} (ht : P.underlying t = some (.map k e))
    (hk : P.underlying k = some .string ∨ ∃ q, P.underlying k = some (.int q)) (he : P.underlying e = some .string ∨ ∃ q, P.underlying e = some (.int q)) (hK : (K.map (·.1)).Nodup)
    (hl : veq l (V.ofList (K.map fun x => .b 12 0 (litV x.1) (datV x.2))) = true) (h : DataW.trod (fun _ => ()) P W base sp held fuel t cs = some (.map K, p)) :
    ∃ b es clock, cs = [.map (some b)] ∧ W.heap[b]? = some (.map es clock) ∧ es.size = K.length ∧ ∀ ι, RoMap ι l es := by
  have hl := veq_t hl
  rcases WideElems.open_map ht h with ⟨_, hx⟩ | ⟨b, es, clock, n, rfl, hcs, hb, _, F, hx⟩
  · cases hx
  · have hx1 : K = (es.toList.map (WideElems.rg P k (WideElems.elemAt (fun _ => ()) P W base sp held n e))).foldr DataW.insert [] := by
      have := congrArg Prod.fst hx
      simpa using this
    have hperm : (es.toList.map (WideElems.rg P k (WideElems.elemAt (fun _ => ()) P W base sp held n e))).Perm K := by rw [hx1]; exact (WideShapes.sorted_perm _).symm
    obtain ⟨lst, h1, h2⟩ := perm_map_inv _ K es.toList hperm
    refine ⟨b, es, clock, hcs, hb, ?_, fun ι => ?_⟩
    · rw [← h2, List.length_map, h1.length_eq]; simp
    · have hrd : ∀ x ∈ lst, ∃ y, WideElems.rd P k (WideElems.elemAt (fun _ => ()) P W base sp held n e) x = some y ∧ WideElems.rg P k (WideElems.elemAt (fun _ => ()) P W base sp held n e) x = y := fun x hx => by
        obtain ⟨y, hy⟩ := F.reads x (h1.mem_iff.1 hx)
        exact ⟨y, hy, WideElems.rg_of hy⟩
      refine ⟨by rw [hl]; exact isL_ofList _, lst, h1, ?_, ?_, ?_⟩
      · rw [hl, V.list_ofList, ← h2, List.map_map]
        clear hK hl hx hx1 hperm h1 h2
        induction lst with
        | nil => trivial
        | cons x lst ih =>
          obtain ⟨y, hy, hg⟩ := hrd x (by simp)
          refine ⟨⟨litV y.1, datV y.2, ?_, (key_vr hk (WideElems.rd_key hy)).1, ?_⟩, ih fun x hx => hrd x (by simp [hx])⟩
          · simp only [Function.comp, hg]
          · obtain ⟨z, hz, e2⟩ := WideElems.rd_val hy
            rw [e2]; exact val_vr he hz
      · rcases hk with hk' | ⟨q, hk'⟩
        · refine .inl fun x hx => ?_
          obtain ⟨y, hy, _⟩ := hrd x hx
          rcases (key_vr (ι := ι) (.inl hk') (WideElems.rd_key hy)).2 with ⟨_, h⟩ | ⟨q, n, h, _⟩
          · exact h
          · rw [hk'] at h; cases h
        · refine .inr ⟨q, fun x hx => ?_⟩
          obtain ⟨y, hy, _⟩ := hrd x hx
          rcases (key_vr (ι := ι) (.inr ⟨q, hk'⟩) (WideElems.rd_key hy)).2 with ⟨h, _⟩ | ⟨q', n, h, h'⟩
          · rw [hk'] at h; cases h
          · rw [hk'] at h; cases h; exact ⟨n, h'⟩
      · rw [← h2, List.map_map] at hK
        clear hl hx hx1 hperm h1 h2
        induction lst with
        | nil => exact List.nodup_nil
        | cons x lst ih =>
          rw [List.map_cons, List.nodup_cons] at hK ⊢
          refine ⟨fun hm => hK.1 ?_, ih hK.2 fun x hx => hrd x (by simp [hx])⟩
          obtain ⟨x', hx', e⟩ := List.mem_map.1 hm
          obtain ⟨y, hy, hg⟩ := hrd x (by simp)
          obtain ⟨y', hy', hg'⟩ := hrd x' (by simp [hx'])
          refine List.mem_map.2 ⟨x', hx', ?_⟩
          have a := WideElems.rd_key hy
          have b := WideElems.rd_key hy'
          rw [e, a] at b
          simp only [Function.comp, hg, hg']
          exact (Option.some.inj b).symm
end Go.Ev
