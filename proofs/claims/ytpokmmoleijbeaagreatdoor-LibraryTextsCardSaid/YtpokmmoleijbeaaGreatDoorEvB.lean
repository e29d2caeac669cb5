/-
  The evaluator: memory that is made, operations and what each promises.
-/
import Derived.Test.YtpokmmoleijbeaaGreatDoorEvA
import Derived.Laws.Tables
import Derived.Great.BuildSlice
import Derived.Laws.MakeOwn
import Derived.Laws.Append
import Derived.Laws.AppendOwn
import Derived.Laws.CopyRow
import Derived.Laws.StructEq
import Derived.Orders
/- Struct and slice literals, make. -/
set_option autoImplicit false
namespace Go.Ev
open Go.RowKit

/-- a value's cells, handed on as a list -/
noncomputable def cellsK (v : V) (k : V → OpR) : OpR := V.rec (motive := fun _ => OpR) (fun t x => forceCell (.a t x) .no fun v => k (.cons v .nilL)) (fun t x l r _ _ => ifB (Nat.beq t 10) (k l) (forceCell (.b t x l r) .no fun v => k (.cons v .nilL))) v
theorem cellsK_ok {ι : Em} {v r : V} {k : V → OpR} {h : HS} {u : Value} (hh : cellsK v k = .ok r h) (ha : isV v → vr ι v u) : ∃ l, k l = .ok r h ∧ lr ι l u.cells.toList := by
  have one : ∀ v : V, (isV v → vr ι v u) → (forceCell v .no fun v => k (.cons v .nilL)) = .ok r h → ∃ l, k l = .ok r h ∧ lr ι l u.cells.toList := by
    intro v ha hk
    obtain ⟨hc, hk⟩ := forceCell_ok hk
    have hv := ha hc.isV
    exact ⟨_, hk, by rw [(vr_cell hv hc).2]; exact lr_cons hv lr_nil⟩
  cases v with
  | a t x => exact one _ ha hh
  | b t x l q =>
    rcases ifB_two (show ifB (Nat.beq t 10) (k l) (forceCell (.b t x l q) .no fun v => k (.cons v .nilL)) = .ok r h from hh) with ⟨h1, hk⟩ | ⟨h1, hk⟩
    · have := beq_t h1; subst this
      obtain ⟨cs, rfl, hl⟩ := aggR_of (ha trivial)
      exact ⟨l, hk, hl⟩
    · exact one _ ha hk
/-- the places (offset, size) of a literal's parts, filled one after the other -/
noncomputable def fillV (spec : List (Nat × Nat)) : V → V → (V → OpR) → OpR :=
  List.rec (motive := fun _ => V → V → (V → OpR) → OpR) (fun _ z k => k z) (fun p _ ih vals z k => Prod.rec (motive := fun _ => OpR) (fun off size => onB vals .no fun _ _ a r => cellsK a fun l => ifB (Nat.beq (lenL l) size) (ih r (splice l off z) k) .no) p) spec
theorem foldl_set (l : List Value) : ∀ (k off : Nat) (cs : Array Value), ((l.zipIdx k).foldl (fun cs (x : Value × Nat) => cs.setIfInBounds (off + x.2) x.1) cs).toList = setL l (off + k) cs.toList := by
  induction l with
  | nil => intro k off cs; rfl
  | cons v l ih =>
    intro k off cs
    simp only [List.zipIdx_cons, List.foldl_cons]
    rw [ih (k + 1) off]
    simp [setL, Nat.add_assoc]
theorem fold_cells (v : Array Value) (off : Nat) (cs : Array Value) : (v.zipIdx.foldl (fun cs (x : Value × Nat) => cs.setIfInBounds (off + x.2) x.1) cs).toList = setL v.toList off cs.toList := by
  rw [← Array.foldl_toList]
  have : v.zipIdx.toList = v.toList.zipIdx 0 := by simp
  rw [this, foldl_set]
  simp
theorem fillV_ok {ι : Em} {place : Nat → Option (Nat × Nat)} {n : Nat} {r : V} {h : HS} {k : V → OpR} : ∀ (spec : List (Nat × Nat)) (parts : List (Nat × Value)) (vals z : V) (cells : Array Value),
    fillV spec vals z k = .ok r h → spec.length = parts.length → (∀ (i : Nat) (s : Nat × Nat) (p : Nat × Value), spec[i]? = some s → parts[i]? = some p → place p.1 = some s) → (∀ s ∈ spec, s.1 + s.2 ≤ n) →
    (∀ (i : Nat) (p : Nat × Value), parts[i]? = some p → isV (nth i vals) → vr ι (nth i vals) p.2) → lr ι z cells.toList → z.list.length = n →
    ∃ z' cells', k z' = .ok r h ∧ Instr.fill place cells parts = some cells' ∧ lr ι z' cells'.toList ∧ z'.list.length = n := by
  intro spec
  induction spec with
  | nil =>
    intro parts vals z cells hh hl _ _ _ hz hn
    have : parts = [] := by cases parts with | nil => rfl | cons a b => simp at hl
    subst this
    exact ⟨z, cells, hh, rfl, hz, hn⟩
  | cons s spec ih =>
    intro parts vals z cells hh hl hp hs hv hz hn
    cases parts with
    | nil => simp at hl
    | cons p parts =>
      obtain ⟨off, size⟩ := s
      obtain ⟨i, u⟩ := p
      obtain ⟨t, x, a, q, hvals, hk⟩ := onB_ok (show onB vals .no (fun _ _ a r => cellsK a fun l => ifB (Nat.beq (lenL l) size) (fillV spec r (splice l off z) k) .no) = .ok r h from hh)
      subst hvals
      obtain ⟨l, hk, hl2⟩ := cellsK_ok (ι := ι) (u := u) hk (hv 0 (i, u) rfl)
      obtain ⟨hb, hk⟩ := ifB_ok hk
      have hsize := beq_t hb
      rw [lenL_eq] at hsize
      have hle : off + size ≤ n := hs (off, size) (by simp)
      have hsp := splice_ok (vs := l) off z (by omega)
      have hl3 := ((lr_iff ι l _).1 hl2).2
      have hz3 := (lr_iff ι z _).1 hz
      have hlen := hl3.length
      have hzlen := hz3.2.length
      have hcs : u.cells.size = size := by rw [← hsize, hlen]; simp
      have hfold := fold_cells u.cells off cells
      have hnew : lr ι (splice l off z) (u.cells.zipIdx.foldl (fun cs (x : Value × Nat) => cs.setIfInBounds (off + x.2) x.1) cells).toList := by
        rw [lr_iff]
        refine ⟨hsp.2 hz3.1, ?_⟩
        rw [hsp.1, hfold]
        exact All2.setL off hl3 hz3.2
      obtain ⟨z', cells', g1, g2, g3, g4⟩ := ih parts q (splice l off z) _ hk (by simpa using hl) (fun j s p a b => hp (j + 1) s p (by simpa using a) (by simpa using b)) (fun s hm => hs s (by simp [hm]))
        (fun j p a b => hv (j + 1) p (by simpa using a) b) hnew (by rw [hsp.1, setL_length]; exact hn)
      refine ⟨z', cells', g1, ?_, g3, g4⟩
      have hpl : place i = some (off, size) := hp 0 (off, size) (i, u) rfl rfl
      have hcn : cells.size = n := by rw [← hn, hzlen]; simp
      have hc : ¬ (u.cells.size ≠ size ∨ off + u.cells.size > cells.size) := by omega
      simp only [Instr.fill, hpl]
      rw [if_neg (by simpa using hc)]
      exact g2
noncomputable def buildV (spec : List (Nat × Nat)) (zero : V) (vals : V) (h : HS) : OpR := fillV spec vals zero fun z => .ok (.agg z) h
/-- where a part of a struct or an array lies -/
def placesOf (P : Program) (t : TypeId) : Option (Nat → Option (Nat × Nat)) :=
  match P.underlying t with
  | some (.array _ e) => match P.info? e with | some ie => some fun i => some (i * ie.size, ie.size) | none => none
  | some (.struct fields) => match fields.toList.mapM (fun f => (P.info? f.type).map fun i => (f.offset, i.size)) with | some places => some fun i => places.toArray[i]? | none => none
  | _ => none
theorem built_of {P : Program} {t : TypeId} {it : TypeInfo} {z : Value} {place : Nat → Option (Nat × Nat)} (hi : P.info? t = some it) (hz : it.zero = some z) (hp : placesOf P t = some place) (parts : List (Nat × Value)) :
    P.built t parts = Instr.fill place z.cells parts := by
  unfold Program.built placesOf at *
  rw [hi]
  cases hu : P.underlying t with
  | none => rw [hu] at hp; cases hp
  | some d =>
    rw [hu] at hp
    cases d with
    | array n e =>
      simp only at hp ⊢
      cases hie : P.info? e with
      | none => rw [hie] at hp; cases hp
      | some ie => rw [hie] at hp; cases hp; simp [hz]
    | struct fields =>
      simp only at hp ⊢
      cases hm : fields.toList.mapM (fun f => (P.info? f.type).map fun i => (f.offset, i.size)) with
      | none => rw [hm] at hp; cases hp
      | some places => rw [hm] at hp; cases hp; simp [hz]
    | _ => cases hp
theorem zeroC_info {P : Program} {t : TypeId} {zs : List V} (h : zeroC P t = some zs) : ∃ it z, P.info? t = some it ∧ it.zero = some z ∧ constL z.cells.toList = some zs := by
  unfold zeroC at h
  split at h
  · rename_i i hi
    split at h
    · rename_i z hz; exact ⟨i, z, hi, hz, h⟩
    · cases h
  · cases h
theorem buildV_ok {P : Program} {t : TypeId} {zs : List V} {place : Nat → Option (Nat × Nat)} {spec : List (Nat × Nat)} {vals r : V} {h h' : HS} {ι : Em} {w : World} {parts : Array (Nat × Value)}
    (hz : zeroC P t = some zs) (hp : placesOf P t = some place) (hl : spec.length = parts.size) (hs : ∀ (i : Nat) (s : Nat × Nat) (p : Nat × Value), spec[i]? = some s → parts[i]? = some p → place p.1 = some s) (hn : ∀ s ∈ spec, s.1 + s.2 ≤ zs.length)
    (hv : ∀ (i : Nat) (p : Nat × Value), parts[i]? = some p → isV (nth i vals) → vr ι (nth i vals) p.2) (hh : buildV spec (V.ofList zs) vals h = .ok r h') : QS P (Instr.build t parts) ι h w r h' := by
  obtain ⟨it, z, hi, hz1, hz2⟩ := zeroC_info hz
  have h2 := (constL_ok (ι := ι) hz2).1
  obtain ⟨z', cells', g1, g2, g3, g4⟩ := fillV_ok (ι := ι) (place := place) (n := zs.length) spec parts.toList vals (V.ofList zs) z.cells hh (by simpa using hl) (fun i s p a b => hs i s p a (by simpa using b)) hn
    (fun i p a b => hv i p (by simpa using a) b) (lr_ofList.2 h2) (by simp)
  cases g1
  exact QS.same (u := .agg cells') (run_build w t parts cells' (by rw [built_of hi hz1 hp]; exact g2)) ⟨cells', rfl, g3⟩

/-! rows -/
def rowL (zs : List V) (len : Nat) : List V := (List.range (len * zs.length)).map fun i => zs.getD (i % zs.length) .no
theorem rowL_ok {ι : Em} {zs : List V} {z : Value} (hz : constL z.cells.toList = some zs) (len : Nat) : All2 (vr ι) (rowL zs len) ((Array.range (len * zs.length)).map (z.cells[· % z.cells.size]!)).toList := by
  have h2 := (constL_ok (ι := ι) hz).1
  have hlen : zs.length = z.cells.size := by rw [h2.length]; simp
  refine All2.of_get (by simp [rowL]) fun i a b ha hb => ?_
  simp only [rowL, List.getElem?_map] at ha
  simp only [Array.toList_map, Array.toList_range, List.getElem?_map] at hb
  cases hr : (List.range (len * zs.length))[i]? with
  | none => rw [hr] at ha; cases ha
  | some j =>
    rw [hr] at ha hb
    have hj : j < len * zs.length := by
      have := List.mem_of_getElem? hr
      simpa using this
    have hpos : 0 < zs.length := by
      rcases Nat.eq_zero_or_pos zs.length with h0 | h0
      · rw [h0] at hj; simp at hj
      · exact h0
    have hm : j % zs.length < zs.length := Nat.mod_lt _ hpos
    cases ha; cases hb
    obtain ⟨u, hu, hru⟩ := h2.get (j % zs.length) _ (List.getElem?_eq_getElem hm)
    have e1 : zs.getD (j % zs.length) V.no = zs[j % zs.length] := by simp [List.getD_eq_getElem?_getD, List.getElem?_eq_getElem hm]
    have e2 : z.cells[j % z.cells.size]! = u := by
      have : z.cells[j % zs.length]? = some u := by simpa using hu
      rw [← hlen, getElem!_def, this]
    show vr ι (zs.getD (j % zs.length) V.no) (z.cells[j % z.cells.size]!)
    rw [e1, e2]; exact hru
noncomputable def newSl (t : Tr V) (n el len sz : Nat) (h : HS) : OpR := h.newK (.mk 1 n el 0 0 t) fun id h' => .ok (.slice id 0 0 len sz (.a (Nat.succ len) n)) h'
theorem newSl_ok {P : Program} {t : Tr V} {n el len sz : Nat} {h h' : HS} {r : V} {ι : Em} {w : World} {e : TypeId} {cs : Array Value} {vs : List V} (hh : newSl t n el len sz h = .ok r h') (H : HRel ι h w) (hnn : n = len * sz)
    (hn : cs.size = n) (h2 : All2 (vr ι) vs cs.toList) (ht : ∀ i v, vs[i]? = some v → Tr.at_ .no t i = v) :
    HRel (ι.add h.next 0 ⟨w.heap.size, 0, n, n⟩) h' (pushed w (.cells cs e)) ∧ Ext ι h w (ι.add h.next 0 ⟨w.heap.size, 0, n, n⟩) h' (pushed w (.cells cs e)) ∧
    vr (ι.add h.next 0 ⟨w.heap.size, 0, n, n⟩) r (.slice (some ⟨w.heap.size, 0, none⟩) len len) := by
  unfold newSl at hh
  rw [HS.newK_eq] at hh
  cases hh
  have hlen := h2.length
  obtain ⟨a, b⟩ := H.row (n := n) (el := el) (t := t) (cs := cs) (e := e) hn (fun i hi => by
    have hv : i < vs.length := by rw [hlen]; simpa [hn] using hi
    obtain ⟨u, hu, hr⟩ := h2.get i vs[i] (List.getElem?_eq_getElem hv)
    exact ⟨u, by simpa using hu, by rw [ht i _ (List.getElem?_eq_getElem hv)]; exact hr⟩)
  refine ⟨a, b, 0, 0, len, sz, len + 1, n, _, ⟨w.heap.size, 0, none⟩, len, rfl, rfl, Em.add_self _ _ _ _, Nat.le_refl _, rfl, Nat.le_refl _, fun _ => rfl, ?_, fun h => by simp at h, fun _ => ⟨rfl, ?_⟩⟩
  · show 0 + 0 + len * sz ≤ n; omega
  · show 0 + len * sz ≤ n; omega
noncomputable def buildSl (spec : List (Nat × Nat)) (row : V) (n el len sz : Nat) (vals : V) (h : HS) : OpR := fillV spec vals row fun z => putCells z 0 .lf fun t => newSl t n el len sz h
theorem buildSl_ok {P : Program} {t e : TypeId} {zs : List V} {len : Nat} {spec : List (Nat × Nat)} {vals r : V} {h h' : HS} {ι : Em} {w : World} {parts : Array (Nat × Value)}
    (ht : P.underlying t = some (.slice e)) (hz : zeroC P e = some zs) (hsz : szOf P e = some zs.length) (hsmall : len * zs.length ≤ 2 ^ 24) (hpos : 0 < len * zs.length) (hl : spec.length = parts.size)
    (hs : ∀ (i : Nat) (s : Nat × Nat) (p : Nat × Value), spec[i]? = some s → parts[i]? = some p → s = (p.1 * zs.length, zs.length)) (hn : ∀ s ∈ spec, s.1 + s.2 ≤ len * zs.length)
    (hv : ∀ (i : Nat) (p : Nat × Value), parts[i]? = some p → isV (nth i vals) → vr ι (nth i vals) p.2) (hh : buildSl spec (V.ofList (rowL zs len)) (len * zs.length) e len zs.length vals h = .ok r h') (H : HRel ι h w) : SemS P (Instr.buildSlice t len parts) ι h w r h' := by
  obtain ⟨it, z, hi, hz1, hz2⟩ := zeroC_info hz
  have hisz : it.size = zs.length := by unfold szOf at hsz; rw [hi] at hsz; simpa using hsz
  have h2 := rowL_ok (ι := ι) hz2 len
  obtain ⟨z', cells', g1, g2, g3, g4⟩ := fillV_ok (ι := ι) (place := fun i => some (i * zs.length, zs.length)) (n := len * zs.length) spec parts.toList vals (V.ofList (rowL zs len)) ((Array.range (len * zs.length)).map (z.cells[· % z.cells.size]!)) hh (by simpa using hl)
    (fun i s p a b => by rw [hs i s p a (by simpa using b)]) hn (fun i p a b => hv i p (by simpa using a) b) (lr_ofList.2 h2) (by simp [rowL])
  rw [putCells_eq] at g1
  have g3' := (lr_iff ι z' _).1 g3
  obtain ⟨x, y, q⟩ := newSl_ok (P := P) (e := e) (cs := cells') (vs := z'.list) g1 H rfl (by rw [← g4, g3'.2.length]; simp) g3'.2 (fun i u hu => at_treeOf _ _ _ hu)
  exact ⟨_, _, _, run_buildSlice w t e len parts cells' it z ht hi hz1 (by rw [hisz]; omega) (by rw [hisz]; omega) (by rw [hisz]; exact g2), x, y, q⟩
/-- n times the cells zs -/
noncomputable def rowK (zs : V) (size n : Nat) : (Tr V → OpR) → OpR := Nat.rec (motive := fun _ => (Tr V → OpR) → OpR) (fun k => k .lf) (fun i ih k => ih fun T => putCells zs (Nat.mul i size) T k) n
noncomputable def rowTr (zs : List V) : Nat → Tr V
  | 0 => .lf
  | n + 1 => putL zs (n * zs.length) (rowTr zs n)
theorem rowK_eq (zs : V) (n : Nat) : ∀ k, rowK zs zs.list.length n k = k (rowTr zs.list n) := by
  induction n with
  | zero => intro k; rfl
  | succ n ih => intro k; show rowK zs zs.list.length n _ = _; rw [ih, putCells_eq]; rfl
theorem at_rowTr (zs : List V) : ∀ (n i : Nat), i < n * zs.length → Tr.at_ .no (rowTr zs n) i = zs.getD (i % zs.length) .no := by
  intro n
  induction n with
  | zero => intro i h; simp at h
  | succ n ih =>
    intro i h
    show Tr.at_ .no (putL zs (n * zs.length) (rowTr zs n)) i = _
    rw [at_putL]
    by_cases h1 : n * zs.length ≤ i
    · rw [Nat.succ_mul] at h
      rw [if_pos ⟨h1, h⟩]
      congr 1
      have h3 : (i - n * zs.length + zs.length * n) % zs.length = i - n * zs.length := by
        rw [Nat.add_mul_mod_self_left, Nat.mod_eq_of_lt (by omega)]
      rw [← h3]; congr 1; rw [Nat.mul_comm zs.length]; omega
    · rw [if_neg (fun e => h1 e.1)]; exact ih i (by omega)
noncomputable def makeSl (zs : V) (size el bytes : Nat) (l c : V) (h : HS) : OpR := onNat l .no fun l => onNat c .no fun c => ifB (Nat.beq l c) (ifB (Nat.blt c 1048576) (rowK zs size c fun t => newSl t (Nat.mul c size) el c size h) .no) .no
theorem wrap_nat {z : Nat} (h : z < 9223372036854775808) : IntKind.i64.wrap (z : Int) = z := wrap_i64 h
theorem makeSl_ok {P : Program} {t e : TypeId} {zs : List V} {bytes : Nat} {vl vc r : V} {h h' : HS} {ι : Em} {w : World} {l c : Value} (ht : P.underlying t = some (.slice e)) (hz : zeroC P e = some zs) (hsz : szOf P e = some zs.length) (hpos : 0 < zs.length)
    (hby : (P.info? e).map (·.bytes) = some bytes) (hb : bytes ≤ 1048576) (hh : makeSl (V.ofList zs) zs.length e bytes vl vc h = .ok r h') (H : HRel ι h w) (hl : vr ι vl l) (hc : vr ι vc c) : SemS P (Instr.makeSlice t l c) ι h w r h' := by
  obtain ⟨t1, n, rfl, h1, h2, hk⟩ := onNat_ok hh
  obtain ⟨t2, m, rfl, h3, h4, hk⟩ := onNat_ok hk
  obtain ⟨h5, hk⟩ := ifB_ok hk
  obtain ⟨h6, hk⟩ := ifB_ok hk
  have := beq_t h5; subst this
  have hlt := blt_t h6
  obtain ⟨k1, rfl⟩ := natR hl h1 h2
  obtain ⟨k2, rfl⟩ := natR hc h3 h4
  have hrk := rowK_eq (V.ofList zs) n (fun t => newSl t (Nat.mul n zs.length) e n zs.length h)
  rw [V.list_ofList] at hrk
  rw [hrk] at hk
  obtain ⟨it, z, hi, hz1, hz2⟩ := zeroC_info hz
  have hisz : it.size = zs.length := by unfold szOf at hsz; rw [hi] at hsz; simpa using hsz
  have hib : it.bytes = bytes := by rw [hi] at hby; simpa using hby
  have h2' := rowL_ok (ι := ι) hz2 n
  obtain ⟨x, y, q⟩ := newSl_ok (P := P) (e := e) (cs := (Array.range (n * zs.length)).map (z.cells[· % z.cells.size]!)) (vs := rowL zs n) hk H rfl (by simp) h2' (fun i u hu => by
    have hi : i < n * zs.length := by
      have := List.getElem?_eq_some_iff.1 hu
      obtain ⟨hi, _⟩ := this
      simpa [rowL] using hi
    rw [at_rowTr zs n i hi]
    simp only [rowL, List.getElem?_map, List.getElem?_range hi] at hu
    simpa using hu)
  have hbm : bytes * n ≤ 281474976710656 := by
    have h1 : bytes * n ≤ 1048576 * n := Nat.mul_le_mul_right n hb
    omega
  have hb' : (it.bytes : Int) * (n : Int) ≤ 281474976710656 := by
    rw [hib]
    have h : ((bytes * n : Nat) : Int) ≤ 281474976710656 := by omega
    rwa [Int.natCast_mul] at h
  have hr := run_make (P := P) w t e it z ht hi hz1 k1 k2 (n : Int) (n : Int) (by omega) (Int.le_refl _) hb' (by omega)
  simp only [Int.toNat_natCast, madeCells, hisz] at hr
  exact ⟨_, _, _, hr, x, y, q⟩
noncomputable def makeMapV (h : HS) : OpR := h.newK (.mk 2 0 0 0 0 (.nd .lf .nilL .lf)) fun id h' => .ok (.a 6 id) h'
theorem makeMapV_ok {P : Program} {t : TypeId} {r : V} {h h' : HS} {ι : Em} {w : World} (hh : makeMapV h = .ok r h') (H : HRel ι h w) : SemS P (Instr.makeMap t none) ι h w r h' := by
  unfold makeMapV at hh
  rw [HS.newK_eq] at hh
  cases hh
  obtain ⟨a, b⟩ := H.newMap
  exact ⟨.map (some w.heap.size), _, _, by simp [Instr.makeMap], a, b, ⟨_, Em.add_self _ _ _ _, rfl⟩⟩
end Go.Ev

/- Append. -/
set_option autoImplicit false
namespace Go.Ev
open Go.RowKit

abbrev drawnTo (w : World) (k : Nat) : World := { w with drawn := k }
/-- what append's second argument comes to: n elements, the cells news -/
inductive Src (P : Program) (w : World) (e : TypeId) (size : Nat) (xT : TypeId) (x : Value) (n : Nat) (news : List Value) : Prop where
  | slice (d : TypeId) (hu : P.underlying xT = some (.slice d)) (hl : ∀ w', (Builtin.lenOf x).run P w' = .ok n w') (hf : ∀ k, (Builtin.firstCells size n x).run P (drawnTo w k) = .ok news.toArray (drawnTo w k))
  | zeros (k k' : IntKind) (z : Value) (hu : P.underlying xT = some (.int k)) (hx : x = .int k' (n : Int)) (hz : ∀ w', (zeroValue e).run P w' = .ok z w') (hn : news = (Builtin.zeroCells z.cells n).toList) (hs : z.cells.size = size) (hsmall : n < 1048576) (hby : ∃ i, P.info? e = some i ∧ i.bytes ≤ 1048576)
/-- the cells written in place -/
def inPlace (base : Option Addr) (off : Nat) (news : List Value) : Sem Unit := match base with | some a => storeCells (a.add off) news | none => pure ()
section
variable {P : Program} {w : World} {sT e xT ty : TypeId} {size n : Nat} {x : Value} {news : List Value} {i : TypeInfo}
theorem small_bytes {a b : Nat} (ha : a < 1048576) (hb : b ≤ 1048576) : ¬ ((a : Int) * (b : Int) > 2 ^ 48) := by
  have h1 : a * b ≤ 1048576 * 1048576 := Nat.mul_le_mul (by omega) hb
  have h2 : ((a * b : Nat) : Int) ≤ 1099511627776 := by omega
  rw [Int.natCast_mul] at h2
  omega
theorem run_append_in (ht : P.underlying sT = some (.slice e)) (hi : P.info? e = some i) (hsz : i.size = size) (hs : Src P w e size xT x n news) {base : Option Addr} {sLen cap : Nat} (hc : sLen + n ≤ cap) (hpos : 0 < size) :
    (Builtin.append_ #[sT, xT] ty #[.slice base sLen cap, x]).run P w = (do inPlace base (sLen * size) news; pure (Value.slice base (sLen + n) cap) : Sem Value).run P w := by
  have hszr : (sizeOf e).run P w = .ok size w := run_sizeOf' (by simp [szOf, hi, hsz]) w
  cases hs with
  | slice d hu hl hf =>
    have hf0 := hf w.drawn
    have hf1 : (Builtin.firstCells size n x).run P w = .ok news.toArray w := hf0
    cases base <;> simp [Builtin.append_, run_underlying' ht, run_underlying' hu, hszr, hl, hf1, hc, inPlace]
  | zeros k k' z hu hx hz hn hzs hsmall hby =>
    obtain ⟨i', hi', hb⟩ := hby
    rw [hi] at hi'; cases hi'
    have hw := wrap_nat (z := n) (by omega)
    have hneg : ¬ ((n : Int) < 0) := by omega
    have hby2 := small_bytes hsmall hb
    subst hx
    have hs0 : ¬ size = 0 := by omega
    have hby3 : ¬ (281474976710656 < (n : Int) * (i.bytes : Int)) := by omega
    have h00 : n ≠ 0 → ¬ (n * size = 0) := fun h => Nat.mul_ne_zero h (by omega)
    by_cases h0 : n = 0
    · subst h0
      have hnn : news = [] := by rw [hn]; simp [Builtin.zeroCells, Array.range_zero']
      subst hnn
      have hw0 : IntKind.i64.wrap 0 = 0 := by simpa using hw
      cases base <;> simp [Builtin.append_, run_underlying' ht, run_underlying' hu, hszr, asInt, asIntOf, hw0, run_typeInfo' hi, inPlace, storeCells] <;> omega
    · have hn' : (Builtin.zeroCells z.cells n).toList = news := hn.symm
      cases base <;> simp [Builtin.append_, run_underlying' ht, run_underlying' hu, hszr, asInt, asIntOf, hw, run_typeInfo' hi, hneg, hby3, hc, h0, hs0, h00 h0, hz, inPlace, hn'] <;> simp_all [inPlace]
theorem run_append_new (ht : P.underlying sT = some (.slice e)) (hi : P.info? e = some i) (hsz : i.size = size) {z : Value} (hz : ∀ w', (zeroValue e).run P w' = .ok z w') (hs : Src P w e size xT x n news) {base : Option Addr} {sLen cap : Nat} (hc : cap < sLen + n)
    (hpos : 0 < size) (hb : i.bytes ≤ 1048576) (hsm : sLen + n < 1048576) {olds : List Value} (ho : ∀ k, (Builtin.firstCells size sLen (.slice base sLen cap)).run P (drawnTo w k) = .ok olds.toArray (drawnTo w k)) :
    ∃ nc, sLen + n ≤ nc ∧ (Builtin.append_ #[sT, xT] ty #[.slice base sLen cap, x]).run P w = .ok (.slice (some ⟨w.heap.size, 0, none⟩) (sLen + n) nc)
      (pushed (drawnTo w (w.drawn + 1)) (.cells (olds.toArray ++ news.toArray ++ Builtin.zeroCells z.cells (nc - (sLen + n))) e)) := by
  have hszr : ∀ w', (sizeOf e).run P w' = .ok size w' := run_sizeOf' (by simp [szOf, hi, hsz])
  have hbb : (sLen + n) * i.bytes ≤ 140737488355328 := by
    have : (sLen + n) * i.bytes ≤ 1048576 * 1048576 := Nat.mul_le_mul (by omega) hb
    omega
  have hcap := growslice_fits hc hbb
  have hcap' : ¬ (Builtin.nextslicecap (sLen + n) cap * i.bytes > 281474976710656) := by omega
  have hc' : ¬ (sLen + n ≤ cap) := by omega
  have him : IntKind.i64.max = 9223372036854775807 := by decide
  have h63 : ¬ (9223372036854775807 < ((sLen : Int) + (n : Int))) := by omega
  refine ⟨(Question.appendCap (sLen + n) cap e).cut (w.tape w.drawn (.appendCap (sLen + n) cap e)), by simp [Question.cut], ?_⟩
  have ho1 : (Builtin.firstCells size sLen (.slice base sLen cap)).run P w.drew = .ok olds.toArray w.drew := ho (w.drawn + 1)
  cases hs with
  | slice d hu hl hf =>
    have hf1 : (Builtin.firstCells size n x).run P w.drew = .ok news.toArray w.drew := hf (w.drawn + 1)
    simp [Builtin.append_, run_underlying' ht, run_underlying' hu, hszr, hl, hc', run_typeInfo' hi, hcap', him, h63, Question.forced, ho1, hf1, hz, newRow]
    refine congrArg (fun c => w.drew.alloc (Obj.cells c e)) ?_
    apply Array.ext'; simp
  | zeros k k' z' hu hx hz' hn hzs hsmall hby =>
    obtain ⟨i', hi', hb'⟩ := hby
    rw [hi] at hi'; cases hi'
    have hw := wrap_nat (z := n) (by omega)
    have hneg : ¬ ((n : Int) < 0) := by omega
    have hby2 := small_bytes hsmall hb'
    subst hx
    have hs0 : ¬ size = 0 := by omega
    have hby3 : ¬ (281474976710656 < (n : Int) * (i.bytes : Int)) := by omega
    have h00 : n ≠ 0 → ¬ (n * size = 0) := fun h => Nat.mul_ne_zero h (by omega)
    by_cases h0 : n = 0
    · subst h0
      have hnn : news = [] := by rw [hn]; simp [Builtin.zeroCells, Array.range_zero']
      subst hnn
      have hw0 : IntKind.i64.wrap 0 = 0 := by simpa using hw
      have hc2 : ¬ (sLen ≤ cap) := by omega
      have h64 : ¬ (9223372036854775807 < (sLen : Int)) := by omega
      simp only [Nat.add_zero] at hcap'
      simp [Builtin.append_, run_underlying' ht, run_underlying' hu, hszr, asInt, asIntOf, hw0, run_typeInfo' hi, hc2, hcap', him, h64, Question.forced, ho1, hz, newRow]
    · have hn' : (Builtin.zeroCells z'.cells n) = news.toArray := by rw [hn]
      simp [Builtin.append_, run_underlying' ht, run_underlying' hu, hszr, asInt, asIntOf, hw, hneg, hby3, run_typeInfo' hi, hc', hcap', him, h63, Question.forced, ho1, h0, hs0, h00 h0, hz', newRow, hn']
      have hzz : z' = z := by have h1 := hz w; have h2 := hz' w; rw [h1] at h2; cases h2; rfl
      rw [hzz]
      refine congrArg (fun c => w.drew.alloc (Obj.cells c e)) ?_
      apply Array.ext'; simp
end
end Go.Ev

/- Append, copy, clear: the evaluator's. -/
set_option autoImplicit false
namespace Go.Ev
open Go.RowKit

/-- the cells of a slice -/
noncomputable def srcS (size : Nat) (x : V) (h : HS) (k : Nat → V → OpR) : OpR :=
  onSl x (k 0 .nilL) fun id ver off len sz e => onA e .no fun _ ext => onCells (h.get id) .no fun _ _ _ mn t => ifB (Nat.ble mn ver) (ifB (Nat.beq sz size) (ifB (Nat.ble (Nat.add off (Nat.mul len sz)) ext) (k len (cellsFrom t (Nat.mul len sz) off)) .no) .no) .no
theorem HRel.drawn {ι : Em} {h : HS} {w : World} (H : HRel ι h w) (k : Nat) : HRel ι h (drawnTo w k) := H.drew k
theorem run_loadCells' {P : Program} {ι : Em} {h : HS} {w : World} (H : HRel ι h w) {id ver off n : Nat} {m : Emb} (hm : ι id ver = some m) (ht : (h.get id).tag = 1) (hv : (h.get id).mn ≤ ver) (hn : off + n ≤ m.n) :
    ∃ vs : List Value, vs.length = n ∧ (∀ k, (loadCells ⟨m.b, m.o + off, none⟩ n).run P (drawnTo w k) = .ok vs.toArray (drawnTo w k)) ∧ lr ι (cellsFrom (h.get id).t n off) vs := by
  obtain ⟨vs, h1, h2, h3⟩ := read_list H hm ht hv n hn
  refine ⟨vs, h1, fun k => ?_, ?_⟩
  · unfold loadCells
    rw [run_loadCellsFrom (vs := vs) n 0 #[] (fun j hj => by have := h2 j hj; simpa [World.cell?] using this) (by omega)]
    simp [← h1]
  · rw [lr_iff]; exact ⟨isL_cellsFrom _ _ _, by rw [list_cellsFrom]; exact h3⟩
theorem srcS_ok {P : Program} {size : Nat} {x r : V} {h h' : HS} {k : Nat → V → OpR} {ι : Em} {w : World} {u : Value} {e xT d : TypeId} (hu : P.underlying xT = some (.slice d)) (hh : srcS size x h k = .ok r h') (H : HRel ι h w) (hx : vr ι x u) :
    ∃ len news us, k len news = .ok r h' ∧ Src P w e size xT u len us ∧ lr ι news us ∧ us.length = len * size := by
  rcases onSl_ok hh with ⟨y, rfl, hk⟩ | ⟨id, ver, off, len, sz, e', q, rfl, hk⟩
  · have hx' : u = .slice none 0 0 := hx
    subst hx'
    exact ⟨0, .nilL, [], hk, .slice d hu (fun w' => by simp [Builtin.lenOf]) (fun k => by simp [Builtin.firstCells]), lr_nil, by simp⟩
  · obtain ⟨xc, ext, m, ad, c, rfl, hm, hext, rfl, hlc, had, hroom, h0, h1⟩ := sliceR_of hx
    obtain ⟨_, _, he, hk⟩ := onA_ok hk; cases he
    obtain ⟨n, el, cur, mn, t, ho, hk1⟩ := onCells_ok hk
    obtain ⟨g1, hk2⟩ := ifB_ok hk1
    obtain ⟨g2, hk3⟩ := ifB_ok hk2
    obtain ⟨g3, hk4⟩ := ifB_ok hk3
    have := beq_t g2; subst this
    obtain ⟨e1, e2, e3, e4, e5, e6⟩ := Ob.eq_of ho
    have g3' : off + len * sz ≤ ext := ble_t g3
    obtain ⟨vs, q1, q2, q3⟩ := run_loadCells' (P := P) H hm e1 (by rw [e5]; exact ble_t g1) (off := off) (n := len * sz) (by omega)
    rw [e6] at q3
    refine ⟨len, _, vs, hk4, .slice d hu (fun w' => by simp [Builtin.lenOf]) (fun k => ?_), q3, q1⟩
    by_cases hl : len = 0
    · subst hl
      have hv : vs = [] := by
        have : vs.length = 0 := by rw [q1]; simp
        exact List.length_eq_zero_iff.1 this
      subst hv
      simp [Builtin.firstCells, loadCells, loadCellsFrom]
    · rw [had (by omega)]
      exact q2 k

/-- values stored to a block that nothing else tells of -/
theorem run_storeCells_raw {P : Program} {b o : Nat} {el : TypeId} : ∀ (us : List Value) (i : Nat) (cs : Array Value) (w : World), w.heap[b]? = some (.cells cs el (0, 0)) → o + i + us.length ≤ cs.size → (∀ u ∈ us, u.oneCell' = true) →
    ∃ w' cs', (storeCells ⟨b, o, none⟩ us i).run P w = .ok () w' ∧ w'.heap[b]? = some (.cells cs' el (0, 0)) ∧ cs'.size = cs.size ∧ (∀ j, cs'[j]? = if o + i ≤ j ∧ j < o + i + us.length then us[j - (o + i)]? else cs[j]?) ∧
      (∀ k, k ≠ b → w'.heap[k]? = w.heap[k]?) ∧ w'.heap.size = w.heap.size ∧ w'.os = w.os ∧ w'.tape = w.tape ∧ w'.output = w.output := by
  intro us
  induction us with
  | nil => intro i cs w hb _ _; exact ⟨w, cs, by simp [storeCells], hb, rfl, fun j => by rw [if_neg (by simp)], fun _ _ => rfl, rfl, rfl, rfl, rfl⟩
  | cons u us ih =>
    intro i cs w hb hl hc
    have hl' : o + i + (us.length + 1) ≤ cs.size := by simpa using hl
    have hlt : o + i < cs.size := by omega
    have hx : w.cell? ⟨b, o + i, none⟩ = some cs[o + i] := by simp [World.cell?, hb, hlt]
    have hf : w.frozen? ⟨b, o + i, none⟩ = false := by simp [World.frozen?, hb]
    have hnew : (w.setCell ⟨b, o + i, none⟩ u).heap[b]? = some (.cells (cs.setIfInBounds (o + i) u) el (0, 0)) := by rw [heap_setCell, if_pos rfl, hb]; rfl
    obtain ⟨w', cs', k1, k2, k3, k4, k5, k6, k7, k8, k9⟩ := ih (i + 1) _ (w.setCell ⟨b, o + i, none⟩ u) hnew (by simp; omega) (fun v hv => hc v (by simp [hv]))
    refine ⟨w', cs', ?_, k2, by rw [k3]; simp, fun j => ?_, fun k hk => by rw [k5 k hk, heap_setCell, if_neg (fun e => hk e.symm)], by rw [k6]; simp [World.setCell], by rw [k7]; rfl, by rw [k8]; rfl, by rw [k9]; rfl⟩
    · simp only [storeCells, Sem.run_bind, add_addr, run_store P w _ u .plain (hc u (by simp)), hx, hf]
      simpa using k1
    · rw [k4 j]
      by_cases hj : j = o + i
      · subst hj
        rw [if_neg (by omega), if_pos ⟨Nat.le_refl _, by simp⟩, Array.getElem?_setIfInBounds_self_of_lt hlt]
        simp
      · by_cases h1 : o + (i + 1) ≤ j ∧ j < o + (i + 1) + us.length
        · rw [if_pos h1, if_pos ⟨by omega, by simp; omega⟩]
          have : j - (o + i) = (j - (o + (i + 1))) + 1 := by omega
          rw [this]; simp
        · rw [if_neg h1, if_neg (by simp; omega), Array.getElem?_setIfInBounds_ne (fun e => hj e.symm)]

/-- rows -/
theorem row_of {ι : Em} {vs : List V} {us : List Value} {t : Tr V} {cs : Array Value} {rest : List Value} (h2 : All2 (vr ι) vs us) (hcs : cs.toList = us ++ rest) (ht : ∀ i v, vs[i]? = some v → Tr.at_ .no t i = v) :
    ∀ i, i < vs.length → ∃ u, cs[i]? = some u ∧ vr ι (Tr.at_ .no t i) u := by
  intro i hi
  obtain ⟨u, hu, hr⟩ := h2.get i vs[i] (List.getElem?_eq_getElem hi)
  have hiu : i < us.length := by rw [← h2.length]; exact hi
  refine ⟨u, ?_, by rw [ht i _ (List.getElem?_eq_getElem hi)]; exact hr⟩
  rw [← Array.getElem?_toList, hcs, List.getElem?_append_left hiu]; exact hu
theorem at_two (olds news : List V) (i : Nat) (v : V) (h : (olds ++ news)[i]? = some v) : Tr.at_ .no (putL news olds.length (putL olds 0 .lf)) i = v := by
  rw [at_putL]
  by_cases h1 : olds.length ≤ i
  · rw [List.getElem?_append_right h1] at h
    have hlt : i - olds.length < news.length := by
      rcases Nat.lt_or_ge (i - olds.length) news.length with h2 | h2
      · exact h2
      · rw [List.getElem?_eq_none h2] at h; cases h
    rw [if_pos ⟨h1, by omega⟩]
    simp [List.getD_eq_getElem?_getD, h]
  · rw [List.getElem?_append_left (by omega)] at h
    rw [if_neg (fun e => h1 e.1)]
    exact at_treeOf olds i v h

/-- a new object with room -/
theorem HRel.roomy {ι : Em} {h : HS} {w : World} (H : HRel ι h w) {n z el : Nat} {t : Tr V} {cs : Array Value} {e : TypeId} (hz : cs.size = z) (hn : n ≤ z)
    (hc : ∀ i, i < n → ∃ u, cs[i]? = some u ∧ vr ι (Tr.at_ .no t i) u) :
    HRel (ι.add h.next 0 ⟨w.heap.size, 0, n, z⟩) (h.add (.mk 1 n el 0 0 t)) (pushed w (.cells cs e)) ∧
    Ext ι h w (ι.add h.next 0 ⟨w.heap.size, 0, n, z⟩) (h.add (.mk 1 n el 0 0 t)) (pushed w (.cells cs e)) := by
  have hs : Sub ι (ι.add h.next 0 ⟨w.heap.size, 0, n, z⟩) := Em.sub_add _ (H.none_ge (Nat.le_refl _) 0)
  obtain ⟨a, b⟩ := H.new (h' := h.add (.mk 1 n el 0 0 t)) (id := h.next) (o := .mk 1 n el 0 0 t) (ob := .cells cs e) (m := ⟨w.heap.size, 0, n, z⟩)
    (H.none_ge (Nat.le_refl _)) (fun j => HS.get_add h j _) (by simp) (by simp) rfl rfl
    (fun _ => ⟨cs, e, (0, 0), heap_pushed_new w _, hz, by simpa using hn, Nat.le_refl _, fun _ => ⟨rfl, rfl⟩, fun i hi => by
      obtain ⟨u, hu, hr⟩ := hc i hi; exact ⟨u, by simpa using hu, vr_mono hs hr⟩⟩)
    (fun h => by cases h)
  exact ⟨a, b ι h w (Ext.refl _ _ _) (Nat.le_refl _)⟩

noncomputable def fitsB (xc need off size ext : Nat) : Bool := Nat.rec (motive := fun _ => Bool) (Nat.ble (Nat.add off (Nat.mul need size)) ext) (fun c _ => Nat.ble need c) xc
noncomputable def appendS (size el : Nat) (d : V) (n : Nat) (news : V) (h : HS) : OpR :=
  ifB (Nat.beq (lenL news) (Nat.mul n size)) (ifB (cellsB news) (
  onSl d
    (ifB (Nat.beq n 0) (.ok (.a 5 0) h) (ifB (Nat.blt n 1048576) (forceN (Nat.mul n size) fun m => putCells news 0 .lf fun t => h.newK (.mk 1 m el 0 0 t) fun id h' => .ok (.slice id 0 0 n size (.a 0 m)) h') .no))
    fun id ver off len sz e => onA e .no fun xc ext => ifB (Nat.beq sz size) (ifB (Nat.beq n 0) (.ok (.slice id ver off len sz (.a xc ext)) h) (forceN (Nat.add len n) fun need => ifB (Nat.blt need 1048576) (
      onCells (h.get id) .no fun m el' cur mn t => ifB (Nat.ble mn ver) (
        ifB (fitsB xc need off size ext)
          (ifB (Nat.beq cur ver) (putCells news (Nat.add off (Nat.mul len size)) t fun t' => h.putK id (.mk 1 m el' cur cur t') fun h' => .ok (.slice id ver off need sz (.a xc ext)) h') .no)
          (Nat.rec (motive := fun _ => OpR)
            (ifB (Nat.beq cur ver) (ifB (Nat.beq off 0) (ifB (Nat.beq (Nat.mul len size) m) (forceN (Nat.mul need size) fun m' => forceN (Nat.succ cur) fun cur' => putCells news m t fun t' =>
              h.putK id (.mk 1 m' el' cur' mn t') fun h' => .ok (.slice id cur' 0 need size (.a 0 m')) h') .no) .no) .no)
            (fun _ _ => forceN (Nat.mul need size) fun m' => forceN (Nat.mul len size) fun m0 => putCells (cellsFrom t m0 off) 0 .lf fun t1 => putCells news m0 t1 fun t2 => h.newK (.mk 1 m' el 0 0 t2) fun id' h' => .ok (.slice id' 0 0 need size (.a 0 m')) h')
            xc)) .no) .no)) .no) .no) .no
section
variable {P : Program} {w : World} {ι : Em} {sT e xT ty : TypeId} {size el n : Nat} {d news r : V} {h h' : HS} {u x : Value} {us : List Value} {i : TypeInfo} {z : Value}
theorem src_news (hs : Src P w e size xT x n us) (hl : us.length = n * size) (h0 : n = 0) : us = [] := by
  subst h0; exact List.length_eq_zero_iff.1 (by rw [hl]; simp)
theorem cells_one {vs : List V} (h2 : All2 (vr ι) vs us) (hc : ∀ v ∈ vs, isCell v) : ∀ u ∈ us, u.oneCell' = true := by
  intro u hu
  obtain ⟨k, hk⟩ := List.mem_iff_getElem?.1 hu
  have hlt : k < us.length := by
    rcases Nat.lt_or_ge k us.length with h1 | h1
    · exact h1
    · rw [List.getElem?_eq_none h1] at hk; cases hk
  have hlv : k < vs.length := by rw [h2.length]; exact hlt
  obtain ⟨u', hu', hr⟩ := h2.get k vs[k] (List.getElem?_eq_getElem hlv)
  rw [hk] at hu'; cases hu'
  exact (vr_cell hr (hc _ (List.getElem_mem hlv))).1
theorem zeroCells_size (c : Array Value) (k : Nat) : (Builtin.zeroCells c k).size = k * c.size := by simp [Builtin.zeroCells]
theorem appendS_ok (ht : P.underlying sT = some (.slice e)) (hi : P.info? e = some i) (hsz : i.size = size) (hpos : 0 < size) (hb : i.bytes ≤ 1048576) (hz : ∀ w', (zeroValue e).run P w' = .ok z w') (hzs : z.cells.size = size)
    (hh : appendS size el d n news h = .ok r h') (H : HRel ι h w) (hd : vr ι d u) (hs : Src P w e size xT x n us) (hl : lr ι news us) : SemS P (Builtin.append_ #[sT, xT] ty #[u, x]) ι h w r h' := by
  obtain ⟨b1, hk1⟩ := ifB_ok hh
  obtain ⟨b2, hk2⟩ := ifB_ok hk1
  have hlen := beq_t b1
  rw [lenL_eq] at hlen
  have hlen : news.list.length = n * size := hlen
  have h2 := ((lr_iff ι news us).1 hl).2
  have hcell := cellsB_t b2
  have hone := cells_one h2 hcell
  have hul : us.length = n * size := by rw [← h2.length]; exact hlen
  rcases onSl_ok hk2 with ⟨y, rfl, hk3⟩ | ⟨id, ver, off, len, sz, e', q, rfl, hk3⟩
  · have hd' : u = .slice none 0 0 := hd
    subst hd'
    rcases ifB_two hk3 with ⟨g1, hk4⟩ | ⟨g1, hk4⟩
    · have h0 := beq_t g1
      subst h0
      cases hk4
      have := src_news hs hul rfl
      subst this
      refine SemS.same (u := .slice none 0 0) H ?_ rfl
      rw [run_append_in ht hi hsz hs (by omega) hpos]
      simp [inPlace]
    · have hn0 : n ≠ 0 := by
        intro e; subst e; cases g1
      obtain ⟨g2, hk5⟩ := ifB_ok hk4
      have hsm := blt_t g2
      rw [forceN_eq, putCells_eq, HS.newK_eq] at hk5
      cases hk5
      obtain ⟨nc, hnc, hrun⟩ := run_append_new (ty := ty) ht hi hsz hz hs (base := none) (sLen := 0) (cap := 0) (by omega) hpos hb (by omega) (olds := []) (fun k => by simp [Builtin.firstCells])
      simp only [Nat.zero_add] at hnc hrun
      have hmul : n * size ≤ nc * size := Nat.mul_le_mul_right _ hnc
      have hsplit : n * size + (nc - n) * size = nc * size := by rw [← Nat.add_mul]; congr 1; omega
      obtain ⟨a, b⟩ := (H.drawn (w.drawn + 1)).roomy (n := n * size) (z := nc * size) (el := el) (t := putL news.list 0 .lf) (cs := [].toArray ++ us.toArray ++ Builtin.zeroCells z.cells (nc - n)) (e := e)
        (by simp [zeroCells_size, hul, hzs]; omega) hmul (by
          have := row_of (cs := [].toArray ++ us.toArray ++ Builtin.zeroCells z.cells (nc - n)) (rest := (Builtin.zeroCells z.cells (nc - n)).toList) h2 (by simp) (fun i v hv => at_treeOf news.list i v hv)
          rw [hlen] at this; exact this)
      refine ⟨_, _, _, hrun, a, b.drew, ?_⟩
      refine ⟨0, 0, n, size, 0, n * size, _, ⟨w.heap.size, 0, none⟩, nc, rfl, rfl, Em.add_self _ _ _ _, Nat.le_refl _, rfl, hnc, fun _ => rfl, ?_, fun _ => ?_, fun h => absurd rfl h⟩
      · show 0 + 0 + nc * size ≤ nc * size; omega
      · show n * size ≤ 0 + nc * size; omega
  · obtain ⟨xc, ext, m, ad, c, rfl, hm, hext, rfl, hlc, had, hroom, hx0, hx1⟩ := sliceR_of hd
    obtain ⟨_, _, he, hk4⟩ := onA_ok hk3; cases he
    obtain ⟨g1, hk5⟩ := ifB_ok hk4
    have := beq_t g1; subst this
    rcases ifB_two hk5 with ⟨g2, hk6⟩ | ⟨g2, hk6⟩
    · have h0 := beq_t g2
      subst h0
      cases hk6
      have := src_news hs hul rfl
      subst this
      refine SemS.same (u := .slice (some ad) len c) H ?_ ⟨ver, off, len, sz, xc, ext, m, ad, c, rfl, rfl, hm, hext, rfl, hlc, had, hroom, hx0, hx1⟩
      rw [run_append_in ht hi hsz hs (by omega) hpos]
      simp [inPlace, storeCells]
    · have hn0 : n ≠ 0 := by
        intro e; subst e; cases g2
      rw [forceN_eq] at hk6
      obtain ⟨g3, hk7⟩ := ifB_ok hk6
      have hsm : len + n < 1048576 := blt_t g3
      obtain ⟨mn0, el', cur, mn, t, ho, hk8⟩ := onCells_ok hk7
      obtain ⟨g4, hk9⟩ := ifB_ok hk8
      have hmn := ble_t g4
      obtain ⟨e1, e2, e3, e4, e5, e6⟩ := Ob.eq_of ho
      have hnz : 0 < n * sz := Nat.mul_pos (by omega) hpos
      have hadd : (len + n) * sz = len * sz + n * sz := Nat.add_mul _ _ _
      rcases ifB_two hk9 with ⟨g5, hk10⟩ | ⟨g5, hk10⟩
      · -- in place
        have hfit : len + n ≤ c ∧ off + (len + n) * sz ≤ ext := by
          cases xc with
          | zero =>
            have g5' : off + (len + n) * sz ≤ ext := ble_t g5
            have := hx0 rfl
            exact ⟨Nat.le_of_mul_le_mul_right (by omega : (len + n) * sz ≤ c * sz) hpos, g5'⟩
          | succ xc =>
            have g5' : len + n ≤ xc := ble_t g5
            have := hx1 (by simp)
            have hle : len + n ≤ c := by omega
            have : (len + n) * sz ≤ c * sz := Nat.mul_le_mul_right _ hle
            exact ⟨hle, by omega⟩
        obtain ⟨g6, hk11⟩ := ifB_ok hk10
        have := beq_t g6; subst this
        rw [putCells_eq, HS.putK_eq] at hk11
        cases hk11
        have had := had (by omega)
        obtain ⟨w', k1, k2, k3⟩ := run_storeCells_all (P := P) H e1 (by rw [e4, e5]; exact hmn) (by rw [e4]; exact hm) (vs := news.list) (us := us) (off := off + len * sz) (by intro e; rw [e] at hlen; simp at hlen; omega) (by rw [hlen]; omega) h2 hcell
        rw [e2, e3, e4, e6] at k2 k3
        refine ⟨.slice (some ad) (len + n) c, w', ι, ?_, k2, k3, ⟨cur, off, len + n, sz, xc, ext, m, ad, c, rfl, rfl, hm, hext, rfl, hfit.1, fun _ => had, hroom, hx0, hx1⟩⟩
        rw [run_append_in ht hi hsz hs hfit.1 hpos]
        simp only [inPlace, had, add_addr, Nat.add_assoc, Sem.run_bind, k1, Result.andThen_ok]
        rfl
      · cases xc with
        | zero =>
          obtain ⟨g6, hk11⟩ := ifB_ok (show ifB (β := OpR) (Nat.beq cur ver) _ OpR.no = OpR.ok r h' from hk10)
          obtain ⟨g7, hk12⟩ := ifB_ok hk11
          obtain ⟨g8, hk13⟩ := ifB_ok hk12
          have := beq_t g6; subst this
          have := beq_t g7; subst this
          have g8' : len * sz = mn0 := beq_t g8
          subst g8'
          rw [forceN_eq, forceN_eq, putCells_eq, HS.putK_eq] at hk13
          cases hk13
          obtain ⟨cs, el0, fz, c1, c2, c3, c4, c5, c6⟩ := H.cells id cur m e1 (by rw [e5]; exact hmn) hm
          obtain ⟨c7, rfl⟩ := c5 e4.symm
          rw [e2] at c7
          have hholdT : ∀ i, i < len * sz → Tr.at_ .no (putL news.list (len * sz) t) i = Tr.at_ .no t i := fun i hi => by
            rw [at_putL, if_neg (by omega)]
          have hnewT : ∀ i, len * sz ≤ i → i < len * sz + n * sz → ∃ u, us[i - len * sz]? = some u ∧ vr ι (Tr.at_ .no (putL news.list (len * sz) t) i) u := fun i hi1 hi2 => by
            have hlt : i - len * sz < news.list.length := by omega
            obtain ⟨u, hu, hr⟩ := h2.get (i - len * sz) _ (List.getElem?_eq_getElem hlt)
            refine ⟨u, hu, ?_⟩
            rw [at_putL, if_pos ⟨hi1, by omega⟩]
            simpa [List.getD_eq_getElem?_getD, List.getElem?_eq_getElem hlt] using hr
          by_cases hc : len + n ≤ c
          · -- the room is there
            have had := had (by omega)
            have hcz : (len + n) * sz ≤ c * sz := Nat.mul_le_mul_right _ hc
            obtain ⟨w', cs', k1, k2, k3, k4, k5, k6, k7, k8, k9⟩ := run_storeCells_raw (P := P) (b := m.b) (o := m.o + len * sz) us 0 cs w c1 (by omega) hone
            have hgrow := H.grow (w' := w') (id := id) (n' := (len + n) * sz) (m := m) (t' := putL news.list (len * sz) t) (cs := cs') (el := el0) (m' := ⟨m.b, m.o, (len + n) * sz, m.z⟩) e1 (by rw [e4, e5]; exact hmn) (by rw [e4]; exact hm) (by rw [e2]; omega)
              (fun i hi => by rw [e6]; exact hholdT i (by rw [e2] at hi; exact hi)) rfl (by show m.o + (len + n) * sz ≤ m.z; omega) (.inl ⟨rfl, rfl, rfl⟩) (by rw [k3]; exact c2) k2 (fun k hk _ => k5 k hk) (by omega) (by show m.b < w'.heap.size; rw [k6]; exact Array.lt_of_some c1)
              (fun _ cs0 el0' fz0 hcs0 i hi => by
                rw [c1] at hcs0; cases hcs0
                rw [e2] at hi
                rw [k4 i, if_neg (by omega)])
              k7 k8 k9 (fun i hi => by
                show ∃ u, cs'[m.o + i]? = some u ∧ _
                rw [k4]
                by_cases hio : i < len * sz
                · rw [if_neg (by omega)]
                  obtain ⟨u, hu, hr⟩ := c6 i (by omega)
                  exact ⟨u, hu, by rw [hholdT i hio, ← e6]; exact hr⟩
                · rw [if_pos ⟨by omega, by omega⟩]
                  obtain ⟨u, hu, hr⟩ := hnewT i (by omega) (by omega)
                  exact ⟨u, by rw [← hu]; congr 1; omega, hr⟩)
            rw [e3, e4, e5] at hgrow
            refine ⟨.slice (some ad) (len + n) c, w', _, ?_, hgrow.1, hgrow.2, ?_⟩
            · rw [run_append_in ht hi hsz hs hc hpos]
              simp only [inPlace, had, add_addr, Nat.add_zero, Sem.run_bind, k1, Result.andThen_ok]
              rfl
            · refine ⟨cur + 1, 0, len + n, sz, 0, (len + n) * sz, _, ad, c, rfl, rfl, Em.add_self _ _ _ _, Nat.le_refl _, rfl, hc, fun _ => by rw [had], ?_, fun _ => ?_, fun h => absurd rfl h⟩
              · show m.o + 0 + c * sz ≤ m.z; omega
              · show (len + n) * sz ≤ 0 + c * sz; omega
          · -- a new block
            obtain ⟨olds, o1, o2, o3⟩ := run_loadCells' (P := P) H hm e1 (by rw [e5]; exact hmn) (off := 0) (n := len * sz) (by omega)
            have o4 := ((lr_iff ι _ olds).1 o3).2
            rw [list_cellsFrom] at o4
            obtain ⟨nc, hnc, hrun⟩ := run_append_new (ty := ty) ht hi hsz hz hs (base := some ad) (sLen := len) (cap := c) (by omega) hpos hb hsm (olds := olds) (fun k => by
              by_cases hl0 : len = 0
              · subst hl0
                have : olds = [] := List.length_eq_zero_iff.1 (by rw [o1]; simp)
                subst this
                simp [Builtin.firstCells, loadCells, loadCellsFrom]
              · rw [had (by omega)]; exact o2 k)
            have hmul : (len + n) * sz ≤ nc * sz := Nat.mul_le_mul_right _ hnc
            have hsplit : (len + n) * sz + (nc - (len + n)) * sz = nc * sz := by rw [← Nat.add_mul]; congr 1; omega
            have hgrow := (H.drawn (w.drawn + 1)).grow (w' := pushed (drawnTo w (w.drawn + 1)) (.cells (olds.toArray ++ us.toArray ++ Builtin.zeroCells z.cells (nc - (len + n))) e)) (id := id) (n' := (len + n) * sz) (m := m) (t' := putL news.list (len * sz) t)
              (cs := olds.toArray ++ us.toArray ++ Builtin.zeroCells z.cells (nc - (len + n))) (el := e) (m' := ⟨w.heap.size, 0, (len + n) * sz, nc * sz⟩) e1 (by rw [e4, e5]; exact hmn) (by rw [e4]; exact hm) (by rw [e2]; omega)
              (fun i hi => by rw [e6]; exact hholdT i (by rw [e2] at hi; exact hi)) rfl (by show 0 + (len + n) * sz ≤ nc * sz; omega) (.inr rfl) (by show _ = nc * sz; simp [zeroCells_size, hul, o1, hzs]; omega) (heap_pushed_new _ _) (fun k _ hk => heap_pushed _ _ k hk) (by simp) (by show w.heap.size < _; simp)
              (fun hbb => by
                have h5 := H.bound id cur m hm
                have h6 : w.heap.size = m.b := hbb
                omega)
              rfl rfl rfl (fun i hi => by
                show ∃ u, (olds.toArray ++ us.toArray ++ Builtin.zeroCells z.cells (nc - (len + n)))[0 + i]? = some u ∧ _
                rw [Nat.zero_add, ← Array.getElem?_toList]
                simp only [Array.toList_append]
                by_cases hio : i < len * sz
                · rw [List.getElem?_append_left (by simp; omega), List.getElem?_append_left (by simpa [o1] using hio)]
                  obtain ⟨u, hu, hr⟩ := o4.get i (Tr.at_ .no (h.get id).t (0 + i)) (by simp [hio])
                  exact ⟨u, hu, by rw [hholdT i hio, ← e6]; simpa using hr⟩
                · rw [List.getElem?_append_left (by simp; omega), List.getElem?_append_right (by simp [o1]; omega)]
                  obtain ⟨u, hu, hr⟩ := hnewT i (by omega) (by omega)
                  exact ⟨u, by simpa [o1] using hu, hr⟩)
            rw [e3, e4, e5] at hgrow
            refine ⟨_, _, _, hrun, hgrow.1, hgrow.2.drew, ?_⟩
            refine ⟨cur + 1, 0, len + n, sz, 0, (len + n) * sz, _, ⟨w.heap.size, 0, none⟩, nc, rfl, rfl, Em.add_self _ _ _ _, Nat.le_refl _, rfl, hnc, fun _ => rfl, ?_, fun _ => ?_, fun h => absurd rfl h⟩
            · show 0 + 0 + nc * sz ≤ nc * sz; omega
            · show (len + n) * sz ≤ 0 + nc * sz; omega
        | succ xc =>
          have hk11 : (forceN (Nat.mul (Nat.add len n) sz) fun m' => forceN (Nat.mul len sz) fun m0 => putCells (cellsFrom t m0 off) 0 .lf fun t1 => putCells news m0 t1 fun t2 => h.newK (.mk 1 m' el 0 0 t2) fun id' h' => .ok (.slice id' 0 0 (Nat.add len n) sz (.a 0 m')) h') = OpR.ok r h' := hk10
          rw [forceN_eq, forceN_eq, putCells_eq, putCells_eq, HS.newK_eq] at hk11
          cases hk11
          have hxx := hx1 (by simp)
          have hcx : ¬ (len + n ≤ c) := by
            intro hle
            have : Nat.ble (len + n) xc = true := Nat.ble_eq_true_of_le (by omega)
            have g5' : Nat.ble (len + n) xc = false := g5
            rw [this] at g5'; cases g5'
          have hlcz : len * sz ≤ c * sz := Nat.mul_le_mul_right _ hlc
          obtain ⟨olds, o1, o2, o3⟩ := run_loadCells' (P := P) H hm e1 (by rw [e5]; exact hmn) (off := off) (n := len * sz) (by omega)
          rw [e6] at o3
          have o4 := ((lr_iff ι _ olds).1 o3).2
          obtain ⟨nc, hnc, hrun⟩ := run_append_new (ty := ty) ht hi hsz hz hs (base := some ad) (sLen := len) (cap := c) (by omega) hpos hb hsm (olds := olds) (fun k => by
            by_cases hl0 : len = 0
            · subst hl0
              have : olds = [] := List.length_eq_zero_iff.1 (by rw [o1]; simp)
              subst this
              simp [Builtin.firstCells, loadCells, loadCellsFrom]
            · rw [had (by omega)]; exact o2 k)
          have hmul : (len + n) * sz ≤ nc * sz := Nat.mul_le_mul_right _ hnc
          have hsplit : (len + n) * sz + (nc - (len + n)) * sz = nc * sz := by rw [← Nat.add_mul]; congr 1; omega
          have hol : (cellsFrom t (len * sz) off).list.length = len * sz := by rw [o4.length, o1]
          obtain ⟨a, b⟩ := (H.drawn (w.drawn + 1)).roomy (n := (len + n) * sz) (z := nc * sz) (el := el) (t := putL news.list (len * sz) (putL (cellsFrom t (len * sz) off).list 0 .lf)) (cs := olds.toArray ++ us.toArray ++ Builtin.zeroCells z.cells (nc - (len + n))) (e := e)
            (by simp [zeroCells_size, hul, o1, hzs]; omega) hmul (by
              have := row_of (cs := olds.toArray ++ us.toArray ++ Builtin.zeroCells z.cells (nc - (len + n))) (rest := (Builtin.zeroCells z.cells (nc - (len + n))).toList) (o4.append h2) (by simp) (fun i v hv => at_two _ _ i v hv)
              rw [List.length_append, hol, hlen, ← hadd] at this; exact this)
          refine ⟨_, _, _, hrun, a, b.drew, ?_⟩
          refine ⟨0, 0, len + n, sz, 0, (len + n) * sz, _, ⟨w.heap.size, 0, none⟩, nc, rfl, rfl, Em.add_self _ _ _ _, Nat.le_refl _, rfl, hnc, fun _ => rfl, ?_, fun _ => ?_, fun h => absurd rfl h⟩
          · show 0 + 0 + nc * sz ≤ nc * sz; omega
          · show (len + n) * sz ≤ 0 + nc * sz; omega
end
end Go.Ev

/- Objects made at places that were kept for them. -/
set_option autoImplicit false
namespace Go.Ev
open Go.RowKit

/-- s makes one object; the place id is kept for it -/
def MadeS (P : Program) (s : Sem Value) (ι : Em) (w : World) (id : Nat) (v : V) (o : Ob) : Prop :=
  ∃ u ob m, s.run P w = .ok u (pushed w ob) ∧ m.b = w.heap.size ∧ o.cur = 0 ∧ (o.tag = 1 → CellsOK (ι.add id 0 m) (pushed w ob) o 0 m) ∧ (o.tag = 2 → MapOK (ι.add id 0 m) (pushed w ob) o m) ∧ vr (ι.add id 0 m) v u
theorem cells_ok {ι : Em} {w : World} {id n el : Nat} {t : Tr V} {cs : Array Value} {e : TypeId} {vs : List V} (hid : ∀ ver, ι id ver = none) (hn : cs.size = n) (h2 : All2 (vr ι) vs cs.toList) (ht : ∀ i v, vs[i]? = some v → Tr.at_ .no t i = v) :
    CellsOK (ι.add id 0 ⟨w.heap.size, 0, n, n⟩) (pushed w (.cells cs e)) (.mk 1 n el 0 0 t) 0 ⟨w.heap.size, 0, n, n⟩ := by
  have hs : Sub ι (ι.add id 0 ⟨w.heap.size, 0, n, n⟩) := Em.sub_add _ (hid 0)
  refine ⟨cs, e, (0, 0), heap_pushed_new w _, hn, by simp, Nat.le_refl _, fun _ => ⟨rfl, rfl⟩, fun i hi => ?_⟩
  have hlen := h2.length
  have hi : i < n := hi
  have hv : i < vs.length := by rw [hlen]; simpa [hn] using hi
  obtain ⟨u, hu, hr⟩ := h2.get i vs[i] (List.getElem?_eq_getElem hv)
  refine ⟨u, by simpa using hu, vr_mono hs ?_⟩
  show vr ι (Tr.at_ .no t i) u
  rw [ht i _ (List.getElem?_eq_getElem hv)]; exact hr
section
variable {P : Program} {t e : TypeId} {zs : List V} {n id el len : Nat} {h h' : HS} {r v : V} {ι : Em} {w : World} {K : V → Ob → OpR} {a : Value}
theorem made_cells {s : Sem Value} {T : Tr V} {cs : Array Value} {vs : List V} (hid : ∀ ver, ι id ver = none) (hr : s.run P w = .ok (.pointer (some ⟨w.heap.size, 0, none⟩)) (pushed w (.cells cs e)))
    (hn : cs.size = n) (h2 : All2 (vr ι) vs cs.toList) (ht : ∀ i v, vs[i]? = some v → Tr.at_ .no T i = v) : MadeS P s ι w id (.ptr id 0 0 (.a 0 n)) (.mk 1 n el 0 0 T) :=
  ⟨_, _, ⟨w.heap.size, 0, n, n⟩, hr, rfl, rfl, fun _ => cells_ok hid hn h2 ht, (fun h => by cases h), 0, 0, 0, n, _, rfl, rfl, Em.add_self _ _ _ _, Nat.le_refl _, rfl⟩
noncomputable def varK (id n el : Nat) (t : Tr V) (K : V → Ob → OpR) : OpR := K (.ptr id 0 0 (.a 0 n)) (.mk 1 n el 0 0 t)
theorem allocK_ok (hid : ∀ ver, ι id ver = none) (hz : zeroC P t = some zs) (hn : zs.length = n) (hh : varK id n el (treeOf zs) K = .ok r h') :
    ∃ v o, K v o = .ok r h' ∧ MadeS P (Instr.alloc t true (.tuple #[])) ι w id v o := by
  obtain ⟨z, hz1, hz2⟩ := zeroC_ok hz
  have h2 := (constL_ok (ι := ι) hz2).1
  exact ⟨_, _, hh, made_cells (e := t) (vs := zs) (cs := z.cells) hid (by simp [Instr.alloc, hz1, newVar, newRow]) (by rw [← hn, h2.length]; simp) h2 (fun i v hv => at_treeOf _ _ _ hv)⟩
noncomputable def boxK (id el : Nat) (v : V) (K : V → Ob → OpR) : OpR := forceCell v .no fun v => varK id 1 el (.nd .lf v .lf) K
theorem boxK_ok (hid : ∀ ver, ι id ver = none) (hh : boxK id el v K = .ok r h') (ha : isV v → vr ι v a) : ∃ v o, K v o = .ok r h' ∧ MadeS P (Instr.box t a) ι w id v o := by
  obtain ⟨hc, hk⟩ := forceCell_ok hh
  have hv := ha hc.isV
  have hcc := (vr_cell hv hc).2
  exact ⟨_, _, hk, made_cells (e := t) (vs := [v]) (cs := a.cells) hid (by simp [Instr.box, newVar, newRow]) (by rw [hcc]; rfl) (by rw [hcc]; exact ⟨hv, trivial⟩) (fun i u hu => by
    cases i with
    | zero => cases hu; rfl
    | succ i => simp at hu)⟩
noncomputable def boxNK (id n el : Nat) (v : V) (K : V → Ob → OpR) : OpR := onTagB 10 v .no fun _ l _ => ifB (Nat.beq (lenL l) n) (putCells l 0 .lf fun t => varK id n el t K) .no
theorem boxNK_ok (hid : ∀ ver, ι id ver = none) (hh : boxNK id n el v K = .ok r h') (ha : isV v → vr ι v a) : ∃ v o, K v o = .ok r h' ∧ MadeS P (Instr.box t a) ι w id v o := by
  obtain ⟨x, l, q, rfl, hk⟩ := onTagB_ok hh
  obtain ⟨hb, hk⟩ := ifB_ok hk
  rw [putCells_eq] at hk
  obtain ⟨cs, rfl, hl⟩ := aggR_of (ha trivial)
  have h2 := ((lr_iff ι l _).1 hl).2
  have hn := beq_t hb
  rw [lenL_eq] at hn
  exact ⟨_, _, hk, made_cells (e := t) (vs := l.list) (cs := cs) hid (by simp [Instr.box, newVar, newRow, Value.cells]) (by rw [← hn, h2.length]; simp) h2 (fun i u hu => at_treeOf _ _ _ hu)⟩
theorem made_row {s : Sem Value} {T : Tr V} {cs : Array Value} {vs : List V} {len sz : Nat} (hid : ∀ ver, ι id ver = none) (hr : s.run P w = .ok (.slice (some ⟨w.heap.size, 0, none⟩) len len) (pushed w (.cells cs e)))
    (hnn : n = len * sz) (hn : cs.size = n) (h2 : All2 (vr ι) vs cs.toList) (ht : ∀ i v, vs[i]? = some v → Tr.at_ .no T i = v) : MadeS P s ι w id (.slice id 0 0 len sz (.a (Nat.succ len) n)) (.mk 1 n el 0 0 T) := by
  refine ⟨_, _, ⟨w.heap.size, 0, n, n⟩, hr, rfl, rfl, fun _ => cells_ok hid hn h2 ht, (fun h => by cases h), 0, 0, len, sz, len + 1, n, _, ⟨w.heap.size, 0, none⟩, len, rfl, rfl, Em.add_self _ _ _ _, Nat.le_refl _, rfl, Nat.le_refl _, fun _ => rfl, ?_, fun h => by simp at h, fun _ => ⟨rfl, ?_⟩⟩
  · show 0 + 0 + len * sz ≤ n; omega
  · show 0 + len * sz ≤ n; omega
noncomputable def rowV (id n el len sz : Nat) (t : Tr V) (K : V → Ob → OpR) : OpR := K (.slice id 0 0 len sz (.a (Nat.succ len) n)) (.mk 1 n el 0 0 t)
noncomputable def buildK (spec : List (Nat × Nat)) (row : V) (id n el len sz : Nat) (vals : V) (K : V → Ob → OpR) : OpR := fillV spec vals row fun z => putCells z 0 .lf fun t => rowV id n el len sz t K
theorem buildK_ok {spec : List (Nat × Nat)} {vals : V} {parts : Array (Nat × Value)} (hid : ∀ ver, ι id ver = none)
    (ht : P.underlying t = some (.slice e)) (hz : zeroC P e = some zs) (hsz : szOf P e = some zs.length) (hsmall : len * zs.length ≤ 2 ^ 24) (hpos : 0 < len * zs.length) (hl : spec.length = parts.size)
    (hs : ∀ (i : Nat) (s : Nat × Nat) (p : Nat × Value), spec[i]? = some s → parts[i]? = some p → s = (p.1 * zs.length, zs.length)) (hn : ∀ s ∈ spec, s.1 + s.2 ≤ len * zs.length)
    (hv : ∀ (i : Nat) (p : Nat × Value), parts[i]? = some p → isV (nth i vals) → vr ι (nth i vals) p.2) (hh : buildK spec (V.ofList (rowL zs len)) id (len * zs.length) e len zs.length vals K = .ok r h') :
    ∃ v o, K v o = .ok r h' ∧ MadeS P (Instr.buildSlice t len parts) ι w id v o := by
  obtain ⟨it, z, hi, hz1, hz2⟩ := zeroC_info hz
  have hisz : it.size = zs.length := by unfold szOf at hsz; rw [hi] at hsz; simpa using hsz
  have h2 := rowL_ok (ι := ι) hz2 len
  obtain ⟨z', cells', g1, g2, g3, g4⟩ := fillV_ok (ι := ι) (place := fun i => some (i * zs.length, zs.length)) (n := len * zs.length) spec parts.toList vals (V.ofList (rowL zs len)) ((Array.range (len * zs.length)).map (z.cells[· % z.cells.size]!)) hh (by simpa using hl)
    (fun i s p a b => by rw [hs i s p a (by simpa using b)]) hn (fun i p a b => hv i p (by simpa using a) b) (lr_ofList.2 h2) (by simp [rowL])
  rw [putCells_eq] at g1
  have g3' := (lr_iff ι z' _).1 g3
  exact ⟨_, _, g1, made_row (e := e) (vs := z'.list) (cs := cells') hid (run_buildSlice w t e len parts cells' it z ht hi hz1 (by rw [hisz]; omega) (by rw [hisz]; omega) (by rw [hisz]; exact g2)) rfl (by rw [← g4, g3'.2.length]; simp) g3'.2 (fun i u hu => at_treeOf _ _ _ hu)⟩
noncomputable def makeK (zs : V) (id size el : Nat) (l c : V) (K : V → Ob → OpR) : OpR := onNat l .no fun l => onNat c .no fun c => ifB (Nat.beq l c) (ifB (Nat.blt c 1048576) (rowK zs size c fun t => forceN (Nat.mul c size) fun n => rowV id n el c size t K) .no) .no
theorem makeK_ok {bytes : Nat} {vl vc : V} {l c : Value} (hid : ∀ ver, ι id ver = none) (ht : P.underlying t = some (.slice e)) (hz : zeroC P e = some zs) (hsz : szOf P e = some zs.length) (hpos : 0 < zs.length)
    (hby : (P.info? e).map (·.bytes) = some bytes) (hb : bytes ≤ 1048576) (hh : makeK (V.ofList zs) id zs.length e vl vc K = .ok r h') (hl : isV vl → vr ι vl l) (hc : isV vc → vr ι vc c) :
    ∃ v o, K v o = .ok r h' ∧ MadeS P (Instr.makeSlice t l c) ι w id v o := by
  obtain ⟨t1, n, rfl, h1, h2, hk⟩ := onNat_ok hh
  obtain ⟨t2, m, rfl, h3, h4, hk⟩ := onNat_ok hk
  obtain ⟨h5, hk⟩ := ifB_ok hk
  obtain ⟨h6, hk⟩ := ifB_ok hk
  have := beq_t h5; subst this
  have hlt := blt_t h6
  obtain ⟨k1, rfl⟩ := natR (hl (by simp [isV]; omega)) h1 h2
  obtain ⟨k2, rfl⟩ := natR (hc (by simp [isV]; omega)) h3 h4
  have hrk := rowK_eq (V.ofList zs) n (fun t => forceN (Nat.mul n zs.length) fun m => rowV id m e n zs.length t K)
  rw [V.list_ofList] at hrk
  rw [hrk, forceN_eq] at hk
  obtain ⟨it, z, hi, hz1, hz2⟩ := zeroC_info hz
  have hisz : it.size = zs.length := by unfold szOf at hsz; rw [hi] at hsz; simpa using hsz
  have hib : it.bytes = bytes := by rw [hi] at hby; simpa using hby
  have h2' := rowL_ok (ι := ι) hz2 n
  have hbm : bytes * n ≤ 281474976710656 := by
    have h1 : bytes * n ≤ 1048576 * n := Nat.mul_le_mul_right n hb
    omega
  have hb' : (it.bytes : Int) * (n : Int) ≤ 281474976710656 := by
    rw [hib]
    have h : ((bytes * n : Nat) : Int) ≤ 281474976710656 := by omega
    rwa [Int.natCast_mul] at h
  have hr := run_make (P := P) w t e it z ht hi hz1 k1 k2 (n : Int) (n : Int) (by omega) (Int.le_refl _) hb' (by omega)
  simp only [Int.toNat_natCast, madeCells, hisz] at hr
  exact ⟨_, _, hk, made_row (e := e) (vs := rowL zs n) (cs := (Array.range (n * zs.length)).map (z.cells[· % z.cells.size]!)) hid hr rfl (by simp) h2' (fun i u hu => by
    have hi : i < n * zs.length := by
      obtain ⟨hi, _⟩ := List.getElem?_eq_some_iff.1 hu
      simpa [rowL] using hi
    rw [at_rowTr zs n i hi]
    simp only [rowL, List.getElem?_map, List.getElem?_range hi] at hu
    simpa using hu)⟩
noncomputable def mapK (id : Nat) (K : V → Ob → OpR) : OpR := K (.a 6 id) (.mk 2 0 0 0 0 (.nd .lf .nilL .lf))
theorem mapK_ok (hid : ∀ ver, ι id ver = none) (hh : mapK id K = .ok r h') : ∃ v o, K v o = .ok r h' ∧ MadeS P (Instr.makeMap t none) ι w id v o :=
  ⟨_, _, hh, .map (some w.heap.size), .map #[] 0, ⟨w.heap.size, 0, 0, 0⟩, by simp [Instr.makeMap], rfl, rfl, (fun h => by cases h), fun _ => MapOK.mk0 (heap_pushed_new w _) trivial rfl rfl rfl, ⟨_, Em.add_self _ _ _ _, rfl⟩⟩
end
end Go.Ev

/- The rest of the quiet operations; maps. -/
set_option autoImplicit false
namespace Go.Ev
open Go.RowKit

noncomputable def pickV (c x y : V) (h : HS) : OpR := onBool c .no (okv x h) (okv y h)
theorem pickV_ok {P : Program} {c x y r : V} {h h' : HS} {ι : Em} {w : World} {cv a b : Value} (hh : pickV c x y h = .ok r h') (hc : vr ι c cv) (ha : isV x → vr ι x a) (hb : isV y → vr ι y b) :
    QS P (do pure (if ← asBool cv then a else b)) ι h w r h' := by
  obtain ⟨n, rfl, hk⟩ := onBool_ok hh
  have hc' := boolR hc
  subst hc'
  rcases hk with ⟨hn, hk⟩ | ⟨hn, hk⟩
  · obtain ⟨hv, rfl, rfl⟩ := okv_ok hk
    exact QS.same (u := a) (by simp [asBool, hn]) (ha hv)
  · obtain ⟨hv, rfl, rfl⟩ := okv_ok hk
    exact QS.same (u := b) (by simp [asBool, hn]) (hb hv)
/-- what a nil check lets through -/
noncomputable def nilV (v : V) (h : HS) : OpR := V.rec (motive := fun _ => OpR) (fun _ _ => .no) (fun t x l r _ _ => .ok (.b t x l r) h) v
/-- all members are known -/
noncomputable def allV (l : V) (y n : OpR) : OpR := V.rec (motive := fun _ => OpR) (fun _ _ => y) (fun _ _ a _ _ ih => forceV a n fun _ => ih) l
theorem allV_ok {l r : V} {y : OpR} {h : HS} {c : Nat} (hh : allV l y (.bad c) = .ok r h) : y = .ok r h ∧ ∀ v ∈ l.list, isV v := by
  induction l with
  | a t x => exact ⟨hh, fun v hv => by cases hv⟩
  | b t x a q _ ih =>
    obtain ⟨hv, hk⟩ := forceV_ok (show forceV a (.bad c) (fun _ => allV q y (.bad c)) = .ok r h from hh)
    obtain ⟨h1, h2⟩ := ih hk
    exact ⟨h1, fun v hm => by rcases List.mem_cons.1 hm with rfl | hm; exact hv; exact h2 v hm⟩
noncomputable def funcV (f : Nat) (first caps : V) (h : HS) : OpR := allV first (allV caps (.ok (.b 8 f caps first) h) .no) .no
theorem funcV_ok {P : Program} {f : Nat} {first caps r : V} {h h' : HS} {ι : Em} {w : World} {fs cs : Array Value} (hh : funcV f first caps h = .ok r h') (hf : (∀ v ∈ first.list, isV v) → lr ι first fs.toList) (hc : (∀ v ∈ caps.list, isV v) → lr ι caps cs.toList) :
    QS P (Instr.makeFunc (.func f) fs cs) ι h w r h' := by
  obtain ⟨h1, h2⟩ := allV_ok hh
  obtain ⟨h3, h4⟩ := allV_ok h1
  cases h3
  exact QS.same (u := .func (.func f) fs cs) (by simp [Instr.makeFunc]) ⟨fs, cs, rfl, hc h4, hf h2⟩
noncomputable def ifaceV (t : Nat) (v : V) (h : HS) : OpR := forceV v .no fun v => .ok (.b 9 t v .nilL) h
def isIface (P : Program) (t : TypeId) : Bool := match P.underlying t with | some (.interface _) => true | none => true | _ => false
theorem ifaceV_ok {P : Program} {t : Nat} {v r : V} {h h' : HS} {ι : Em} {w : World} {a : Value} (ht : isIface P t = false) (hh : ifaceV t v h = .ok r h') (ha : isV v → vr ι v a) : QS P (Instr.makeInterface t a) ι h w r h' := by
  obtain ⟨hv, hk⟩ := forceV_ok hh
  cases hk
  unfold isIface at ht
  cases hu : P.underlying t with
  | none => rw [hu] at ht; cases ht
  | some d =>
    rw [hu] at ht
    refine QS.same (u := .iface t a) ?_ ⟨a, rfl, ha hv⟩
    cases d <;> simp [Instr.makeInterface, run_underlying' hu] at ht ⊢

/-! maps whose keys are numbers or strings -/
def isKey (P : Program) (t : TypeId) : Bool := match P.underlying t with | some (.int _) => true | some .string => true | _ => false
/-- k: where the key is; n: where it isn't -/
noncomputable def keyEq (t x : Nat) (e : V) (y n : OpR) : OpR := onA e .no fun u z => ifB (Nat.blt t 32) (ifB (Nat.beq t 2) (ifB (Nat.beq u 2) (ifB (Nat.beq x z) y n) .no) .no)
  (ifB (Nat.blt u 32) .no (ifB (Nat.beq (Nat.shiftRight t 1) (Nat.shiftRight u 1)) (ifB (Nat.beq t u) (ifB (Nat.beq x z) y n) n) .no))
theorem byBeq (s t : ByteArray) : (s == t) = Nat.beq (enc s) (enc t) := by rw [enc_beq, beq_toListBytes]
theorem keyEq_ok {ι : Em} {t x : Nat} {e r : V} {y n : OpR} {h : HS} {a b : Value} {d : TypeDesc} (hh : keyEq t x e y n = .ok r h) (ha : vr ι (.a t x) a) (hb : vr ι e b)
    (hda : ∀ k v, a = .int k v → ∃ k', d = .int k') (hds : ∀ s, a = .string s → d = .string) :
    ((Instr.sameNow d a b = some true ∧ a = b) ∧ y = .ok r h) ∨ (Instr.sameNow d a b = some false ∧ n = .ok r h) := by
  obtain ⟨u, z, rfl, hk⟩ := onA_ok hh
  rcases ifB_two hk with ⟨g1, hk1⟩ | ⟨g1, hk1⟩
  · obtain ⟨g2, hk2⟩ := ifB_ok hk1
    obtain ⟨g3, hk3⟩ := ifB_ok hk2
    have := beq_t g2; subst this
    have := beq_t g3; subst this
    obtain ⟨s, rfl, rfl⟩ := strR ha
    obtain ⟨s', rfl, rfl⟩ := strR hb
    rw [hds s rfl]
    rcases ifB_two hk3 with ⟨g4, hk4⟩ | ⟨g4, hk4⟩
    · have := enc_inj (beq_t g4)
      subst this
      exact .inl ⟨⟨by simp [Instr.sameNow, byBeq, g4], rfl⟩, hk4⟩
    · refine .inr ⟨?_, hk4⟩
      simp [Instr.sameNow, byBeq, g4]
  · have h32 := blt_f g1
    obtain ⟨g2, hk2⟩ := ifB_no hk1
    have h32' := blt_f g2
    obtain ⟨g3, hk3⟩ := ifB_ok hk2
    have hs := beq_t g3
    rw [shr_one, shr_one] at hs
    obtain ⟨_, rfl⟩ := aR_int ha h32
    obtain ⟨_, rfl⟩ := aR_int hb h32'
    obtain ⟨k', rfl⟩ := hda _ _ rfl
    have hkk : kindOf ((t - 32) / 2) = kindOf ((u - 32) / 2) := by congr 1; omega
    have hj := toI_inj (x := x) (y := z) hs
    rcases ifB_two hk3 with ⟨g4, hk4⟩ | ⟨g4, hk4⟩
    · rcases ifB_two hk4 with ⟨g5, hk5⟩ | ⟨g5, hk5⟩
      · have := beq_t g4; subst this
        have := beq_t g5; subst this
        exact .inl ⟨⟨by simp [Instr.sameNow], rfl⟩, hk5⟩
      · refine .inr ⟨?_, hk5⟩
        have hne : ¬ (toI t x = toI u z) := fun e => by
          have := (hj.1 e).2; rw [this] at g5; simp at g5
        simp [Instr.sameNow, hkk, hne]
    · refine .inr ⟨?_, hk4⟩
      have hne : ¬ (toI t x = toI u z) := fun e => by
        have := (hj.1 e).1; rw [this] at g4; simp at g4
      simp [Instr.sameNow, hkk, hne]

/-- looks through the entries -/
noncomputable def scanV (t x : Nat) (l : V) (y : V → OpR) (n : OpR) : OpR := V.rec (motive := fun _ => OpR) (fun _ _ => n) (fun _ _ e _ _ ih => onB e .no fun _ _ k v => keyEq t x k (y v) ih) l
/-- keys of a type: what the evaluator's key says -/
def KeyIn (d : TypeDesc) (a : Value) : Prop := (∀ k v, a = .int k v → ∃ k', d = .int k') ∧ (∀ s, a = .string s → d = .string)
theorem scanV_ok {ι : Em} {t x : Nat} {l r : V} {y : V → OpR} {n : OpR} {h : HS} {a : Value} {d : TypeDesc} (ha : vr ι (.a t x) a) (hd : KeyIn d a) : ∀ (es : List MapEntry) (i : Nat), All2 (entR ι) l.list es → scanV t x l y n = .ok r h →
    (∃ j e v, Instr.findNow d a es i = some (some (i + j, e.val)) ∧ es[j]? = some e ∧ vr ι v e.val ∧ a = e.key ∧ y v = .ok r h) ∨ (Instr.findNow d a es i = some none ∧ n = .ok r h) := by
  induction l with
  | a t' x' => intro es i h2 hh; cases es with
    | nil => exact .inr ⟨rfl, hh⟩
    | cons e es => exact h2.elim
  | b t' x' e0 q _ ih =>
    intro es i h2 hh
    cases es with
    | nil => exact h2.elim
    | cons e es =>
      obtain ⟨⟨k, v, rfl, hk, hv⟩, h3⟩ := h2
      have hh : keyEq t x k (y v) (scanV t x q y n) = .ok r h := hh
      rcases keyEq_ok (d := d) hh ha hk hd.1 hd.2 with ⟨⟨g1, g2⟩, g3⟩ | ⟨g1, g2⟩
      · exact .inl ⟨0, e, v, by simp [Instr.findNow, g1], rfl, hv, g2, g3⟩
      · rcases ih es (i + 1) h3 g2 with ⟨j, e', v', f1, f2, f3, f4, f5⟩ | ⟨f1, f2⟩
        · exact .inl ⟨j + 1, e', v', by simp only [Instr.findNow, g1]; rw [f1]; congr 3; omega, by simpa using f2, f3, f4, f5⟩
        · exact .inr ⟨by simp only [Instr.findNow, g1]; exact f1, f2⟩
theorem findNow_none {d : TypeDesc} {a : Value} : ∀ {es : List MapEntry} {i : Nat}, (∀ e ∈ es, Instr.sameNow d a e.key = some false) → Instr.findNow d a es i = some none
  | [], i, _ => rfl
  | e :: es, i, h => by simp only [Instr.findNow, h e (by simp)]; exact findNow_none fun e' he => h e' (by simp [he])
theorem findNow_false {d : TypeDesc} {a : Value} : ∀ {es : List MapEntry} {i : Nat}, Instr.findNow d a es i = some none → ∀ e ∈ es, Instr.sameNow d a e.key = some false
  | [], i, _, e, he => by cases he
  | e0 :: es, i, h, e, he => by
    simp only [Instr.findNow] at h
    split at h
    · cases h
    · rename_i h1
      rcases List.mem_cons.1 he with rfl | he
      · exact h1
      · exact findNow_false h e he
    · cases h
theorem findNow_some {d : TypeDesc} {a : Value} {e : MapEntry} : ∀ {es : List MapEntry} {i : Nat}, (∀ x ∈ es, ∃ b, Instr.sameNow d a x.key = some b ∧ (b = true → x = e)) → e ∈ es → Instr.sameNow d a e.key = some true → ∃ j, Instr.findNow d a es i = some (some (j, e.val))
  | [], i, _, he, _ => by cases he
  | e0 :: es, i, h, he, ht => by
    obtain ⟨b, h1, h2⟩ := h e0 (by simp)
    cases b with
    | true =>
      have := h2 rfl
      subst this
      exact ⟨i, by simp only [Instr.findNow, h1]⟩
    | false =>
      rcases List.mem_cons.1 he with rfl | he
      · rw [ht] at h1; cases h1
      · obtain ⟨j, hj⟩ := findNow_some (i := i + 1) (fun x hx => h x (by simp [hx])) he ht
        exact ⟨j, by simp only [Instr.findNow, h1]; exact hj⟩
theorem nodup_inj {es : List MapEntry} (h : (es.map (·.key)).Nodup) : ∀ x ∈ es, ∀ y ∈ es, x.key = y.key → x = y := by
  induction es with
  | nil => intro x hx; cases hx
  | cons e es ih =>
    rw [List.map_cons, List.nodup_cons] at h
    intro x hx y hy hk
    rcases List.mem_cons.1 hx with h1 | h1
    · rcases List.mem_cons.1 hy with h2 | h2
      · rw [h1, h2]
      · exact absurd (List.mem_map.2 ⟨y, h2, by rw [← hk, h1]⟩ : e.key ∈ es.map (·.key)) h.1
    · rcases List.mem_cons.1 hy with h2 | h2
      · exact absurd (List.mem_map.2 ⟨x, h1, by rw [hk, h2]⟩ : e.key ∈ es.map (·.key)) h.1
      · exact ih h.2 x h1 y h2 hk
theorem keys_same {d : TypeDesc} {es : List MapEntry} (hg : KeysGood es) {e : MapEntry} (he : e ∈ es) (hd : KeyIn d e.key) : ∀ x ∈ es, ∃ b, Instr.sameNow d e.key x.key = some b ∧ (b = true ↔ x.key = e.key) := by
  intro x hx
  rcases hg.1 with hs | ⟨k, hs⟩
  · obtain ⟨s, h1⟩ := hs e he
    obtain ⟨s', h2⟩ := hs x hx
    have := hd.2 s h1
    subst this
    rw [h1, h2]
    refine ⟨s == s', rfl, ?_⟩
    rw [byBeq]
    exact ⟨fun h => by rw [enc_inj (beq_t h)], fun h => by cases h; rw [beq_eq]; simp⟩
  · obtain ⟨s, h1⟩ := hs e he
    obtain ⟨s', h2⟩ := hs x hx
    obtain ⟨k', hk'⟩ := hd.1 k s h1
    subst hk'
    rw [h1, h2]
    exact ⟨s == s', by simp [Instr.sameNow], fun h => by rw [eq_of_beq h], fun h => by cases h; simp⟩
theorem roScan_ok {ι : Em} {t x : Nat} {l r : V} {y : V → OpR} {n : OpR} {h : HS} {a : Value} {d : TypeDesc} {es : Array MapEntry} (ha : vr ι (.a t x) a) (hd : KeyIn d a) (hm : RoMap ι l es) (hh : scanV t x l y n = .ok r h) :
    (∃ (j : Nat) (e : MapEntry) (v : V), Instr.findNow d a es.toList 0 = some (some (j, e.val)) ∧ vr ι v e.val ∧ y v = .ok r h) ∨ (Instr.findNow d a es.toList 0 = some none ∧ n = .ok r h) := by
  obtain ⟨_, lst, h1, h2, h3⟩ := hm
  rcases scanV_ok ha hd lst 0 h2 hh with ⟨j, e, v, f1, f2, f3, f4, f5⟩ | ⟨f1, f2⟩
  · have he : e ∈ lst := List.mem_of_getElem? f2
    subst f4
    have hk := keys_same h3 he hd
    obtain ⟨b, hb, hb2⟩ := hk e he
    have : b = true := hb2.2 rfl
    subst this
    obtain ⟨j', hj⟩ := findNow_some (d := d) (a := e.key) (es := es.toList) (i := 0) (e := e) (fun x hx => by
      obtain ⟨b, q1, q2⟩ := hk x (h1.mem_iff.2 hx)
      exact ⟨b, q1, fun hb => nodup_inj h3.2 x (h1.mem_iff.2 hx) e he (q2.1 hb)⟩) (h1.mem_iff.1 he) hb
    exact .inl ⟨j', e, v, hj, f3, f5⟩
  · exact .inr ⟨findNow_none fun e he => findNow_false f1 e (h1.mem_iff.2 he), f2⟩
def zeroVal (P : Program) (t : TypeId) : Option V := match P.info? t with
  | some i => (match i.zero with | some (.agg cs) => (constL cs.toList).map fun l => .agg (V.ofList l) | some z => (match constV z with | .a 0 _ => none | v => some v) | none => none)
  | none => none
theorem zeroVal_ok {P : Program} {t : TypeId} {v : V} (h : zeroVal P t = some v) : ∃ z : Value, (∀ w, (zeroValue t).run P w = .ok z w) ∧ ∀ ι, vr ι v z := by
  unfold zeroVal at h
  split at h
  · rename_i i hi
    split at h
    · rename_i cs hz
      cases hc : constL cs.toList with
      | none => rw [hc] at h; cases h
      | some l => rw [hc] at h; cases h; exact ⟨.agg cs, fun w => by simp [zeroValue, run_typeInfo' hi, hz], fun ι => ⟨cs, rfl, lr_ofList.2 (constL_ok hc).1⟩⟩
    · rename_i z hne hz
      split at h
      · cases h
      · rename_i hn
        cases h
        refine ⟨z, fun w => by simp [zeroValue, run_typeInfo' hi, hz], fun ι => (constV_ok ?_).1⟩
        cases hc : constV z with
        | a t x => cases t with
          | zero => exact absurd hc (hn x)
          | succ t => simp [isV]
        | b t x l r => trivial
    · cases h
  · cases h
noncomputable def lookV (zero : V) (ok : Bool) (m k : V) (h : HS) : OpR := onA k .no fun t x => onA m .no fun tm id =>
  ifB (Nat.beq tm 7) (fin zero ok 0 h) (ifB (Nat.beq tm 6) (onMap (h.get id) .no fun _ _ _ l => scanV t x l (fun v => forceV v .no fun v => fin v ok 1 h) (fin zero ok 0 h)) .no)
  where fin (v : V) (ok : Bool) (b : Nat) (h : HS) : OpR := Bool.rec (motive := fun _ => OpR) (.ok v h) (.ok (.tup (.cons v (.cons (.bool b) .nilL))) h) ok
theorem checkKey_n {P : Program} {t : TypeId} {w : World} (ht : isKey P t = true) (em : Bool) (v : Value) (n : Nat) : (Instr.checkKey em (n + 1) t v).run P w = .ok () w := by
  unfold isKey at ht
  cases hu : P.underlying t with
  | none => rw [hu] at ht; cases ht
  | some d => rw [hu] at ht; cases d <;> simp [Instr.checkKey, run_underlying' hu] at ht ⊢
theorem checkKey_plain {P : Program} {t : TypeId} {w : World} (ht : isKey P t = true) (em : Bool) (v : Value) : (Instr.checkKey em 10000 t v).run P w = .ok () w := checkKey_n ht em v 9999
theorem run_findKey {P : Program} {t : TypeId} {w : World} {d : TypeDesc} (ht : P.underlying t = some d) {a : Value} {es : List MapEntry} {o : Option (Nat × Value)} (hf : Instr.findNow d a es 0 = some o) : (Instr.findKey t a es).run P w = .ok o w := by
  simp [Instr.findKey, run_underlying' ht, hf]
theorem fin_ok {ι : Em} {v r : V} {ok : Bool} {b : Nat} {h h' : HS} {u : Value} (hh : lookV.fin v ok b h = .ok r h') (hv : vr ι v u) : h' = h ∧ vr ι r (if ok then .tuple #[u, .bool (b != 0)] else u) := by
  cases ok with
  | false => cases hh; exact ⟨rfl, hv⟩
  | true => cases hh; exact ⟨rfl, #[u, .bool (b != 0)], rfl, lr_cons hv (lr_cons rfl lr_nil)⟩
theorem lookV_ok {P : Program} {zero m k r : V} {ok : Bool} {h h' : HS} {ι : Em} {w : World} {a b : Value} {t kt et : TypeId} {d : TypeDesc} (ht : P.underlying t = some (.map kt et)) (hk : isKey P kt = true) (hd : P.underlying kt = some d) (hz : zeroVal P et = some zero)
    (hh : lookV zero ok m k h = .ok r h') (H : HRel ι h w) (ha : vr ι m a) (hb : vr ι k b) (hkey : KeyIn d b) : QS P (Instr.lookup t a b ok) ι h w r h' := by
  obtain ⟨t', x, rfl, hk1⟩ := onA_ok hh
  obtain ⟨tm, id, rfl, hk2⟩ := onA_ok hk1
  obtain ⟨z, hz1, hz2⟩ := zeroVal_ok hz
  rcases ifB_two hk2 with ⟨g1, hk3⟩ | ⟨g1, hk3⟩
  · have := beq_t g1; subst this
    have ha' : a = .map none := ha
    subst ha'
    obtain ⟨rfl, f2⟩ := fin_ok hk3 (hz2 ι)
    refine QS.same ?_ f2
    have hf : (Instr.findKey kt b []).run P w = .ok none w := run_findKey hd (by simp [Instr.findNow])
    cases ok <;> simp [Instr.lookup, run_underlying' ht, checkKey_plain hk, hf, hz1]
  · obtain ⟨g2, hk4⟩ := ifB_ok hk3
    have := beq_t g2; subst this
    obtain ⟨n, el, cur, mn, tr, ho, hk5⟩ := onMap_ok hk4
    obtain ⟨mm, hm, rfl⟩ := (show ∃ m, ι id 0 = some m ∧ a = .map (some m.b) from ha)
    obtain ⟨e1, e2, e3, e4, e5, e6⟩ := Ob.eq_of ho
    obtain ⟨es, cl, k1, k2, k3, k4⟩ := H.maps id mm e1 hm
    rw [e6] at k2 k3
    have hg : (getObj mm.b).run P w = .ok (.map es cl) w := by simp [getObj, Sem.run, k1]
    have hscan : (∃ (j : Nat) (e : MapEntry) (v : V), Instr.findNow d b es.toList 0 = some (some (j, e.val)) ∧ vr ι v e.val ∧ (forceV v .no fun v => lookV.fin v ok 1 h) = .ok r h') ∨ (Instr.findNow d b es.toList 0 = some none ∧ lookV.fin zero ok 0 h = .ok r h') := by
      by_cases hc : (h.get id).cur = 0
      · rcases scanV_ok hb hkey es.toList 0 (k2 hc).2.1 hk5 with ⟨j, e, v, f1, f2, f3, f4, f5⟩ | ⟨f1, f2⟩
        · exact .inl ⟨_, e, v, f1, f3, f5⟩
        · exact .inr ⟨f1, f2⟩
      · exact roScan_ok hb hkey (k3 hc) hk5
    rcases hscan with ⟨j, e, v, f1, f3, f5⟩ | ⟨f1, f2⟩
    · obtain ⟨hv, hk6⟩ := forceV_ok f5
      obtain ⟨rfl, q2⟩ := fin_ok hk6 f3
      refine QS.same ?_ q2
      have hf := run_findKey (P := P) (w := w) hd f1
      cases ok <;> simp [Instr.lookup, run_underlying' ht, checkKey_plain hk, hf, hg]
    · obtain ⟨rfl, q2⟩ := fin_ok f2 (hz2 ι)
      refine QS.same ?_ q2
      have hf := run_findKey (P := P) (w := w) hd f1
      cases ok <;> simp [Instr.lookup, run_underlying' ht, checkKey_plain hk, hf, hz1, hg]
end Go.Ev

/- Effects: entries of maps, copy, clear. -/
set_option autoImplicit false
namespace Go.Ev
open Go.RowKit

/-- an effect without an answer -/
def EffS (P : Program) (s : Sem Unit) (ι : Em) (h : HS) (w : World) (h' : HS) : Prop :=
  ∃ w' ι', s.run P w = .ok () w' ∧ HRel ι' h' w' ∧ Ext ι h w ι' h' w'
noncomputable def updV (t x : Nat) (e' l : V) : (V → OpR) → OpR → OpR := V.rec (motive := fun _ => (V → OpR) → OpR → OpR) (fun _ _ _ n => n)
  (fun _ _ e q _ ih f n => onB e .no fun _ _ k v => keyEq t x k (f (.cons e' q)) (ih (fun l => f (.cons e l)) n)) l
theorem updV_ok {ι : Em} {t x : Nat} {l r e' : V} {n : OpR} {h : HS} {a b : Value} {d : TypeDesc} (ha : vr ι (.a t x) a) (hd : KeyIn d a) {vb : V} (he : e' = .cons (.a t x) vb) (hb : vr ι vb b) : ∀ (f : V → OpR) (es : List MapEntry) (i : Nat), All2 (entR ι) l.list es → isL l → updV t x e' l f n = .ok r h →
    (∃ j e l', Instr.findNow d a es i = some (some (i + j, e.val)) ∧ es[j]? = some e ∧ a = e.key ∧ f l' = .ok r h ∧ isL l' ∧ All2 (entR ι) l'.list (es.modify j fun e => { e with key := a, val := b })) ∨ (Instr.findNow d a es i = some none ∧ n = .ok r h) := by
  induction l with
  | a t' x' => intro f es i h2 _ hh; cases es with
    | nil => exact .inr ⟨rfl, hh⟩
    | cons e es => exact h2.elim
  | b t' x' e0 q _ ih =>
    intro f es i h2 hi hh
    cases es with
    | nil => exact h2.elim
    | cons e es =>
      obtain ⟨⟨k, v, rfl, hk, hv⟩, h3⟩ := h2
      have hh : keyEq t x k (f (.cons e' q)) (updV t x e' q (fun l => f (.cons (.cons k v) l)) n) = .ok r h := hh
      rcases keyEq_ok (d := d) hh ha hk hd.1 hd.2 with ⟨⟨g1, g2⟩, g3⟩ | ⟨g1, g2⟩
      · refine .inl ⟨0, e, _, by simp [Instr.findNow, g1], rfl, g2, g3, ⟨rfl, hi.2⟩, ?_⟩
        show All2 (entR ι) (e' :: q.list) _
        simp only [List.modify_zero_cons]
        exact ⟨⟨_, _, he, ha, hb⟩, h3⟩
      · rcases ih _ es (i + 1) h3 hi.2 g2 with ⟨j, e1, l', f1, f2, f4, f5, f6, f7⟩ | ⟨f1, f2⟩
        · refine .inl ⟨j + 1, e1, _, by simp only [Instr.findNow, g1]; rw [f1]; congr 3; omega, by simpa using f2, f4, f5, ⟨rfl, f6⟩, ?_⟩
          show All2 (entR ι) ((V.cons k v) :: l'.list) _
          simp only [List.modify_succ_cons]
          exact ⟨⟨k, v, rfl, hk, hv⟩, f7⟩
        · exact .inr ⟨by simp only [Instr.findNow, g1]; exact f1, f2⟩
noncomputable def snocK (e l : V) : (V → OpR) → OpR := V.rec (motive := fun _ => (V → OpR) → OpR) (fun _ _ k => k (.cons e .nilL)) (fun _ _ a _ _ ih k => ih fun r => k (.cons a r)) l
theorem snocK_eq (e l : V) : ∀ k, snocK e l k = k (appL l (.cons e .nilL)) := by
  induction l with
  | a t x => intro k; rfl
  | b t x a q _ ih => intro k; show snocK e q _ = _; rw [ih]; rfl
noncomputable def mapUpd (m k v : V) (h : HS) : OpR := onA k .no fun t x => forceV v .no fun v => onTagA 6 m .no fun id => onMap (h.get id) .no fun n el cur l => ifB (Nat.beq cur 0)
  (updV t x (.cons (.a t x) v) l (fun l' => h.putK id (.mk 2 n el 0 0 (.nd .lf l' .lf)) fun h' => .ok .undef h')
    (forceN (Nat.succ n) fun n' => forceN (Nat.succ el) fun el' => snocK (.cons (.a t x) v) l fun l' => h.putK id (.mk 2 n' el' 0 0 (.nd .lf l' .lf)) fun h' => .ok .undef h')) .no
theorem sameBits_n {k : Nat} {d : TypeDesc} {a : Value} (hd : (∃ k n, a = .int k n) ∨ ∃ s, a = .string s) : Instr.sameBits 10000 a a = true := by
  rcases hd with ⟨k, n, rfl⟩ | ⟨s, rfl⟩
  · unfold Instr.sameBits; simp
  · unfold Instr.sameBits; simp [byBeq, beq_eq]
theorem leaf_key {ι : Em} {t x : Nat} {a : Value} {d : TypeDesc} (ha : vr ι (.a t x) a) (hd : d = .string ∨ ∃ k, d = .int k) (hin : (d = .string → ∃ s, a = .string s) ∧ (∀ k, d = .int k → ∃ k' n, a = .int k' n)) : (∃ k n, a = .int k n) ∨ ∃ s, a = .string s := by
  rcases hd with hd | ⟨k, hd⟩
  · exact .inr (hin.1 hd)
  · exact .inl (hin.2 k hd)
theorem mapUpd_ok {P : Program} {m k v r : V} {h h' : HS} {ι : Em} {w : World} {a b c : Value} {t kt et : TypeId} {d : TypeDesc} (ht : P.underlying t = some (.map kt et)) (hk : isKey P kt = true) (hd : P.underlying kt = some d)
    (hh : mapUpd m k v h = .ok r h') (H : HRel ι h w) (ha : vr ι m a) (hb : vr ι k b) (hv : isV v → vr ι v c) (hkey : KeyIn d b) (hlk : (∃ k n, b = .int k n) ∨ ∃ s, b = .string s) : EffS P (Instr.mapUpdate t a b c) ι h w h' ∧ r = .undef := by
  obtain ⟨t', x, rfl, hk1⟩ := onA_ok hh
  obtain ⟨hvv, hk2⟩ := forceV_ok hk1
  obtain ⟨id, rfl, hk3⟩ := onTagA_ok hk2
  obtain ⟨n, el, cur, mn, tr, ho, hk4⟩ := onMap_ok hk3
  obtain ⟨g1, hk5⟩ := ifB_ok hk4
  have := beq_t g1; subst this
  obtain ⟨mm, hm, rfl⟩ := (show ∃ m, ι id 0 = some m ∧ a = .map (some m.b) from ha)
  obtain ⟨e1, e2, e3, e4, e5, e6⟩ := Ob.eq_of ho
  obtain ⟨es, k1, k2, k3, k4⟩ := (H.maps id mm e1 hm).exact e4
  rw [e6] at k2 k3
  rw [e2] at k4
  rw [e3] at k1
  have hg : (getObj mm.b).run P w = .ok (.map es el) w := by simp [getObj, Sem.run, k1]
  have hset : ∀ o, (setObj mm.b o).run P w = .ok () { w with heap := w.heap.setIfInBounds mm.b o } := fun o => by simp [setObj, Sem.run, k1]
  rcases updV_ok hb hkey rfl (hv hvv) _ es.toList 0 k2 k3 hk5 with ⟨j, e, l', f1, f2, f3, f4, f5, f6⟩ | ⟨f1, f2⟩
  · rw [HS.putK_eq] at f4
    cases f4
    have hf := run_findKey (P := P) (w := w) hd f1
    obtain ⟨q1, q2⟩ := H.setMap (id := id) (n := n) (el := el) (l := l') (es := es.modify j fun e => { e with key := b, val := c }) e1 e4 hm (by simpa using f6) f5 (by simpa using k4)
    refine ⟨⟨_, ι, ?_, q1, q2⟩, rfl⟩
    have hj : es[j]? = some e := by simpa using f2
    have hst : (Instr.keyThatStays b b).run P w = .ok b w := by simp [Instr.keyThatStays, sameBits_n (k := 0) (d := d) hlk]
    simp [Instr.mapUpdate, run_underlying' ht, hg, checkKey_plain hk, hf, hj, ← f3, hst, hset]
  · rw [forceN_eq, forceN_eq, snocK_eq, HS.putK_eq] at f2
    cases f2
    have hf := run_findKey (P := P) (w := w) hd f1
    obtain ⟨q1, q2⟩ := H.setMap (id := id) (n := n + 1) (el := el + 1) (l := appL (Tr.val .no tr) (.cons (.cons (.a t' x) v) .nilL)) (es := es.push { key := b, val := c, born := el }) e1 e4 hm
      (by simp only [Array.toList_push, list_appL]; exact k2.append ⟨⟨_, _, rfl, hb, hv hvv⟩, trivial⟩) (isL_appL ⟨rfl, rfl⟩) (by simp [k4])
    refine ⟨⟨_, ι, ?_, q1, q2⟩, rfl⟩
    simp [Instr.mapUpdate, run_underlying' ht, hg, checkKey_plain hk, hf, hset]
end Go.Ev

/- References; what an operation's compiled form promises. -/
set_option autoImplicit false
namespace Go.Ev
open Go.RowKit

inductive RefB where
  | mk (f : V → Tr V → V)
noncomputable def RefB.get (r : RefB) (env : V) (T : Tr V) : V := RefB.rec (motive := fun _ => V) (fun f => f env T) r
abbrev CE := Nat → V → HS → OpR
/-- p: a value, of no heap; r: a value, read; m: an object made at a place; e: an effect; d: a deferred call -/
inductive OpC where
  | bad
  | p (f : V → Tr V → HS → OpR)
  | r (f : V → Tr V → HS → OpR)
  | m (f : Nat → V → Tr V → OpR)
  | e (f : CE → V → Tr V → HS → OpR)
  | d (f : V → Tr V → HS → OpR)
section
variable (P : Program) (R : Operand → RefB) (o : Oper)
/-- what the references say of an activation -/
def Rd (ι : Em) (env : V) (T : Tr V) (a : Act) : Prop := ∀ x ∈ o.op.operands, vr ι ((R x).get env T) (a.eval x)
def OkP (f : V → Tr V → HS → OpR) : Prop := ∀ (env : V) (T : Tr V) (h : HS) (r : V) (h' : HS) (ι : Em) (w : World) (a : Act), f env T h = .ok r h' → Rd R o ι env T a → h' = h ∧ ∃ u, (execOp a.eval o).run P w = .ok (.value u) w ∧ vr ι r u
def OkR (f : V → Tr V → HS → OpR) : Prop := ∀ (env : V) (T : Tr V) (h : HS) (r : V) (h' : HS) (ι : Em) (w : World) (a : Act), f env T h = .ok r h' → HRel ι h w → Rd R o ι env T a → h' = h ∧ ∃ u, (execOp a.eval o).run P w = .ok (.value u) w ∧ vr ι r u
def MadeN (s : Sem Next) (ι : Em) (w : World) (id : Nat) (v : V) (ob : Ob) : Prop :=
  ∃ u x m, s.run P w = .ok (.value u) (pushed w x) ∧ m.b = w.heap.size ∧ ob.cur = 0 ∧ (ob.tag = 1 → CellsOK (ι.add id 0 m) (pushed w x) ob 0 m) ∧ (ob.tag = 2 → MapOK (ι.add id 0 m) (pushed w x) ob m) ∧ vr (ι.add id 0 m) v u
def OkM (f : Nat → V → Tr V → OpR) : Prop := ∀ (id : Nat) (env : V) (T : Tr V) (v : V) (h1 : HS) (ι : Em) (w : World) (a : Act), f id env T = .ok v h1 → Rd R o ι env T a → (∀ ver, ι id ver = none) → MadeN P (execOp a.eval o) ι w id v (h1.get 0)
def GRel (gz : Nat → Option Nat) (ι : Em) : Prop := ∀ g n, gz g = some n → vr ι (.ptr g 0 0 (.a 0 n)) (.pointer (some ⟨g, 0, none⟩))
theorem GRel.mono {gz : Nat → Option Nat} {ι ι' : Em} (hs : Sub ι ι') (h : GRel gz ι) : GRel gz ι' := fun g n e => vr_mono hs (h g n e)
/-- a call that comes to an ending: of a function with a body, or of the machine's own -/
def CallOk (P : Program) (f : Nat) (avs : Array Value) (w : World) (R : Ending → World → Prop) : Prop :=
  ((∃ fn, P.funcs[f]? = some fn ∧ fn.body.isSome = true ∧ fn.name ≠ "runtime.NumGoroutine") ∧ Calls P f avs w R) ∨ ∃ u, (callFunc f avs).run P w = .ok (.value u) w ∧ R (.returned u) w
theorem CallOk.mono {P : Program} {f : Nat} {avs : Array Value} {w : World} {R S : Ending → World → Prop} (h : CallOk P f avs w R) (hs : ∀ e w', R e w' → S e w') : CallOk P f avs w S := by
  rcases h with ⟨h1, h2⟩ | ⟨u, h1, h2⟩
  · exact .inl ⟨h1, Calls.mono h2 hs⟩
  · exact .inr ⟨u, h1, hs _ _ h2⟩
def CeOk (gz : Nat → Option Nat) (ce : CE) : Prop := ∀ (f : Nat) (args : V) (h : HS) (r : V) (h' : HS) (ι : Em) (w : World) (avs : Array Value), ce f args h = .ok r h' → HRel ι h w → GRel gz ι → lr ι args avs.toList →
  CallOk P f avs w fun | .returned u, w' => ∃ ι', HRel ι' h' w' ∧ Ext ι h w ι' h' w' ∧ vr ι' r u | _, _ => False
def OkE (gz : Nat → Option Nat) (ce : CE) (f : CE → V → Tr V → HS → OpR) : Prop := ∀ (env : V) (T : Tr V) (h : HS) (r : V) (h' : HS) (ι : Em) (w : World) (a : Act), f ce env T h = .ok r h' → HRel ι h w → GRel gz ι → Rd R o ι env T a →
  ∀ (next : Act → World → Prop) (Q : Exit → Act → World → Prop), (∀ u w' ι', HRel ι' h' w' → Ext ι h w ι' h' w' → vr ι' r u → next (a.put o.dst u) w') → o.wp P a w next Q
/-- a deferred call: b 13 f args nilL -/
def dR (ι : Em) (v : V) (d : Deferred) : Prop := ∃ f l caps, v = .b 13 f l .nilL ∧ d.target = .fn (.func f) caps ∧ lr ι l (d.args ++ caps).toList
def OkD (f : V → Tr V → HS → OpR) : Prop := ∀ (env : V) (T : Tr V) (h : HS) (r : V) (h' : HS) (ι : Em) (w : World) (a : Act), f env T h = .ok r h' → Rd R o ι env T a → h' = h ∧ ∃ d, (execOp a.eval o).run P w = .ok (.defer d) w ∧ dR ι r d
def Spec : OpC → Prop
  | .bad => True
  | .p f => OkP P R o f
  | .r f => OkR P R o f
  | .m f => OkM P R o f
  | .e f => ∀ gz ce, CeOk P gz ce → OkE P R o gz ce f
  | .d f => OkD P R o f
end
theorem vr_undef {ι : Em} : vr ι .undef undef := ⟨#[], rfl, lr_nil⟩
section lift
variable {P : Program} {s : Sem Value} {ι : Em} {h h' : HS} {w : World} {r : V}
theorem QS.val (q : QS P s ι h w r h') : h' = h ∧ ∃ u, (do pure (Next.value (← s)) : Sem Next).run P w = .ok (.value u) w ∧ vr ι r u := by
  obtain ⟨⟨u, a, b⟩, c⟩ := q
  exact ⟨c, u, by simp [a], b⟩
theorem MadeS.val {id : Nat} {v : V} {ob : Ob} (q : MadeS P s ι w id v ob) : MadeN P (do pure (Next.value (← s)) : Sem Next) ι w id v ob := by
  obtain ⟨u, x, m, a, b⟩ := q
  exact ⟨u, x, m, by simp [a], b⟩
/-- an object, packed -/
noncomputable def packK (v : V) (ob : Ob) : OpR := .ok v (.mk (.nd .lf ob .lf) 0)
theorem pack_ok {v v' : V} {ob : Ob} {h1 : HS} (hh : packK v ob = .ok v' h1) : v' = v ∧ h1.get 0 = ob := by cases hh; exact ⟨rfl, rfl⟩
theorem MadeS.pack {id : Nat} {v' : V} {h1 : HS} {a : Sem Next} (he : a = (do pure (Next.value (← s)))) (q : ∃ v ob, packK v ob = .ok v' h1 ∧ MadeS P s ι w id v ob) : MadeN P a ι w id v' (h1.get 0) := by
  obtain ⟨v, ob, a, b⟩ := q
  obtain ⟨rfl, e⟩ := pack_ok a
  rw [e, he]; exact b.val
theorem SemS.wp {o : Oper} {a : Act} (he : execOp a.eval o = (do pure (Next.value (← s)))) (q : SemS P s ι h w r h') {next : Act → World → Prop} {Q : Exit → Act → World → Prop}
    (hn : ∀ u w' ι', HRel ι' h' w' → Ext ι h w ι' h' w' → vr ι' r u → next (a.put o.dst u) w') : o.wp P a w next Q := by
  obtain ⟨u, w', ι', a, b, c, d⟩ := q
  unfold Oper.wp
  rw [he]
  simp only [Sem.run_bind, a, Result.andThen_ok, Sem.run_pure, Oper.upon]
  exact hn u w' ι' b c d
theorem EffS.wp {o : Oper} {a : Act} {s : Sem Unit} (he : execOp a.eval o = (do s; pure Next.skip)) (q : EffS P s ι h w h') {next : Act → World → Prop} {Q : Exit → Act → World → Prop}
    (hn : ∀ u w' ι', HRel ι' h' w' → Ext ι h w ι' h' w' → vr ι' .undef u → next (a.put o.dst u) w') : o.wp P a w next Q := by
  obtain ⟨w', ι', a, b, c⟩ := q
  unfold Oper.wp
  rw [he]
  simp only [Sem.run_bind, a, Result.andThen_ok, Sem.run_pure, Oper.upon]
  exact hn _ w' ι' b c vr_undef
end lift

/-! lists of references -/
inductive RefL where
  | nil
  | cons (r : RefB) (l : RefL)
def refL (R : Operand → RefB) : List Operand → RefL
  | [] => .nil
  | x :: l => .cons (R x) (refL R l)
/-- the values, each forced -/
noncomputable def getL (l : RefL) (env : V) (T : Tr V) : (V → OpR) → OpR :=
  RefL.rec (motive := fun _ => (V → OpR) → OpR) (fun k => k .nilL) (fun r _ ih k => forceV (r.get env T) .no fun v => ih fun l => k (.cons v l)) l
theorem getL_ok {R : Operand → RefB} {env : V} {T : Tr V} {r : V} {h' : HS} : ∀ (xs : List Operand) (k : V → OpR), getL (refL R xs) env T k = .ok r h' →
    ∃ l, k l = .ok r h' ∧ isL l ∧ l.list = xs.map (fun x => (R x).get env T) ∧ ∀ v ∈ l.list, isV v := by
  intro xs
  induction xs with
  | nil => intro k hh; exact ⟨.nilL, hh, rfl, rfl, fun v hv => by cases hv⟩
  | cons x xs ih =>
    intro k hh
    obtain ⟨hv, hk⟩ := forceV_ok (show forceV ((R x).get env T) .no (fun v => getL (refL R xs) env T fun l => k (.cons v l)) = .ok r h' from hh)
    obtain ⟨l, h1, h2, h3, h4⟩ := ih _ hk
    exact ⟨_, h1, ⟨rfl, h2⟩, by show _ :: l.list = _; rw [h3]; rfl, fun v hm => by
      rcases List.mem_cons.1 hm with rfl | hm
      · exact hv
      · exact h4 v hm⟩
theorem getL_rel {R : Operand → RefB} {env : V} {T : Tr V} {ι : Em} {a : Act} {xs : List Operand} {l : V} (h1 : isL l) (h2 : l.list = xs.map (fun x => (R x).get env T)) (h3 : ∀ v ∈ l.list, isV v)
    (hr : ∀ x ∈ xs, vr ι ((R x).get env T) (a.eval x)) : lr ι l (xs.map a.eval) := by
  rw [lr_iff]
  refine ⟨h1, All2.of_get (by rw [h2]; simp) fun i v u hv hu => ?_⟩
  have hvv := h3 v (List.mem_of_getElem? hv)
  rw [h2] at hv
  simp only [List.getElem?_map] at hv hu
  cases hx : xs[i]? with
  | none => rw [hx] at hv; cases hv
  | some x =>
    rw [hx] at hv hu
    cases hv; cases hu
    exact hr x (List.mem_of_getElem? hx)
end Go.Ev

/- Symbols: strings that are none of a list, numbers in a range, numbers by their rest. -/
set_option autoImplicit false
namespace Go.Ev
open Go.RowKit
noncomputable def orR (a b : OpR) : OpR := OpR.rec (motive := fun _ => OpR) (fun _ => b) (fun v h => .ok v h) a
theorem orR_ok {a b : OpR} {r : V} {h : HS} (hh : orR a b = .ok r h) : a = .ok r h ∨ b = .ok r h := by
  cases a with
  | bad c => exact .inr hh
  | ok v g => exact .inl hh
noncomputable def memN (y : Nat) (l : List Nat) : Bool := List.rec (motive := fun _ => Bool) false (fun a _ ih => ifB (Nat.beq y a) true ih) l
theorem memN_t {y : Nat} {l : List Nat} (h : memN y l = true) : y ∈ l := by
  induction l with
  | nil => cases h
  | cons a l ih =>
    have h : ifB (Nat.beq y a) true (memN y l) = true := h
    cases hb : Nat.beq y a with
    | true => rw [beq_t hb]; simp
    | false => rw [hb] at h; exact List.mem_cons_of_mem _ (ih h)
noncomputable def symPair (v w : V) (k : OpR) : OpR :=
  onA v .no fun t x => onA w .no fun u y => ifB (Nat.beq t 13) (ifB (Nat.beq u 2) (ifB (memN y (nms x)) k .no) .no) (ifB (Nat.beq t 2) (ifB (Nat.beq u 13) (ifB (memN x (nms y)) k .no) .no) .no)
theorem symR {ι : Em} {x : Nat} {u : Value} (h : vr ι (.a 13 x) u) : ∃ s, u = .string s ∧ s.size ≤ 100 ∧ ∀ y ∈ nms x, enc s ≠ y := h
theorem symPair_ok {v w r : V} {k : OpR} {h' : HS} {ι : Em} {a b : Value} (hh : symPair v w k = .ok r h') (ha : vr ι v a) (hb : vr ι w b) : k = .ok r h' ∧ ∃ s t, a = .string s ∧ b = .string t ∧ enc s ≠ enc t := by
  obtain ⟨t, x, rfl, hk⟩ := onA_ok hh
  obtain ⟨u, y, rfl, hk⟩ := onA_ok hk
  rcases ifB_two hk with ⟨h1, hk⟩ | ⟨h1, hk⟩
  · obtain ⟨h2, hk2⟩ := ifB_ok hk
    obtain ⟨h3, hk3⟩ := ifB_ok hk2
    clear hk hk2
    have := beq_t h1; subst this
    have := beq_t h2; subst this
    obtain ⟨s, rfl, _, h5⟩ := symR ha
    obtain ⟨s', rfl, rfl⟩ := strR hb
    exact ⟨hk3, s, s', rfl, rfl, h5 _ (memN_t h3)⟩
  · obtain ⟨h2, hk2⟩ := ifB_ok hk
    obtain ⟨h3, hk3⟩ := ifB_ok hk2
    obtain ⟨h4, hk4⟩ := ifB_ok hk3
    clear hk hk2 hk3
    have := beq_t h2; subst this
    have := beq_t h3; subst this
    obtain ⟨s, rfl, _, h5⟩ := symR hb
    obtain ⟨s', rfl, rfl⟩ := strR ha
    exact ⟨hk4, s', s, rfl, rfl, fun e => h5 _ (memN_t h4) e.symm⟩
noncomputable def strEqX (v w : V) (h : HS) : OpR := orR (strEq v w h) (symPair v w (.ok (.bool 0) h))
noncomputable def strNeX (v w : V) (h : HS) : OpR := orR (strNe v w h) (symPair v w (.ok (.bool 1) h))
noncomputable def lenStrX (x : V) (h : HS) : OpR := orR (lenStr x h) (orR (onTagA 13 x .no fun _ => .ok (.a 14 0) h) (onTagA 17 x .no fun _ => .ok (.a 14 3) h))
noncomputable def gtrX (v w : V) (h : HS) : OpR := orR (intCmp (fun a b => Nat.blt b a) .gtr v w h)
  (onTagA 14 v .no fun x => onTagA 38 w .no fun y => Nat.rec (motive := fun _ => OpR) (ifB (Nat.ble 100 y) (.ok (.bool 0) h) .no) (fun x' _ => Nat.rec (motive := fun _ => OpR) (.ok (.bool 0) h) (fun x' _ => Nat.rec (motive := fun _ => OpR) (ifB (Nat.blt y 5) (.ok (.bool 1) h) .no) (fun _ _ => ifB (Nat.ble y 100) (.ok (.bool 1) h) .no) x') x') x)
noncomputable def lssX (v w : V) (h : HS) : OpR := orR (intCmp Nat.blt .lss v w h)
  (onTagA 14 v .no fun x => onTagA 38 w .no fun y => Nat.rec (motive := fun _ => OpR) .no (fun x' _ => Nat.rec (motive := fun _ => OpR) (.ok (.bool 1) h) (fun x' _ => Nat.rec (motive := fun _ => OpR) (ifB (Nat.ble y 5) (.ok (.bool 0) h) .no) (fun _ _ => .no) x') x') x)
noncomputable def remX (v w : V) (h : HS) : OpR := orR (intSlow .rem v w h) (onTagA 16 v .no fun x => onTagA 38 w .no fun y => ifB (Nat.beq y (Nat.div x 256)) (ifB (Nat.blt 0 y) (forceN (Nat.mod x 256) fun z => .ok (.a 38 z) h) .no) .no)
noncomputable def convIntX (f : V → HS → OpR) (v : V) (h : HS) : OpR := orR (f v h) (onTagA 15 v .no fun x => .ok (.a 16 x) h)
section
variable {P : Program} {v v' r : V} {h h' : HS} {ι : Em} {w : World} {a b : Value} {ty t s d : TypeId} {ox oy : Operand}
theorem enc_ne {s t : ByteArray} (h : enc s ≠ enc t) : (s.toList == t.toList) = false := by
  have := enc_beq s t
  rw [← this, beq_eq]; simpa using h
theorem strEqX_ok (hh : strEqX v v' h = .ok r h') (ha : vr ι v a) (hb : vr ι v' b) : QS P (binS .eql ty ox oy a b) ι h w r h' := by
  rcases orR_ok hh with hh | hh
  · exact strEq_ok hh ha hb
  · obtain ⟨hk, s, t, rfl, rfl, hne⟩ := symPair_ok hh ha hb
    cases hk
    refine QS.same (u := .bool false) ?_ rfl
    simp [binS, eqGuard_str, binOp, Op.stringOp, enc_ne hne]
theorem strNeX_ok (hh : strNeX v v' h = .ok r h') (ha : vr ι v a) (hb : vr ι v' b) : QS P (binS .neq ty ox oy a b) ι h w r h' := by
  rcases orR_ok hh with hh | hh
  · exact strNe_ok hh ha hb
  · obtain ⟨hk, s, t, rfl, rfl, hne⟩ := symPair_ok hh ha hb
    cases hk
    refine QS.same (u := .bool true) ?_ rfl
    simp [binS, eqGuard_str, binOp, Op.stringOp, enc_ne hne]
theorem lenStrX_ok (ht : P.underlying t = some .string) (hh : lenStrX v h = .ok r h') (ha : vr ι v a) : QS P (Builtin.len_ #[t] ty #[a]) ι h w r h' := by
  rcases orR_ok hh with hh | hh
  · exact lenStr_ok ht hh ha
  · rcases orR_ok hh with hh | hh
    · obtain ⟨x, rfl, hk⟩ := onTagA_ok hh
      cases hk
      obtain ⟨s, rfl, hs, _⟩ := symR ha
      exact QS.same (u := goInt s.size) (by simp [Builtin.len_, run_underlying' ht]) ⟨_, rfl, by show (0 : Int) ≤ _ ∧ _; omega⟩
    · obtain ⟨x, rfl, hk⟩ := onTagA_ok hh
      cases hk
      obtain ⟨s, rfl, hs⟩ := (show ∃ s, a = .string s ∧ 100 < s.size from ha)
      exact QS.same (u := goInt s.size) (by simp [Builtin.len_, run_underlying' ht]) ⟨_, rfl, by show (100 : Int) < _; omega⟩
theorem cmp_run {op : BinOp} (x y : Int) (f : Int → Int → Bool) (hf : ∀ w : World, (binOp op ty (.int .i64 x) (.int .i64 y)).run P w = .ok (.bool (f x y)) w) {n : Nat} (hn : f x y = (n != 0)) : QS P (binS op ty ox oy (.int .i64 x) (.int .i64 y)) ι h w (.a 1 n) h :=
  QS.same (u := .bool (f x y)) (by simp [binS, eqGuard_int, hf]) (by rw [hn]; exact (rfl : (Value.bool (n != 0)) = _))
theorem symN {ι : Em} {x : Nat} {u : Value} (h : vr ι (.a 14 x) u) : ∃ i, u = .int .i64 i ∧ ipr x i := h
theorem gtrX_ok (hh : gtrX v v' h = .ok r h') (ha : vr ι v a) (hb : vr ι v' b) : QS P (binS .gtr ty ox oy a b) ι h w r h' := by
  rcases orR_ok hh with hh | hh
  · exact intCmp_ok cmp_gtr hh ha hb
  · obtain ⟨x, rfl, hk⟩ := onTagA_ok hh
    obtain ⟨y, rfl, hk⟩ := onTagA_ok hk
    obtain ⟨i, rfl, hi⟩ := symN ha
    rw [nat38 hb]
    have hf : ∀ w : World, (binOp .gtr ty (.int .i64 i) (.int .i64 (y : Int))).run P w = .ok (.bool (decide (i > (y : Int)))) w := fun w => by simp [binOp, Op.intCmp]
    cases x with
    | zero =>
      obtain ⟨h1, hk⟩ := ifB_ok (show ifB (Nat.ble 100 y) (OpR.ok (.bool 0) h) .no = .ok r h' from hk)
      cases hk
      have := ble_t h1
      have hi : 0 ≤ i ∧ i ≤ 100 := hi
      exact cmp_run i y (fun x y => decide (x > y)) hf (by show decide (i > (y : Int)) = false; simp; omega)
    | succ x =>
      cases x with
      | zero =>
        have hk : OpR.ok (.bool 0) h = .ok r h' := hk
        cases hk
        have hi : i < 0 := hi
        exact cmp_run i y (fun x y => decide (x > y)) hf (by show decide (i > (y : Int)) = false; simp; omega)
      | succ x =>
        cases x with
        | zero =>
          obtain ⟨h1, hk⟩ := ifB_ok (show ifB (Nat.blt y 5) (OpR.ok (.bool 1) h) .no = .ok r h' from hk)
          cases hk
          have := blt_t h1
          have hi : 5 ≤ i := hi
          exact cmp_run i y (fun x y => decide (x > y)) hf (by show decide (i > (y : Int)) = true; simp; omega)
        | succ x =>
          obtain ⟨h1, hk⟩ := ifB_ok (show ifB (Nat.ble y 100) (OpR.ok (.bool 1) h) .no = .ok r h' from hk)
          cases hk
          have := ble_t h1
          have hi : 100 < i := hi
          exact cmp_run i y (fun x y => decide (x > y)) hf (by show decide (i > (y : Int)) = true; simp; omega)
theorem lssX_ok (hh : lssX v v' h = .ok r h') (ha : vr ι v a) (hb : vr ι v' b) : QS P (binS .lss ty ox oy a b) ι h w r h' := by
  rcases orR_ok hh with hh | hh
  · exact intCmp_ok cmp_lss hh ha hb
  · obtain ⟨x, rfl, hk⟩ := onTagA_ok hh
    obtain ⟨y, rfl, hk⟩ := onTagA_ok hk
    obtain ⟨i, rfl, hi⟩ := symN ha
    rw [nat38 hb]
    have hf : ∀ w : World, (binOp .lss ty (.int .i64 i) (.int .i64 (y : Int))).run P w = .ok (.bool (decide (i < (y : Int)))) w := fun w => by simp [binOp, Op.intCmp]
    cases x with
    | zero => cases hk
    | succ x =>
      cases x with
      | zero =>
        have hk : OpR.ok (.bool 1) h = .ok r h' := hk
        cases hk
        have hi : i < 0 := hi
        exact cmp_run i y (fun x y => decide (x < y)) hf (by show decide (i < (y : Int)) = true; simp; omega)
      | succ x =>
        cases x with
        | zero =>
          obtain ⟨h1, hk⟩ := ifB_ok (show ifB (Nat.ble y 5) (OpR.ok (.bool 0) h) .no = .ok r h' from hk)
          cases hk
          have := ble_t h1
          have hi : 5 ≤ i := hi
          exact cmp_run i y (fun x y => decide (x < y)) hf (by show decide (i < (y : Int)) = false; simp; omega)
        | succ x => cases hk
theorem remX_ok (hh : remX v v' h = .ok r h') (ha : vr ι v a) (hb : vr ι v' b) : QS P (binS .rem ty ox oy a b) ι h w r h' := by
  rcases orR_ok hh with hh | hh
  · exact intSlow_ok hh ha hb
  · obtain ⟨x, rfl, hk⟩ := onTagA_ok hh
    obtain ⟨y, rfl, hk⟩ := onTagA_ok hk
    obtain ⟨h1, hk⟩ := ifB_ok hk
    obtain ⟨h2, hk⟩ := ifB_ok hk
    rw [forceN_eq] at hk
    cases hk
    have h1 := beq_t h1
    have h2 := blt_t h2
    have h1 : y = x / 256 := h1
    obtain ⟨i, rfl, hi⟩ := (show ∃ i, a = .int .i64 i ∧ mpr x i from ha)
    rw [nat38 hb]
    obtain ⟨i1, i2, i3⟩ := hi
    rw [← h1] at i3
    refine QS.same (u := .int .i64 (i.tmod y)) ?_ ?_
    · have : y ≠ 0 := by omega
      simp [binS, eqGuard_int, binOp, Op.intDiv, this]
    · rw [Int.tmod_eq_emod_of_nonneg i1, i3]
      exact mk38 _
theorem convIntX_ok {ks : IntKind} {f : V → HS → OpR} (hs : P.underlying s = some (.int ks)) (hd : P.underlying d = some (.int .i64)) (hf : f v h = .ok r h' → QS P (convert s d a) ι h w r h') (hh : convIntX f v h = .ok r h') (ha : vr ι v a) : QS P (convert s d a) ι h w r h' := by
  rcases orR_ok hh with hh | hh
  · exact hf hh
  · obtain ⟨x, rfl, hk⟩ := onTagA_ok hh
    cases hk
    obtain ⟨i, rfl, hi⟩ := (show ∃ i, a = .int .u8 i ∧ mpr x i from ha)
    refine QS.same (u := .int .i64 i) ?_ ⟨i, rfl, hi⟩
    rw [run_conv_int hs hd]
    obtain ⟨i1, i2, _⟩ := hi
    obtain ⟨n, rfl⟩ := Int.eq_ofNat_of_zero_le i1
    rw [show IntKind.i64.wrap ((n : Nat) : Int) = n from wrap_i64 (by omega)]
end
end Go.Ev

/- Operations, compiled: values. -/
set_option autoImplicit false
namespace Go.Ev
open Go.RowKit

noncomputable def f1 (f : V → HS → OpR) (x : RefB) : V → Tr V → HS → OpR := fun env T h => f (x.get env T) h
noncomputable def f2 (f : V → V → HS → OpR) (x y : RefB) : V → Tr V → HS → OpR := fun env T h => f (x.get env T) (y.get env T) h
noncomputable def f3 (f : V → V → V → HS → OpR) (x y z : RefB) : V → Tr V → HS → OpR := fun env T h => f (x.get env T) (y.get env T) (z.get env T) h
section
variable {P : Program} {R : Operand → RefB} {o : Oper}
theorem ok_p1 {f : V → HS → OpR} {x : Operand} {s : Value → Sem Value} (he : ∀ ρ, execOp ρ o = (do pure (Next.value (← s (ρ x))))) (hx : x ∈ o.op.operands)
    (hq : ∀ (v : V) (h : HS) (r : V) (h' : HS) (ι : Em) (w : World) (u : Value), f v h = .ok r h' → vr ι v u → QS P (s u) ι h w r h') : OkP P R o (f1 f (R x)) := by
  intro env T h r h' ι w a hh hr
  rw [he]
  exact (hq _ h r h' ι w _ hh (hr x hx)).val
theorem ok_p2 {f : V → V → HS → OpR} {x y : Operand} {s : Value → Value → Sem Value} (he : ∀ ρ, execOp ρ o = (do pure (Next.value (← s (ρ x) (ρ y))))) (hx : x ∈ o.op.operands) (hy : y ∈ o.op.operands)
    (hq : ∀ (v v' : V) (h : HS) (r : V) (h' : HS) (ι : Em) (w : World) (u u' : Value), f v v' h = .ok r h' → vr ι v u → vr ι v' u' → QS P (s u u') ι h w r h') : OkP P R o (f2 f (R x) (R y)) := by
  intro env T h r h' ι w a hh hr
  rw [he]
  exact (hq _ _ h r h' ι w _ _ hh (hr x hx) (hr y hy)).val
theorem ok_p3 {f : V → V → V → HS → OpR} {x y z : Operand} {s : Value → Value → Value → Sem Value} (he : ∀ ρ, execOp ρ o = (do pure (Next.value (← s (ρ x) (ρ y) (ρ z))))) (hx : x ∈ o.op.operands) (hy : y ∈ o.op.operands) (hz : z ∈ o.op.operands)
    (hq : ∀ (v v' v'' : V) (h : HS) (r : V) (h' : HS) (ι : Em) (w : World) (u u' u'' : Value), f v v' v'' h = .ok r h' → vr ι v u → vr ι v' u' → vr ι v'' u'' → QS P (s u u' u'') ι h w r h') : OkP P R o (f3 f (R x) (R y) (R z)) := by
  intro env T h r h' ι w a hh hr
  rw [he]
  exact (hq _ _ _ h r h' ι w _ _ _ hh (hr x hx) (hr y hy) (hr z hz)).val
theorem ok_r1 {f : V → HS → OpR} {x : Operand} {s : Value → Sem Value} (he : ∀ ρ, execOp ρ o = (do pure (Next.value (← s (ρ x))))) (hx : x ∈ o.op.operands)
    (hq : ∀ (v : V) (h : HS) (r : V) (h' : HS) (ι : Em) (w : World) (u : Value), f v h = .ok r h' → HRel ι h w → vr ι v u → QS P (s u) ι h w r h') : OkR P R o (f1 f (R x)) := by
  intro env T h r h' ι w a hh H hr
  rw [he]
  exact (hq _ h r h' ι w _ hh H (hr x hx)).val
theorem ok_r2 {f : V → V → HS → OpR} {x y : Operand} {s : Value → Value → Sem Value} (he : ∀ ρ, execOp ρ o = (do pure (Next.value (← s (ρ x) (ρ y))))) (hx : x ∈ o.op.operands) (hy : y ∈ o.op.operands)
    (hq : ∀ (v v' : V) (h : HS) (r : V) (h' : HS) (ι : Em) (w : World) (u u' : Value), f v v' h = .ok r h' → HRel ι h w → vr ι v u → vr ι v' u' → QS P (s u u') ι h w r h') : OkR P R o (f2 f (R x) (R y)) := by
  intro env T h r h' ι w a hh H hr
  rw [he]
  exact (hq _ _ h r h' ι w _ _ hh H (hr x hx) (hr y hy)).val

/-! moves -/
theorem sp_move {x : Operand} (ho : o.op = .move x ∨ o.op = .assign x) : OkP P R o (f1 okv (R x)) :=
  ok_p1 (s := fun u => pure u) (fun ρ => by unfold execOp; rcases ho with ho | ho <;> rw [ho] <;> rfl) (by rcases ho with ho | ho <;> simp [ho, Op.operands]) fun v h r h' ι w u hh hv => by
    obtain ⟨_, rfl, rfl⟩ := okv_ok hh
    exact QS.same rfl hv
theorem sp_pick {c x y : Operand} (ho : o.op = .pick c x y) : OkP P R o (f3 pickV (R c) (R x) (R y)) :=
  ok_p3 (s := fun c a b => do pure (if ← asBool c then a else b)) (fun ρ => by unfold execOp; rw [ho]; simp) (by simp [ho, Op.operands]) (by simp [ho, Op.operands]) (by simp [ho, Op.operands])
    fun v v' v'' h r h' ι w u u' u'' hh h1 h2 h3 => pickV_ok hh h1 (fun _ => h2) (fun _ => h3)
theorem sp_nil {x : Operand} (ho : o.op = .nilCheck x) : OkP P R o (f1 nilV (R x)) := by
  intro env T h r h' ι w a hh hr
  have hv := hr x (by simp [ho, Op.operands])
  unfold f1 at hh
  generalize (R x).get env T = v at *
  cases v with
  | a t y => cases hh
  | b t y l q =>
    cases hh
    refine ⟨rfl, a.eval x, ?_, hv⟩
    have h : bR ι t y l q (VR ι l) (VR ι q) (a.eval x) := hv
    unfold bR at h
    split at h
    · obtain ⟨_, _, _, _, _, _, _, _, _, hu⟩ := h; simp [execOp, ho, hu]
    · obtain ⟨_, _, _, _, _, _, _, _, _, _, _, _, _, hu, _⟩ := h; simp [execOp, ho, hu]
    · obtain ⟨_, _, hu, _⟩ := h; simp [execOp, ho, hu]
    · obtain ⟨_, hu, _⟩ := h; simp [execOp, ho, hu]
    · obtain ⟨_, hu, _⟩ := h; simp [execOp, ho, hu]
    · obtain ⟨_, hu, _⟩ := h; simp [execOp, ho, hu]
    · exact h.elim

/-! operators -/
theorem ex_bin {op : BinOp} {t ty : TypeId} {x y : Operand} (ho : o.op = .binOp op t x y ty) (ρ : Operand → Value) : execOp ρ o = (do pure (Next.value (← binS op t x y (ρ x) (ρ y)))) := by
  unfold execOp; rw [ho]; rfl
theorem ok_bin {f : V → V → HS → OpR} {op : BinOp} {t ty : TypeId} {x y : Operand} (ho : o.op = .binOp op t x y ty)
    (hq : ∀ (v v' : V) (h : HS) (r : V) (h' : HS) (ι : Em) (w : World) (u u' : Value), f v v' h = .ok r h' → vr ι v u → vr ι v' u' → QS P (binS op t x y u u') ι h w r h') : OkP P R o (f2 f (R x) (R y)) :=
  ok_p2 (s := fun u u' => binS op t x y u u') (ex_bin ho) (by simp [ho, Op.operands]) (by simp [ho, Op.operands]) hq
end
def intF (op : BinOp) : Option (V → V → HS → OpR) → (V → V → HS → OpR)
  | some f => f
  | none => fun _ _ _ => .no
noncomputable def cInt (op : BinOp) : V → V → HS → OpR :=
  match op with
  | .add => intAdd
  | .sub => intSub
  | .eql => intCmp Nat.beq .eql
  | .neq => intCmp (fun a b => bnot (Nat.beq a b)) .neq
  | .lss => lssX
  | .leq => intCmp Nat.ble .leq
  | .gtr => gtrX
  | .geq => intCmp (fun a b => Nat.ble b a) .geq
  | .rem => remX
  | op => intSlow op
noncomputable def cStr (op : BinOp) : Option (V → V → HS → OpR) :=
  match op with
  | .add => some strAdd
  | .eql => some strEqX
  | .neq => some strNeX
  | op => some (strCmp op)
/-- == or !=: 'neg' -/
def negOf : BinOp → Option Bool | .eql => some false | .neq => some true | _ => none
noncomputable def cBin (P : Program) (R : Operand → RefB) (op : BinOp) (t : TypeId) (x y : Operand) : OpC :=
  match P.underlying t with
  | some (.int _) => .p (f2 (cInt op) (R x) (R y))
  | some .string => (match cStr op with | some f => .p (f2 f (R x) (R y)) | none => .bad)
  | some .bool => (match negOf op with | some n => .p (f2 (boolEq n) (R x) (R y)) | none => .bad)
  | some (.pointer _) => (match negOf op with | some n => .p (f2 (eqNil 4 99 3 n) (R x) (R y)) | none => .bad)
  | some (.slice _) => (match negOf op with | some n => .p (f2 (eqNil 5 99 5 n) (R x) (R y)) | none => .bad)
  | some (.map _ _) => (match negOf op with | some n => .p (f2 (eqNil 7 6 99 n) (R x) (R y)) | none => .bad)
  | some (.func _ _ _) => (match negOf op with | some n => .p (f2 (eqNil 8 99 8 n) (R x) (R y)) | none => .bad)
  | some (.interface _) => if isK x || isK y then (match negOf op with | some n => .p (f2 (eqNil 9 99 9 n) (R x) (R y)) | none => .bad) else .bad
  | some (.struct fs) => if P.stoodInHeld t = false ∧ P.eqGuardType P.depth t = false then (match negOf op, flatFs P (P.fieldsOf t).toList with | some n, some offs => .p (f2 (structEq n offs) (R x) (R y)) | _, _ => .bad) else .bad
  | _ => .bad
section
variable {P : Program} {R : Operand → RefB} {o : Oper}
theorem negOf_eq {op : BinOp} {n : Bool} (h : negOf op = some n) : op = if n then .neq else .eql := by cases op <;> simp [negOf] at h <;> subst h <;> rfl
theorem sp_bin {op : BinOp} {t ty : TypeId} {x y : Operand} (ho : o.op = .binOp op t x y ty) : Spec P R o (cBin P R op t x y) := by
  unfold cBin
  split
  · rename_i k hu
    refine ok_bin ho fun v v' h r h' ι w u u' hh ha hb => ?_
    unfold cInt at hh
    split at hh
    · exact intAdd_ok hh ha hb
    · exact intSub_ok hh ha hb
    · exact intCmp_ok cmp_eql hh ha hb
    · exact intCmp_ok cmp_neq hh ha hb
    · exact lssX_ok hh ha hb
    · exact intCmp_ok cmp_leq hh ha hb
    · exact gtrX_ok hh ha hb
    · exact intCmp_ok cmp_geq hh ha hb
    · exact remX_ok hh ha hb
    · exact intSlow_ok hh ha hb
  · rename_i hu
    split
    · rename_i f hf
      refine ok_bin ho fun v v' h r h' ι w u u' hh ha hb => ?_
      unfold cStr at hf
      split at hf <;> cases hf
      · exact strAdd_ok hh ha hb
      · exact strEqX_ok hh ha hb
      · exact strNeX_ok hh ha hb
      · exact strCmp_ok hh ha hb
    · trivial
  · rename_i hu
    split
    · rename_i n hn
      refine ok_bin ho fun v v' h r h' ι w u u' hh ha hb => ?_
      rw [negOf_eq hn]; exact boolEq_ok hu hh ha hb
    · trivial
  · rename_i e hu
    split
    · rename_i n hn
      refine ok_bin ho fun v v' h r h' ι w u u' hh ha hb => ?_
      rw [negOf_eq hn]; exact eqNil_ok (nil_ptr hu) hh ha hb
    · trivial
  · rename_i e hu
    split
    · rename_i n hn
      refine ok_bin ho fun v v' h r h' ι w u u' hh ha hb => ?_
      rw [negOf_eq hn]; exact eqNil_ok (nil_slice hu) hh ha hb
    · trivial
  · rename_i k e hu
    split
    · rename_i n hn
      refine ok_bin ho fun v v' h r h' ι w u u' hh ha hb => ?_
      rw [negOf_eq hn]; exact eqNil_ok (nil_map hu) hh ha hb
    · trivial
  · rename_i ps rs vv hu
    split
    · rename_i n hn
      refine ok_bin ho fun v v' h r h' ι w u u' hh ha hb => ?_
      rw [negOf_eq hn]; exact eqNil_ok (nil_func hu) hh ha hb
    · trivial
  · rename_i ms hu
    split
    · rename_i hk
      split
      · rename_i n hn
        refine ok_bin ho fun v v' h r h' ι w u u' hh ha hb => ?_
        rw [negOf_eq hn]; exact eqNil_ok (nil_iface hu (by simpa using hk)) hh ha hb
      · trivial
    · trivial
  · rename_i fs hu
    split
    · rename_i hk
      split
      · rename_i n offs hn hf
        refine ok_bin ho fun v v' h r h' ι w u u' hh ha hb => ?_
        have hfs : P.fieldsOf t = fs := by simp [Program.fieldsOf, hu]
        rw [negOf_eq hn]; exact structEq_ok (by rw [hfs]; exact hu) hk.1 hk.2 hf hh ha hb
      · trivial
    · trivial
  · trivial
end
end Go.Ev

/- Operations, compiled: more values; reads. -/
set_option autoImplicit false
namespace Go.Ev
open Go.RowKit

/-! unary, conversions -/
noncomputable def cUn (P : Program) (R : Operand → RefB) (op : UnOp) (x : Operand) : OpC :=
  match op with
  | .not => .p (f1 notV (R x))
  | .neg => .p (f1 (unI .sub (fun _ => 0)) (R x))
  | .xor => .p (f1 (unI .xor (fun k => if k.signed then -1 else k.max)) (R x))
  | _ => .bad
noncomputable def strV (v : V) (h : HS) : OpR := onTagA 2 v .no (fun x => OpR.ok (.a 2 x) h)
noncomputable def cConv (P : Program) (R : Operand → RefB) (s d : TypeId) (x : Operand) : OpC :=
  match P.underlying s, P.underlying d with
  | some (.int _), some (.int .i64) => .p (f1 (convIntX fun v h => orR (convInt v h) (convI .i64 v h)) (R x))
  | some (.int _), some (.int k) => .p (f1 (convI k) (R x))
  | some .string, some .string => .p (f1 strV (R x))
  | _, _ => .bad
noncomputable def cIface (P : Program) (R : Operand → RefB) (t : TypeId) (x : Operand) : OpC := if isIface P t = false then .p (f1 (ifaceV t) (R x)) else .bad
noncomputable def fnF (f : Nat) (first caps : RefL) : V → Tr V → HS → OpR := fun env T h => getL first env T fun fs => getL caps env T fun cs => .ok (.b 8 f cs fs) h
noncomputable def cFunc (R : Operand → RefB) (f : Fn) (first caps : Array Operand) : OpC := match f with | .func f => .p (fnF f (refL R first.toList) (refL R caps.toList)) | _ => .bad
section
variable {P : Program} {R : Operand → RefB} {o : Oper}
theorem sp_un {op : UnOp} {t : TypeId} {x : Operand} (ho : o.op = .unOp op t x) : Spec P R o (cUn P R op x) := by
  have he : ∀ ρ, execOp ρ o = (do pure (Next.value (← Op.unary op (ρ x)))) := fun ρ => by unfold execOp; rw [ho]
  have hx : x ∈ o.op.operands := by simp [ho, Op.operands]
  unfold cUn
  split
  · exact ok_p1 (s := Op.unary .not) he hx fun v h r h' ι w u hh hv => notV_ok hh hv
  · exact ok_p1 (s := Op.unary .neg) he hx fun v h r h' ι w u hh hv => negV_ok hh hv
  · exact ok_p1 (s := Op.unary .xor) he hx fun v h r h' ι w u hh hv => xorV_ok hh hv
  · trivial
theorem sp_conv {s d : TypeId} {x : Operand} (ho : o.op = .convert s d x) : Spec P R o (cConv P R s d x) := by
  have he : ∀ ρ, execOp ρ o = (do pure (Next.value (← convert s d (ρ x)))) := fun ρ => by unfold execOp; rw [ho]
  have hx : x ∈ o.op.operands := by simp [ho, Op.operands]
  unfold cConv
  split
  · rename_i ks h1 h2
    exact ok_p1 (s := convert s d) he hx fun v h r h' ι w u hh hv => convIntX_ok h1 h2 (fun hf => by
      rcases orR_ok hf with hf | hf
      · exact convInt_ok h1 h2 hf hv
      · exact convI_ok h1 h2 hf hv) hh hv
  · rename_i ks k _ h1 h2
    exact ok_p1 (s := convert s d) he hx fun v h r h' ι w u hh hv => convI_ok h1 h2 hh hv
  · rename_i h1 h2
    exact ok_p1 (s := convert s d) he hx fun v h r h' ι w u hh hv => convStr_ok h1 h2 hh hv
  · trivial
theorem sp_iface {t : TypeId} {x : Operand} (ho : o.op = .makeInterface t x) : Spec P R o (cIface P R t x) := by
  unfold cIface
  split
  · rename_i ht
    exact ok_p1 (s := Instr.makeInterface t) (fun ρ => by unfold execOp; rw [ho]) (by simp [ho, Op.operands]) fun v h r h' ι w u hh hv => ifaceV_ok ht hh (fun _ => hv)
  · trivial
theorem sp_func {f : Fn} {first caps : Array Operand} (ho : o.op = .makeFunc f first caps) : Spec P R o (cFunc R f first caps) := by
  unfold cFunc
  split
  · rename_i f'
    intro env T h r h' ι w a hh hr
    obtain ⟨fs, hk, g1, g2, g3⟩ := getL_ok first.toList _ hh
    obtain ⟨cs, hk2, g4, g5, g6⟩ := getL_ok caps.toList _ hk
    cases hk2
    have he : execOp a.eval o = (do pure (Next.value (← Instr.makeFunc (.func f') (first.map a.eval) (caps.map a.eval)))) := by unfold execOp; rw [ho]
    rw [he]
    refine ⟨rfl, _, by simp [Instr.makeFunc], ⟨first.map a.eval, caps.map a.eval, rfl, ?_, ?_⟩⟩
    · have := getL_rel g4 g5 g6 (a := a) (ι := ι) (fun x hx => hr x (by simp [ho, Op.operands] at hx ⊢; exact .inr hx))
      simpa using this
    · have := getL_rel g1 g2 g3 (a := a) (ι := ι) (fun x hx => hr x (by simp [ho, Op.operands] at hx ⊢; exact .inl hx))
      simpa using this
  · trivial
end

/-! slices -/
noncomputable def getO (x : Option RefB) (env : V) (T : Tr V) : Option V := Option.rec (motive := fun _ => Option V) none (fun r => some (r.get env T)) x
noncomputable def fSlice (f : V → Option V → Option V → HS → OpR) (x : RefB) (lo hi : Option RefB) : V → Tr V → HS → OpR := fun env T h => f (x.get env T) (getO lo env T) (getO hi env T) h
noncomputable def cSlice (P : Program) (R : Operand → RefB) (t : TypeId) (x : Operand) (lo hi mx : Option Operand) : OpC :=
  match mx with
  | some _ => .bad
  | none => match P.underlying t with
    | some .string => .p (fSlice sliceStr (R x) (lo.map R) (hi.map R))
    | some (.slice e) => (match szOf P e with | some (n + 1) => .p (fSlice (sliceS (n + 1)) (R x) (lo.map R) (hi.map R)) | _ => .bad)
    | _ => .bad
section
variable {P : Program} {R : Operand → RefB} {o : Oper}
theorem opt_rel {ι : Em} {env : V} {T : Tr V} {a : Act} {x : Option Operand} (h : ∀ y, x = some y → vr ι ((R y).get env T) (a.eval y)) : OptR ι (getO (x.map R) env T) (x.map a.eval) := by
  cases x with
  | none => trivial
  | some y => exact fun _ => h y rfl
theorem sp_slice {t : TypeId} {x : Operand} {lo hi mx : Option Operand} (ho : o.op = .slice t x lo hi mx) : Spec P R o (cSlice P R t x lo hi mx) := by
  unfold cSlice
  split
  · trivial
  · have he : ∀ ρ, execOp ρ o = (do pure (Next.value (← Instr.sliceAt t (ρ x) (lo.map ρ) (hi.map ρ) none))) := fun ρ => by unfold execOp; rw [ho]; rfl
    split
    · rename_i hu
      intro env T h r h' ι w a hh hr
      rw [he]
      exact (sliceStr_ok hu hh (hr x (by simp [ho, Op.operands])) (opt_rel fun y hy => hr y (by simp [ho, Op.operands, hy])) (opt_rel fun y hy => hr y (by simp [ho, Op.operands, hy]))).val
    · rename_i e hu
      split
      · rename_i n hn
        intro env T h r h' ι w a hh hr
        rw [he]
        exact (sliceS_ok hu hn (by omega) hh (hr x (by simp [ho, Op.operands])) (opt_rel fun y hy => hr y (by simp [ho, Op.operands, hy])) (opt_rel fun y hy => hr y (by simp [ho, Op.operands, hy]))).val
      · trivial
    · trivial
end

/-! parts -/
noncomputable def cFieldA (P : Program) (R : Operand → RefB) (s : TypeId) (x : Operand) (f : Nat) : OpC :=
  match P.underlying s with
  | some (.struct fs) => (match fs[f]? with | some fd => (match szOf P fd.type with | some (_ + 1) => .p (f1 (fieldA fd.offset) (R x)) | _ => .bad) | none => .bad)
  | _ => .bad
noncomputable def cField (P : Program) (R : Operand → RefB) (s : TypeId) (x : Operand) (f : Nat) : OpC :=
  match P.underlying s with
  | some (.struct fs) => (match fs[f]? with | some fd => (match aggOf P fd.type, szOf P fd.type with | some false, _ => .p (f1 (field1 fd.offset) (R x)) | some true, some n => .p (f1 (fieldN fd.offset n) (R x)) | _, _ => .bad) | none => .bad)
  | _ => .bad
noncomputable def cIxA (P : Program) (R : Operand → RefB) (t : TypeId) (x i : Operand) : OpC :=
  match P.underlying t with
  | some (.slice e) => (match szOf P e with | some n => .p (f2 (ixSlice n) (R x) (R i)) | none => .bad)
  | some (.array len e) => (match szOf P e with | some n => .p (f2 (ixArr len n) (R x) (R i)) | none => .bad)
  | _ => .bad
noncomputable def cIx (P : Program) (R : Operand → RefB) (t : TypeId) (x i : Operand) : OpC :=
  match P.underlying t with
  | some .string => .p (f2 ixStr (R x) (R i))
  | _ => .bad
noncomputable def cLoad (P : Program) (R : Operand → RefB) (t : TypeId) (x : Operand) : OpC :=
  match aggOf P t, szOf P t with
  | some false, _ => .r (f1 load1 (R x))
  | some true, some n => .r (f1 (loadN n) (R x))
  | _, _ => .bad
noncomputable def lookI (zero : V) (ok : Bool) (m k : V) (h : HS) : OpR := onA k .no fun t _ => ifB (Nat.blt t 32) .no (lookV zero ok m k h)
noncomputable def lookS (zero : V) (ok : Bool) (m k : V) (h : HS) : OpR := onTagA 2 k .no fun _ => lookV zero ok m k h
noncomputable def cLook (P : Program) (R : Operand → RefB) (t : TypeId) (x i : Operand) (ok : Bool) : OpC :=
  match P.underlying t with
  | some (.map kt et) => (match P.underlying kt, zeroVal P et with | some (.int _), some z => .r (f2 (lookI z ok) (R x) (R i)) | some .string, some z => .r (f2 (lookS z ok) (R x) (R i)) | _, _ => .bad)
  | _ => .bad
section
variable {P : Program} {R : Operand → RefB} {o : Oper}
theorem sp_fieldA {s : TypeId} {x : Operand} {f : Nat} (ho : o.op = .fieldAddr s x f) : Spec P R o (cFieldA P R s x f) := by
  unfold cFieldA
  split
  · rename_i fs hs
    split
    · rename_i fd hf
      split
      · rename_i n hn
        exact ok_p1 (s := fun u => Instr.fieldAt s u f) (fun ρ => by unfold execOp; rw [ho]) (by simp [ho, Op.operands]) fun v h r h' ι w u hh hv => fieldA_ok hh hs hf hn (by simp) hv
      · trivial
    · trivial
  · trivial
theorem sp_field {s : TypeId} {x : Operand} {f : Nat} (ho : o.op = .field s x f) : Spec P R o (cField P R s x f) := by
  have he : ∀ ρ, execOp ρ o = (do pure (Next.value (← Instr.field s (ρ x) f))) := fun ρ => by unfold execOp; rw [ho]
  have hx : x ∈ o.op.operands := by simp [ho, Op.operands]
  unfold cField
  split
  · rename_i fs hs
    split
    · rename_i fd hf
      split
      · rename_i ha
        exact ok_p1 (s := fun u => Instr.field s u f) he hx fun v h r h' ι w u hh hv => field1_ok hs hf ha hh hv
      · rename_i n ha hn
        exact ok_p1 (s := fun u => Instr.field s u f) he hx fun v h r h' ι w u hh hv => fieldN_ok hs hf ha hn hh hv
      · trivial
    · trivial
  · trivial
theorem sp_ixA {t : TypeId} {x i : Operand} (ho : o.op = .indexAddr t x i) : Spec P R o (cIxA P R t x i) := by
  have he : ∀ ρ, execOp ρ o = (do pure (Next.value (← Instr.indexAt t (ρ x) (ρ i)))) := fun ρ => by unfold execOp; rw [ho]
  have hx : x ∈ o.op.operands := by simp [ho, Op.operands]
  have hi : i ∈ o.op.operands := by simp [ho, Op.operands]
  unfold cIxA
  split
  · rename_i e hs
    split
    · rename_i n hn
      exact ok_p2 (s := fun u v => Instr.indexAt t u v) he hx hi fun v v' h r h' ι w u u' hh ha hb => ixSlice_ok hh hs hn ha hb
    · trivial
  · rename_i len e hs
    split
    · rename_i n hn
      exact ok_p2 (s := fun u v => Instr.indexAt t u v) he hx hi fun v v' h r h' ι w u u' hh ha hb => ixArr_ok hh hs hn ha hb
    · trivial
  · trivial
theorem sp_ix {t : TypeId} {x i : Operand} (ho : o.op = .index t x i) : Spec P R o (cIx P R t x i) := by
  unfold cIx
  split
  · rename_i hs
    exact ok_p2 (s := fun u v => Instr.index t u v) (fun ρ => by unfold execOp; rw [ho]) (by simp [ho, Op.operands]) (by simp [ho, Op.operands]) fun v v' h r h' ι w u u' hh ha hb => ixStr_ok hs hh ha hb
  · trivial
theorem sp_load {t : TypeId} {x : Operand} (ho : o.op = .load t x) : Spec P R o (cLoad P R t x) := by
  have he : ∀ ρ, execOp ρ o = (do pure (Next.value (← Instr.loadAt t (ρ x)))) := fun ρ => by unfold execOp; rw [ho]
  have hx : x ∈ o.op.operands := by simp [ho, Op.operands]
  unfold cLoad
  split
  · rename_i ha
    exact ok_r1 (s := Instr.loadAt t) he hx fun v h r h' ι w u hh H hv => load1_ok hh ha H hv
  · rename_i n ha hn
    exact ok_r1 (s := Instr.loadAt t) he hx fun v h r h' ι w u hh H hv => loadN_ok hh ha hn H hv
  · trivial
theorem sp_look {t : TypeId} {x i : Operand} {ok : Bool} (ho : o.op = .lookup t x i ok) : Spec P R o (cLook P R t x i ok) := by
  have he : ∀ ρ, execOp ρ o = (do pure (Next.value (← Instr.lookup t (ρ x) (ρ i) ok))) := fun ρ => by unfold execOp; rw [ho]
  have hx : x ∈ o.op.operands := by simp [ho, Op.operands]
  have hi : i ∈ o.op.operands := by simp [ho, Op.operands]
  unfold cLook
  split
  · rename_i kt et ht
    split
    · rename_i k z hk hz
      refine ok_r2 (s := fun u v => Instr.lookup t u v ok) he hx hi fun v v' h r h' ι w u u' hh H ha hb => ?_
      obtain ⟨t', y, rfl, hk1⟩ := onA_ok hh
      obtain ⟨g1, hk2⟩ := ifB_no hk1
      obtain ⟨_, rfl⟩ := aR_int hb (blt_f g1)
      exact lookV_ok ht (by simp [isKey, hk]) hk hz hk2 H ha hb ⟨fun k' v h => ⟨k, rfl⟩, fun s h => Value.noConfusion h⟩
    · rename_i z hk hz
      refine ok_r2 (s := fun u v => Instr.lookup t u v ok) he hx hi fun v v' h r h' ι w u u' hh H ha hb => ?_
      obtain ⟨y, rfl, hk1⟩ := onTagA_ok hh
      obtain ⟨s, rfl, _⟩ := strR hb
      exact lookV_ok ht (by simp [isKey, hk]) hk hz hk1 H ha hb ⟨fun k' v h => Value.noConfusion h, fun s h => rfl⟩
    · trivial
  · trivial
theorem sp_extract {x : Operand} {i : Nat} (ho : o.op = .extract x i) : OkP P R o (f1 (extractV i) (R x)) :=
  ok_p1 (s := fun u => Instr.extract u i) (fun ρ => by unfold execOp; rw [ho]) (by simp [ho, Op.operands]) fun v h r h' ι w u hh hv => extractV_ok hh hv
end
end Go.Ev

/- Operations, compiled: literals, new objects, effects, calls. -/
set_option autoImplicit false
namespace Go.Ev
open Go.RowKit

def mapO {α β : Type} (f : α → Option β) : List α → Option (List β)
  | [] => some []
  | x :: l => match f x, mapO f l with | some y, some m => some (y :: m) | _, _ => none
theorem mapO_ok {α β : Type} {f : α → Option β} : ∀ {l : List α} {m : List β}, mapO f l = some m → m.length = l.length ∧ ∀ (i : Nat) (x : α) (y : β), l[i]? = some x → m[i]? = some y → f x = some y
  | [], m, h => by cases h; exact ⟨rfl, fun i x y h => by simp at h⟩
  | x :: l, m, h => by
    unfold mapO at h
    split at h
    · rename_i y m' hy hm
      cases h
      obtain ⟨h1, h2⟩ := mapO_ok hm
      refine ⟨by simp [h1], fun i a b ha hb => ?_⟩
      cases i with
      | zero => simp at ha hb; subst ha; subst hb; exact hy
      | succ i => simp at ha hb; exact h2 i a b ha hb
    · cases h
/-- the values as they are -/
noncomputable def valsN (l : RefL) (env : V) (T : Tr V) : V := RefL.rec (motive := fun _ => V) .nilL (fun r _ ih => .cons (r.get env T) ih) l
theorem nth_vals {R : Operand → RefB} {env : V} {T : Tr V} : ∀ (xs : List Operand) (i : Nat) (x : Operand), xs[i]? = some x → nth i (valsN (refL R xs) env T) = (R x).get env T := by
  intro xs
  induction xs with
  | nil => intro i x h; simp at h
  | cons y xs ih =>
    intro i x h
    cases i with
    | zero => simp at h; subst h; rfl
    | succ i => simp at h; exact ih i x h
noncomputable def buildF (spec : List (Nat × Nat)) (zero : V) (l : RefL) : V → Tr V → HS → OpR := fun env T h => buildV spec zero (valsN l env T) h
noncomputable def cBuild (P : Program) (R : Operand → RefB) (t : TypeId) (parts : Array (Nat × Operand)) : OpC :=
  match zeroC P t, placesOf P t with
  | some zs, some place => (match mapO (fun p : Nat × Operand => place p.1) parts.toList with
    | some spec => if spec.all (fun s => s.1 + s.2 ≤ zs.length) then .p (buildF spec (V.ofList zs) (refL R (parts.toList.map (·.2)))) else .bad
    | none => .bad)
  | _, _ => .bad
noncomputable def buildM (spec : List (Nat × Nat)) (row : V) (n el len sz : Nat) (l : RefL) : Nat → V → Tr V → OpR := fun id env T => buildK spec row id n el len sz (valsN l env T) packK
noncomputable def cBuildS (P : Program) (R : Operand → RefB) (t : TypeId) (len : Nat) (parts : Array (Nat × Operand)) : OpC :=
  match P.underlying t with
  | some (.slice e) => (match zeroC P e with
    | some zs => if szOf P e = some zs.length ∧ len * zs.length ≤ 2 ^ 24 ∧ 0 < len * zs.length ∧ (parts.toList.all fun p => p.1 * zs.length + zs.length ≤ len * zs.length) = true then
        .m (buildM (parts.toList.map fun p => (p.1 * zs.length, zs.length)) (V.ofList (rowL zs len)) (len * zs.length) e len zs.length (refL R (parts.toList.map (·.2)))) else .bad
    | none => .bad)
  | _ => .bad
noncomputable def allocM (n el : Nat) (t : Tr V) : Nat → V → Tr V → OpR := fun id _ _ => varK id n el t packK
noncomputable def boxM (el : Nat) (x : RefB) : Nat → V → Tr V → OpR := fun id env T => boxK id el (x.get env T) packK
noncomputable def boxNM (n el : Nat) (x : RefB) : Nat → V → Tr V → OpR := fun id env T => boxNK id n el (x.get env T) packK
noncomputable def makeM (zs : V) (size el : Nat) (l c : RefB) : Nat → V → Tr V → OpR := fun id env T => makeK zs id size el (l.get env T) (c.get env T) packK
noncomputable def mapM_ : Nat → V → Tr V → OpR := fun id _ _ => mapK id packK
noncomputable def cAlloc (P : Program) (t : TypeId) : OpC := match zeroC P t with | some zs => .m (allocM zs.length t (treeOf zs)) | none => .bad
noncomputable def cBox (P : Program) (R : Operand → RefB) (t : TypeId) (x : Operand) : OpC := match aggOf P t, szOf P t with | some true, some n => .m (boxNM n t (R x)) | some false, _ => .m (boxM t (R x)) | _, _ => .bad
noncomputable def cMake (P : Program) (R : Operand → RefB) (t : TypeId) (l c : Operand) : OpC :=
  match P.underlying t with
  | some (.slice e) => (match zeroC P e, (P.info? e).map (·.bytes) with
    | some zs, some by_ => if szOf P e = some zs.length ∧ 0 < zs.length ∧ by_ ≤ 1048576 then .m (makeM (V.ofList zs) zs.length e (R l) (R c)) else .bad
    | _, _ => .bad)
  | _ => .bad
noncomputable def cMakeMap (r : Option Operand) : OpC := match r with | none => .m mapM_ | some _ => .bad
section
variable {P : Program} {R : Operand → RefB} {o : Oper}
theorem parts_vals {parts : Array (Nat × Operand)} {env : V} {T : Tr V} {ι : Em} {a : Act} (hr : ∀ x ∈ parts.toList.map (·.2), vr ι ((R x).get env T) (a.eval x)) (i : Nat) (p : Nat × Value) (hp : (parts.map fun (i, x) => (i, a.eval x))[i]? = some p) :
    vr ι (nth i (valsN (refL R (parts.toList.map (·.2))) env T)) p.2 := by
  rw [Array.getElem?_map] at hp
  cases hq : parts[i]? with
  | none => rw [hq] at hp; cases hp
  | some q =>
    rw [hq] at hp
    cases hp
    have hx : (parts.toList.map (·.2))[i]? = some q.2 := by simp [hq]
    rw [nth_vals _ i q.2 hx]
    exact hr _ (List.mem_of_getElem? hx)
theorem sp_build {t : TypeId} {parts : Array (Nat × Operand)} (ho : o.op = .build t parts) : Spec P R o (cBuild P R t parts) := by
  unfold cBuild
  split
  · rename_i zs place hz hp
    split
    · rename_i spec hs
      split
      · rename_i hall
        intro env T h r h' ι w a hh hr
        have he : execOp a.eval o = (do pure (Next.value (← Instr.build t (parts.map fun (i, x) => (i, a.eval x))))) := by unfold execOp; rw [ho]
        rw [he]
        obtain ⟨h1, h2⟩ := mapO_ok hs
        refine (buildV_ok (ι := ι) (w := w) (parts := parts.map fun (i, x) => (i, a.eval x)) hz hp (by simp [h1]) (fun i s p a1 b1 => ?_) (fun s hm => by simpa using List.all_eq_true.1 hall s hm) (fun i p hp' _ => parts_vals (fun x hx => hr x (by rw [ho]; simpa [Op.operands] using hx)) i p hp') hh).val
        rw [Array.getElem?_map] at b1
        cases hq : parts[i]? with
        | none => rw [hq] at b1; cases b1
        | some q =>
          rw [hq] at b1; cases b1
          exact h2 i q s (by simpa using hq) a1
      · trivial
    · trivial
  · trivial
theorem sp_buildS {t : TypeId} {len : Nat} {parts : Array (Nat × Operand)} (ho : o.op = .buildSlice t len parts) : Spec P R o (cBuildS P R t len parts) := by
  unfold cBuildS
  split
  · rename_i e ht
    split
    · rename_i zs hz
      split
      · rename_i hall
        obtain ⟨c1, c2, c3, c4⟩ := hall
        intro id env T v h1 ι w a hh hr hid
        have hh' : buildK (parts.toList.map fun p => (p.1 * zs.length, zs.length)) (V.ofList (rowL zs len)) id (len * zs.length) e len zs.length (valsN (refL R (parts.toList.map (·.2))) env T) packK = .ok v h1 := hh
        have hv : ∀ (i : Nat) (p : Nat × Value), (parts.map fun (i, x) => (i, a.eval x))[i]? = some p → isV (nth i (valsN (refL R (parts.toList.map (·.2))) env T)) → vr ι (nth i (valsN (refL R (parts.toList.map (·.2))) env T)) p.2 :=
          fun i p hp' _ => parts_vals (fun x hx => hr x (by rw [ho]; simpa [Op.operands] using hx)) i p hp'
        have q := @buildK_ok P t e zs id len h1 v ι w packK
        have q1 := @q (parts.toList.map fun p => (p.1 * zs.length, zs.length)) (valsN (refL R (parts.toList.map (·.2))) env T) (parts.map fun (i, x) => (i, a.eval x)) hid ht hz c1 c2 c3
        have he : execOp a.eval o = (do pure (Next.value (← Instr.buildSlice t len (parts.map fun (i, x) => (i, a.eval x))))) := by unfold execOp; rw [ho]
        refine MadeS.pack he (q1 (by simp) (fun i s p a1 b1 => ?_) (fun s hm => ?_) hv hh')
        · rw [Array.getElem?_map] at b1
          simp only [List.getElem?_map] at a1
          cases hq : parts[i]? with
          | none => rw [hq] at b1; cases b1
          | some q =>
            have hq' : parts.toList[i]? = some q := by simpa using hq
            rw [hq] at b1; rw [hq'] at a1; cases b1; cases a1; rfl
        · obtain ⟨p, hp, rfl⟩ := List.mem_map.1 hm
          simpa using List.all_eq_true.1 c4 p hp
      · trivial
    · trivial
  · trivial
theorem sp_alloc {t : TypeId} (ho : o.op = .alloc t) : Spec P R o (cAlloc P t) := by
  unfold cAlloc
  split
  · rename_i zs hz
    intro id env T v h1 ι w a hh hr hid
    exact MadeS.pack (s := Instr.alloc t true (.tuple #[])) (by unfold execOp; rw [ho]) (allocK_ok (n := zs.length) (el := t) (K := packK) hid hz rfl hh)
  · trivial
theorem sp_box {t : TypeId} {x : Operand} (ho : o.op = .box t x) : Spec P R o (cBox P R t x) := by
  unfold cBox
  split
  · intro id env T v h1 ι w a hh hr hid
    exact MadeS.pack (s := Instr.box t (a.eval x)) (by unfold execOp; rw [ho]) (boxNK_ok (K := packK) hid hh fun _ => hr x (by simp [ho, Op.operands]))
  · intro id env T v h1 ι w a hh hr hid
    exact MadeS.pack (s := Instr.box t (a.eval x)) (by unfold execOp; rw [ho]) (boxK_ok (K := packK) hid hh fun _ => hr x (by simp [ho, Op.operands]))
  · trivial
theorem sp_make {t : TypeId} {l c : Operand} (ho : o.op = .makeSlice t l c) : Spec P R o (cMake P R t l c) := by
  unfold cMake
  split
  · rename_i e ht
    split
    · rename_i zs by_ hz hby
      split
      · rename_i hall
        intro id env T v h1 ι w a hh hr hid
        exact MadeS.pack (s := Instr.makeSlice t (a.eval l) (a.eval c)) (by unfold execOp; rw [ho]) (makeK_ok (K := packK) hid ht hz hall.1 hall.2.1 hby hall.2.2 hh (fun _ => hr l (by simp [ho, Op.operands])) (fun _ => hr c (by simp [ho, Op.operands])))
      · trivial
    · trivial
  · trivial
theorem sp_makeMap {t : TypeId} {r : Option Operand} (ho : o.op = .makeMap t r) : Spec P R o (cMakeMap r) := by
  unfold cMakeMap
  split
  · intro id env T v h1 ι w a hh hr hid
    exact MadeS.pack (s := Instr.makeMap t none) (by unfold execOp; rw [ho]; rfl) (mapK_ok (K := packK) hid hh)
  · trivial
end
end Go.Ev

/- Operations, compiled: effects, builtins, calls; all together. -/
set_option autoImplicit false
namespace Go.Ev
open Go.RowKit

noncomputable def e2 (f : V → V → HS → OpR) (x y : RefB) : CE → V → Tr V → HS → OpR := fun _ env T h => f (x.get env T) (y.get env T) h
noncomputable def e3 (f : V → V → V → HS → OpR) (x y z : RefB) : CE → V → Tr V → HS → OpR := fun _ env T h => f (x.get env T) (y.get env T) (z.get env T) h
noncomputable def cStore (P : Program) (R : Operand → RefB) (t : TypeId) (x y : Operand) : OpC :=
  match aggOf P t, szOf P t with
  | some false, some 1 => .e (e2 store1 (R x) (R y))
  | some true, some n => .e (e2 (storeN n) (R x) (R y))
  | _, _ => .bad
noncomputable def updI (m k v : V) (h : HS) : OpR := onA k .no fun t _ => ifB (Nat.blt t 32) .no (mapUpd m k v h)
noncomputable def updS (m k v : V) (h : HS) : OpR := onTagA 2 k .no fun _ => mapUpd m k v h
noncomputable def cUpd (P : Program) (R : Operand → RefB) (t : TypeId) (m k x : Operand) : OpC :=
  match P.underlying t with
  | some (.map kt _) => (match P.underlying kt with | some (.int _) => .e (e3 updI (R m) (R k) (R x)) | some .string => .e (e3 updS (R m) (R k) (R x)) | _ => .bad)
  | _ => .bad
noncomputable def appF (size el : Nat) (d x : V) (h : HS) : OpR := srcS size x h fun n news => appendS size el d n news h
noncomputable def cApp (P : Program) (R : Operand → RefB) (sT xT : TypeId) (d x : Operand) : OpC :=
  match P.underlying sT with
  | some (.slice e) => (match P.info? e, P.underlying xT with
    | some i, some (.slice _) => (match i.zero with
      | some z => if z.cells.size = i.size ∧ 0 < i.size ∧ i.bytes ≤ 1048576 then .e (e2 (appF i.size e) (R d) (R x)) else .bad
      | none => .bad)
    | _, _ => .bad)
  | _ => .bad
noncomputable def cLen (P : Program) (R : Operand → RefB) (t : TypeId) (x : Operand) : OpC :=
  match P.underlying t with
  | some .string => .p (f1 lenStrX (R x))
  | some (.slice _) => .p (f1 lenSl (R x))
  | some (.map _ _) => .r (f1 lenM (R x))
  | _ => .bad
noncomputable def cCap (P : Program) (R : Operand → RefB) (t : TypeId) (x : Operand) : OpC :=
  match P.underlying t with
  | some (.slice _) => .p (f1 capSl (R x))
  | _ => .bad
noncomputable def cBuiltin (P : Program) (R : Operand → RefB) (b : Builtin) (ts : List TypeId) (xs : List Operand) : OpC :=
  match b, ts, xs with
  | .append, [sT, xT], [d, x] => cApp P R sT xT d x
  | .len, [t], [x] => cLen P R t x
  | .cap, [t], [x] => cCap P R t x
  | _, _, _ => .bad
noncomputable def callF (f : Nat) (l : RefL) : CE → V → Tr V → HS → OpR := fun ce env T h => getL l env T fun args => ce f args h
noncomputable def callV (x : RefB) (l : RefL) : CE → V → Tr V → HS → OpR := fun ce env T h => onTagB 8 (x.get env T) .no fun g caps first => getL l env T fun args => ce g (appL first (appL args caps)) h
noncomputable def cCall (P : Program) (R : Operand → RefB) (c : Call) : OpC :=
  match c.callee with
  | .value (.func f) => .e (callF f (refL R c.args.toList))
  | .value x => .e (callV (R x) (refL R c.args.toList))
  | .builtin b => cBuiltin P R b c.argTypes.toList c.args.toList
  | _ => .bad
noncomputable def deferV (x : RefB) (l : RefL) : V → Tr V → HS → OpR := fun env T h => onTagB 8 (x.get env T) .no fun g caps first => getL l env T fun args => .ok (.b 13 g (appL first (appL args caps)) .nilL) h
noncomputable def cDefer (R : Operand → RefB) (c : Call) : OpC :=
  match c.callee with
  | .value x => .d (deferV (R x) (refL R c.args.toList))
  | _ => .bad
section
variable {P : Program} {R : Operand → RefB} {o : Oper}
theorem sp_store {t : TypeId} {x y : Operand} (ho : o.op = .store t x y) : Spec P R o (cStore P R t x y) := by
  have he : ∀ ρ, execOp ρ o = (do Instr.storeAt t (ρ x) (ρ y); pure Next.skip) := fun ρ => by unfold execOp; rw [ho]
  have hx : x ∈ o.op.operands := by simp [ho, Op.operands]
  have hy : y ∈ o.op.operands := by simp [ho, Op.operands]
  unfold cStore
  split
  · rename_i ha hz
    intro gz ce hce env T h r h' ι w a hh H G hr next Q hn
    obtain ⟨w', q1, q2, q3, rfl⟩ := store1_ok (P := P) hh hz H (hr x hx) (fun _ => hr y hy)
    exact EffS.wp (he _) ⟨w', ι, q1, q2, q3⟩ hn
  · rename_i n ha hz
    intro gz ce hce env T h r h' ι w a hh H G hr next Q hn
    obtain ⟨w', q1, q2, q3, rfl⟩ := storeN_ok (P := P) hh hz H (hr x hx) (fun _ => hr y hy)
    exact EffS.wp (he _) ⟨w', ι, q1, q2, q3⟩ hn
  · trivial
theorem sp_upd {t : TypeId} {m k x : Operand} (ho : o.op = .mapUpdate t m k x ∨ o.op = .insert t m k x) : Spec P R o (cUpd P R t m k x) := by
  have he : ∀ ρ, execOp ρ o = (do Instr.mapUpdate t (ρ m) (ρ k) (ρ x); pure Next.skip) := fun ρ => by unfold execOp; rcases ho with ho | ho <;> rw [ho]
  have hm : m ∈ o.op.operands := by rcases ho with ho | ho <;> simp [ho, Op.operands]
  have hk : k ∈ o.op.operands := by rcases ho with ho | ho <;> simp [ho, Op.operands]
  have hx : x ∈ o.op.operands := by rcases ho with ho | ho <;> simp [ho, Op.operands]
  unfold cUpd
  split
  · rename_i kt et ht
    split
    · rename_i ki hki
      intro gz ce hce env T h r h' ι w a hh H G hr next Q hn
      have hh' : updI ((R m).get env T) ((R k).get env T) ((R x).get env T) h = .ok r h' := hh
      obtain ⟨t', y, hkv, hk1⟩ := onA_ok hh'
      obtain ⟨g1, hk2⟩ := ifB_no hk1
      have hb := hr k hk
      rw [hkv] at hb hk2
      obtain ⟨_, hu⟩ := aR_int hb (blt_f g1)
      obtain ⟨q, rfl⟩ := mapUpd_ok ht (by simp [isKey, hki]) hki hk2 H (hr m hm) hb (fun _ => hr x hx) ⟨fun k' v h => ⟨ki, rfl⟩, fun s h => Value.noConfusion (hu.symm.trans h)⟩ (.inl ⟨_, _, hu⟩)
      exact EffS.wp (he _) q hn
    · rename_i hki
      intro gz ce hce env T h r h' ι w a hh H G hr next Q hn
      have hh' : updS ((R m).get env T) ((R k).get env T) ((R x).get env T) h = .ok r h' := hh
      obtain ⟨y, hkv, hk1⟩ := onTagA_ok hh'
      have hb := hr k hk
      rw [hkv] at hb hk1
      obtain ⟨s, hu, _⟩ := strR hb
      obtain ⟨q, rfl⟩ := mapUpd_ok ht (by simp [isKey, hki]) hki hk1 H (hr m hm) hb (fun _ => hr x hx) ⟨fun k' v h => Value.noConfusion (hu.symm.trans h), fun s h => rfl⟩ (.inr ⟨_, hu⟩)
      exact EffS.wp (he _) q hn
    · trivial
  · trivial
theorem ex_builtin {c : Call} {b : Builtin} (ho : o.op = .call c) (hc : c.callee = .builtin b) (ρ : Operand → Value) : execOp ρ o = builtin b c.argTypes o.type (c.args.map fun | .const _ => true | _ => false) (c.args.map ρ) := by
  unfold execOp; rw [ho]; simp only [resolve, hc, invoke]; rfl
theorem arr1 {α : Type} {xs : Array α} {x : α} (h : xs.toList = [x]) : xs = #[x] := Array.ext' h
theorem arr2 {α : Type} {xs : Array α} {x y : α} (h : xs.toList = [x, y]) : xs = #[x, y] := Array.ext' h
theorem sp_builtin {c : Call} {b : Builtin} (ho : o.op = .call c) (hc : c.callee = .builtin b) : Spec P R o (cBuiltin P R b c.argTypes.toList c.args.toList) := by
  have hops : ∀ x ∈ c.args, x ∈ o.op.operands := fun x hx => by simp [ho, Op.operands, Call.operands, hx]
  unfold cBuiltin
  split
  · rename_i sT xT d x hts hxs
    have ht := arr2 hts
    have hx := arr2 hxs
    have he : ∀ ρ, execOp ρ o = (do pure (Next.value (← Builtin.append_ #[sT, xT] o.type #[ρ d, ρ x]))) := fun ρ => by rw [ex_builtin ho hc, ht, hx]; simp [builtin]
    have hd : d ∈ o.op.operands := hops _ (by rw [hx]; simp)
    have hxx : x ∈ o.op.operands := hops _ (by rw [hx]; simp)
    unfold cApp
    split
    · rename_i e hse
      split
      · rename_i i de hi hxe
        split
        · rename_i z hz
          split
          · rename_i hall
            intro gz ce hce env T h r h' ι w a hh H G hr next Q hn
            obtain ⟨len, news, us, q1, q2, q3, q4⟩ := srcS_ok (P := P) (e := e) hxe (show srcS i.size ((R x).get env T) h (fun n news => appendS i.size e ((R d).get env T) n news h) = .ok r h' from hh) H (hr x hxx)
            exact SemS.wp (he _) (appendS_ok hse hi rfl hall.2.1 hall.2.2 (z := z) (fun w' => by simp [zeroValue, run_typeInfo' hi, hz]) hall.1 q1 H (hr d hd) q2 q3) hn
          · trivial
        · trivial
      · trivial
    · trivial
  · rename_i t x hts hxs
    have ht := arr1 hts
    have hx := arr1 hxs
    have he : ∀ ρ, execOp ρ o = (do pure (Next.value (← Builtin.len_ #[t] o.type #[ρ x]))) := fun ρ => by rw [ex_builtin ho hc, ht, hx]; simp [builtin]
    have hxx : x ∈ o.op.operands := hops _ (by rw [hx]; simp)
    unfold cLen
    split
    · rename_i hu
      exact ok_p1 (s := fun u => Builtin.len_ #[t] o.type #[u]) he hxx fun v h r h' ι w u hh hv => lenStrX_ok hu hh hv
    · rename_i e hu
      exact ok_p1 (s := fun u => Builtin.len_ #[t] o.type #[u]) he hxx fun v h r h' ι w u hh hv => lenSl_ok hu hh hv
    · rename_i k e hu
      exact ok_r1 (s := fun u => Builtin.len_ #[t] o.type #[u]) he hxx fun v h r h' ι w u hh H hv => lenM_ok hu hh H hv
    · trivial
  · rename_i t x hts hxs
    have ht := arr1 hts
    have hx := arr1 hxs
    have he : ∀ ρ, execOp ρ o = (do pure (Next.value (← Builtin.cap_ #[t] o.type #[ρ x]))) := fun ρ => by rw [ex_builtin ho hc, ht, hx]; simp [builtin]
    have hxx : x ∈ o.op.operands := hops _ (by rw [hx]; simp)
    unfold cCap
    split
    · rename_i e hu
      exact ok_p1 (s := fun u => Builtin.cap_ #[t] o.type #[u]) he hxx fun v h r h' ι w u hh hv => capSl_ok hu hh hv
    · trivial
  · trivial
/-- a call of a function -/
theorem call_wp {gz : Nat → Option Nat} {ce : CE} (hce : CeOk P gz ce) {f : Nat} {args : V} {h h' : HS} {r : V} {ι : Em} {w : World} {a : Act} {avs : Array Value} (hh : ce f args h = .ok r h') (H : HRel ι h w) (G : GRel gz ι) (hl : lr ι args avs.toList)
    (he : (execOp a.eval o).run P w = (callFunc f avs).run P w) {next : Act → World → Prop} {Q : Exit → Act → World → Prop} (hn : ∀ u w' ι', HRel ι' h' w' → Ext ι h w ι' h' w' → vr ι' r u → next (a.put o.dst u) w') : o.wp P a w next Q := by
  rcases hce f args h r h' ι w avs hh H G hl with ⟨⟨fn, hf, hb, hne⟩, hc⟩ | ⟨u, hrun, hR⟩
  · obtain ⟨cb, hcb⟩ := Option.isSome_iff_exists.1 hb
    have hrun : (callFunc f avs).run P w = .ok (.enter f avs) w := by simp [callFunc, program, Sem.run, hf, hne, hcb]
    unfold Oper.wp
    rw [he, hrun, Oper.upon_enter]
    refine Calls.mono hc fun e w' hR => ?_
    cases e with
    | returned u => obtain ⟨ι', q1, q2, q3⟩ := hR; exact hn u w' ι' q1 q2 q3
    | panicked ch => exact hR.elim
    | outgrown => exact hR.elim
  · unfold Oper.wp
    rw [he, hrun]
    obtain ⟨ι', q1, q2, q3⟩ := hR
    simp only [Oper.upon]
    exact hn u w ι' q1 q2 q3
theorem funcR_of {ι : Em} {g : Nat} {caps first : V} {u : Value} (h : vr ι (.b 8 g caps first) u) : ∃ fs cs, u = .func (.func g) fs cs ∧ lr ι caps cs.toList ∧ lr ι first fs.toList := h
theorem sp_callF {c : Call} {f : Nat} (ho : o.op = .call c) (hc : c.callee = .value (.func f)) : Spec P R o (.e (callF f (refL R c.args.toList))) := by
  intro gz ce hce env T h r h' ι w a hh H G hr next Q hn
  obtain ⟨l, hk, g1, g2, g3⟩ := getL_ok c.args.toList _ hh
  have hl := getL_rel g1 g2 g3 (a := a) (ι := ι) (fun x hx => hr x (by simp [ho, Op.operands, Call.operands] at hx ⊢; exact .inr hx))
  refine call_wp hce hk H G (avs := c.args.map a.eval) (by simpa using hl) ?_ hn
  unfold execOp; rw [ho]
  simp [resolve, hc, Deferred.ofValue, Act.eval, invoke]
theorem sp_callV {c : Call} {x : Operand} (ho : o.op = .call c) (hc : c.callee = .value x) : Spec P R o (.e (callV (R x) (refL R c.args.toList))) := by
  intro gz ce hce env T h r h' ι w a hh H G hr next Q hn
  obtain ⟨g, caps, first, hv, hk0⟩ := onTagB_ok hh
  obtain ⟨l, hk, g1, g2, g3⟩ := getL_ok c.args.toList _ hk0
  have hl := getL_rel g1 g2 g3 (a := a) (ι := ι) (fun x hx => hr x (by simp [ho, Op.operands, Call.operands] at hx ⊢; exact .inr hx))
  have hf := hr x (by simp [ho, Op.operands, Call.operands, hc])
  rw [hv] at hf
  obtain ⟨fs, cs, hu, hcs, hfs⟩ := funcR_of hf
  refine call_wp hce hk H G (avs := fs ++ c.args.map a.eval ++ cs) (by simpa using lr_appL hfs (lr_appL hl hcs)) ?_ hn
  unfold execOp; rw [ho]
  simp [resolve, hc, Deferred.ofValue, hu, invoke]
theorem sp_call {c : Call} (ho : o.op = .call c) : Spec P R o (cCall P R c) := by
  unfold cCall
  split
  · rename_i f hc; exact sp_callF ho hc
  · rename_i x _ hc; exact sp_callV ho hc
  · rename_i b hc; exact sp_builtin ho hc
  · trivial
theorem sp_defer {c : Call} (ho : o.op = .defer c) : Spec P R o (cDefer R c) := by
  unfold cDefer
  split
  · rename_i x hc
    intro env T h r h' ι w a hh hr
    obtain ⟨g, caps, first, hv, hk0⟩ := onTagB_ok hh
    obtain ⟨l, hk, g1, g2, g3⟩ := getL_ok c.args.toList _ hk0
    cases hk
    have hl := getL_rel g1 g2 g3 (a := a) (ι := ι) (fun x hx => hr x (by simp [ho, Op.operands, Call.operands] at hx ⊢; exact .inr hx))
    have hf := hr x (by simp [ho, Op.operands, Call.operands, hc])
    rw [hv] at hf
    obtain ⟨fs, cs, hu, hcs, hfs⟩ := funcR_of hf
    refine ⟨rfl, { target := .fn (.func g) cs, args := fs ++ c.args.map a.eval }, ?_, g, _, cs, rfl, rfl, by simpa using lr_appL hfs (lr_appL hl hcs)⟩
    unfold execOp; rw [ho]
    simp [resolve, hc, Deferred.ofValue, hu]
  · trivial
end
noncomputable def compOp (P : Program) (R : Operand → RefB) (op : Op) : OpC :=
  match op with
  | .move x | .assign x => .p (f1 okv (R x))
  | .pick c a b => .p (f3 pickV (R c) (R a) (R b))
  | .alloc t => cAlloc P t
  | .box t x => cBox P R t x
  | .build t ps => cBuild P R t ps
  | .buildSlice t n ps => cBuildS P R t n ps
  | .load t x => cLoad P R t x
  | .store t x y => cStore P R t x y
  | .nilCheck x => .p (f1 nilV (R x))
  | .binOp op t x y _ => cBin P R op t x y
  | .unOp op _ x => cUn P R op x
  | .convert s d x => cConv P R s d x
  | .makeInterface t x => cIface P R t x
  | .makeFunc f first caps => cFunc R f first caps
  | .makeMap _ r => cMakeMap r
  | .makeSlice t l c => cMake P R t l c
  | .slice t x lo hi mx => cSlice P R t x lo hi mx
  | .fieldAddr s x f => cFieldA P R s x f
  | .field s x f => cField P R s x f
  | .indexAddr t x i => cIxA P R t x i
  | .index t x i => cIx P R t x i
  | .lookup t x i ok => cLook P R t x i ok
  | .mapUpdate t m k x | .insert t m k x => cUpd P R t m k x
  | .extract x i => .p (f1 (extractV i) (R x))
  | .call c => cCall P R c
  | .defer c => cDefer R c
  | _ => .bad
theorem compOp_ok {P : Program} {R : Operand → RefB} (o : Oper) : Spec P R o (compOp P R o.op) := by
  cases ho : o.op <;> unfold compOp <;> first
    | exact sp_move (.inl ho) | exact sp_move (.inr ho) | exact sp_pick ho | exact sp_alloc ho | exact sp_box ho | exact sp_build ho | exact sp_buildS ho | exact sp_load ho | exact sp_store ho | exact sp_nil ho
    | exact sp_bin ho | exact sp_un ho | exact sp_conv ho | exact sp_iface ho | exact sp_func ho | exact sp_makeMap ho | exact sp_make ho | exact sp_slice ho | exact sp_fieldA ho | exact sp_field ho | exact sp_ixA ho | exact sp_ix ho
    | exact sp_look ho | exact sp_upd (.inl ho) | exact sp_upd (.inr ho) | exact sp_extract ho | exact sp_call ho | exact sp_defer ho | trivial
end Go.Ev
