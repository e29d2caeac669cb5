/-
  From the listed variables to the first memory; the call returns true.
-/
import Derived.Test.YtpokmmoleijbeaaGreatDoorAt
import Derived.Test.YtpokmmoleijbeaaGreatDoorEvD
import Derived.Test.YtpokmmoleijbeaaGreatDoorRows
/- The start of the row; the calls. -/
set_option autoImplicit false
set_option maxRecDepth 100000
namespace Go.Ev
open Go.RowKit Go.Proofs

theorem e0 : (h0Of gl 13).get 0 = o0 := by kernel_rfl
theorem e2' : (h0Of gl 13).get 2 = o2 := by kernel_rfl
theorem e3' : (h0Of gl 13).get 3 = o3 := by kernel_rfl
theorem e11 : (h0Of gl 13).get 11 = o11 := by kernel_rfl
theorem e12 : (h0Of gl 13).get 12 = o12 := by kernel_rfl
theorem glOk : glLow 13 gl = true := by kernel_rfl
abbrev lay : List (String × DataW Unit) := YtpokmmoleijbeaaGreatDoor.Rows.libraryTextsRow.laid
theorem ascD : (YtpokmmoleijbeaaGreatDoor.Rows.laid_strings_asciiSpace : DataW Unit) = Lib.tabData .u8 ascZ := by kernel_rfl
theorem relD : (YtpokmmoleijbeaaGreatDoor.Rows.laid_sepal_parse_relations : DataW Unit) = .map relK := by kernel_rfl
theorem fldD : (YtpokmmoleijbeaaGreatDoor.Rows.laid_sepal_tree_fields : DataW Unit) = .map fldK := by kernel_rfl
theorem startOk {W : World} (hL : laidMetH Tryz.prog lay W) : ∃ l : List (Nat × Emb), HRel (startE l) h0 W ∧ GRel gz (startE l) := by
  rw [MakeChecks.laidMetH_plain _ _ _ (by kernel_rfl)] at hL
  have m1 : (("strings.asciiSpace", YtpokmmoleijbeaaGreatDoor.Rows.laid_strings_asciiSpace) : String × DataW Unit) ∈ lay := by
    unfold lay YtpokmmoleijbeaaGreatDoor.Rows.libraryTextsRow; repeat (first | exact List.mem_cons_self .. | apply List.mem_cons_of_mem)
  have m2 : (("sepal/parse.relations", YtpokmmoleijbeaaGreatDoor.Rows.laid_sepal_parse_relations) : String × DataW Unit) ∈ lay := by
    unfold lay YtpokmmoleijbeaaGreatDoor.Rows.libraryTextsRow; repeat (first | exact List.mem_cons_self .. | apply List.mem_cons_of_mem)
  have m3 : (("sepal/tree.fields", YtpokmmoleijbeaaGreatDoor.Rows.laid_sepal_tree_fields) : String × DataW Unit) ∈ lay := by
    unfold lay YtpokmmoleijbeaaGreatDoor.Rows.libraryTextsRow; repeat (first | exact List.mem_cons_self .. | apply List.mem_cons_of_mem)
  obtain ⟨ga, ta, csa, fa, pa, hga, hta, hva, hda⟩ := Lib.laidMet.reads hL m1
  obtain ⟨gb, tb, csb, fb, pb, hgb, htb, hvb, hdb⟩ := Lib.laidMet.reads hL m2
  obtain ⟨gc, tc, csc, fc, pc, hgc, htc, hvc, hdc⟩ := Lib.laidMet.reads hL m3
  obtain rfl : ga = 0 := Option.some.inj (hga.symm.trans (by kernel_rfl))
  obtain rfl : gb = 2 := Option.some.inj (hgb.symm.trans (by kernel_rfl))
  obtain rfl : gc = 3 := Option.some.inj (hgc.symm.trans (by kernel_rfl))
  obtain rfl : ta = 218 := Option.some.inj (hta.symm.trans (by kernel_rfl))
  obtain rfl : tb = 242 := Option.some.inj (htb.symm.trans (by kernel_rfl))
  obtain rfl : tc = 248 := Option.some.inj (htc.symm.trans (by kernel_rfl))
  rw [ascD] at hda
  rw [relD] at hdb
  rw [fldD] at hdc
  have qa := Lib.cells_of_tab Tryz.underlying218 Tryz.underlying5 (by kernel_rfl) (by kernel_rfl) hda
  obtain ⟨b1, es1, c1, r1, r2, r3, r4⟩ := map_ro (l := Tr.val .no o11.t) Tryz.underlying242 (.inl Tryz.underlying9) (.inr ⟨_, Tryz.underlying3⟩) (by simp [relK]) (by kernel_rfl) hdb
  obtain ⟨b2, es2, c2, s1, s2, s3, s4⟩ := map_ro (l := Tr.val .no o12.t) Tryz.underlying248 (.inr ⟨_, Tryz.underlying3⟩) (.inl Tryz.underlying9) (by simp [fldK]) (by kernel_rfl) hdc
  obtain ⟨ela, fza, hha⟩ := var_heap hga hva
  obtain ⟨elb, fzb, hhb⟩ := var_heap hgb hvb
  obtain ⟨elc, fzc, hhc⟩ := var_heap hgc hvc
  have ea : csa = (ascZ.map fun z => Value.int .u8 z).toArray := Array.ext' (by rw [qa])
  have eb : csb = #[.map (some b1)] := Array.ext' r1
  have ec : csc = #[.map (some b2)] := Array.ext' s1
  rw [ea] at hha; rw [eb] at hhb; rw [ec] at hhc
  have n1 : b1 ≠ 0 := fun e => by rw [e, hha] at r2; cases r2
  have n2 : b1 ≠ 2 := fun e => by rw [e, hhb] at r2; cases r2
  have n3 : b1 ≠ 3 := fun e => by rw [e, hhc] at r2; cases r2
  have n4 : b2 ≠ 0 := fun e => by rw [e, hha] at s2; cases s2
  have n5 : b2 ≠ 2 := fun e => by rw [e, hhb] at s2; cases s2
  have n6 : b2 ≠ 3 := fun e => by rw [e, hhc] at s2; cases s2
  have n7 : b1 ≠ b2 := fun e => by
    rw [e, s2] at r2; cases r2
    rw [r3] at s3; exact absurd s3 (by decide)
  have lt : ∀ {b : Nat} {o : Obj}, W.heap[b]? = some o → b < W.heap.size := fun h => (Array.getElem?_eq_some_iff.1 h).1
  refine ⟨[(0, ⟨0, 0, 256, 256⟩), (2, ⟨2, 0, 1, 1⟩), (11, ⟨b1, 0, 0, 0⟩), (3, ⟨3, 0, 1, 1⟩), (12, ⟨b2, 0, 0, 0⟩)], start_HRel ?_ glOk ?_ ?_ ?_, ?_⟩
  · intro p hp
    simp only [List.mem_cons, List.mem_nil_iff, or_false] at hp
    rcases hp with rfl | rfl | rfl | rfl | rfl <;> simp
  · intro p hp
    simp only [List.mem_cons, List.mem_nil_iff, or_false] at hp
    rcases hp with rfl | rfl | rfl | rfl | rfl
    · rw [e0]; exact ⟨fun _ => tab_cells hha (by kernel_rfl) rfl rfl (by kernel_rfl), fun h => by cases h⟩
    · rw [e2']; exact ⟨fun _ => one_cell hhb rfl rfl rfl rfl rfl, fun h => by cases h⟩
    · rw [e11]; exact ⟨(fun h => by cases h), fun _ => ⟨es1, c1, r2, (fun h => by cases h), fun _ => r4 _, by rw [r3]; rfl⟩⟩
    · rw [e3']; exact ⟨fun _ => one_cell hhc rfl rfl rfl rfl rfl, fun h => by cases h⟩
    · rw [e12]; exact ⟨(fun h => by cases h), fun _ => ⟨es2, c2, s2, (fun h => by cases h), fun _ => s4 _, by rw [s3]; rfl⟩⟩
  · intro p hp q hq
    simp only [List.mem_cons, List.mem_nil_iff, or_false] at hp hq
    rcases hp with rfl | rfl | rfl | rfl | rfl <;> rcases hq with rfl | rfl | rfl | rfl | rfl <;> intro e <;> first | exact ⟨rfl, rfl⟩ | (simp at e; omega) | (simp at e)
  · intro p hp
    simp only [List.mem_cons, List.mem_nil_iff, or_false] at hp
    rcases hp with rfl | rfl | rfl | rfl | rfl
    · exact lt hha
    · exact lt hhb
    · exact lt r2
    · exact lt hhc
    · exact lt s2
  · intro g n h
    unfold gz at h
    split at h
    · cases h; exact ⟨0, 0, 0, 256, ⟨0, 0, 256, 256⟩, rfl, rfl, rfl, Nat.le_refl _, rfl⟩
    · cases h; exact ⟨0, 0, 0, 1, ⟨2, 0, 1, 1⟩, rfl, rfl, rfl, Nat.le_refl _, rfl⟩
    · cases h; exact ⟨0, 0, 0, 1, ⟨3, 0, 1, 1⟩, rfl, rfl, rfl, Nat.le_refl _, rfl⟩
    · cases h
theorem start_no {l : List (Nat × Emb)} (b : Nat) : ¬ wr (startE l) h0 b := by
  rintro ⟨id, m, h1, h2, _⟩
  have h3 := (startE_some h2).1
  rcases h0_get gl 13 id with e | ⟨o, hin, e⟩
  · rw [e] at h1; exact h1 rfl
  · have := (glLow_t glOk _ hin).2.1
    rw [e] at h3
    simp only at this
    omega
theorem allN_t {l : List Nat} (h : allN l = true) : ∀ n ∈ l, at1 (.a 2 n) = true := by
  induction l with
  | nil => intro n hn; cases hn
  | cons a l ih =>
    obtain ⟨h1, h2⟩ := ifB_t (show ifB (at1 (.a 2 a)) (allN l) false = true from h)
    intro n hn
    rcases List.mem_cons.1 hn with rfl | hn
    · exact h1
    · exact ih h2 n hn
def Out1 (W : World) (e : Ending) (W' : World) : Prop := e = .returned (.bool true) ∧ W'.os = W.os ∧ W'.output = W.output ∧ ∀ b, b < W.heap.size → W'.heap[b]? = W.heap[b]?
theorem at1_run {v : V} {s : ByteArray} {W : World} (hv : at1 v = true) (hs : ∀ ι, vr ι v (.string s)) (hL : laidMetH Tryz.prog lay W) : Calls Tryz.prog 3 #[.string s] W (Out1 W) := by
  obtain ⟨l, H, G⟩ := startOk hL
  unfold at1 at hv
  cases hr : runX tab3 300 3 (.b 12 0 v .nilL) h0 with
  | bad c => rw [hr] at hv; cases hv
  | ok r h' =>
    rw [hr] at hv
    have hr1 : r = .a 1 1 := veq_t hv
    have hc := runX_ok tab3Ok 300 3 (.b 12 0 v .nilL) h0 r h' (startE l) W #[.string s] hr H G (lr_cons (hs _) lr_nil)
    rcases hc with ⟨_, hc⟩ | ⟨u, hc, _⟩
    · refine Calls.mono hc fun e w' hR => ?_
      cases e with
      | panicked ch => exact hR.elim
      | outgrown => exact hR.elim
      | returned u =>
        obtain ⟨ι', _, E, hu⟩ := hR
        rw [hr1] at hu
        have hu : u = .bool (1 != 0) := hu
        exact ⟨by rw [hu]; rfl, E.os, E.output, fun b hb => E.frame b hb (start_no b)⟩
    · rw [Tryz.call3] at hc; cases hc
theorem run_any (s : ByteArray) {W : World} (hL : laidMetH Tryz.prog lay W) : Calls Tryz.prog 3 #[.string s] W (Out1 W) := by
  by_cases h1 : 100 < s.size
  · exact at1_run long (fun ι => ⟨s, rfl, h1⟩) hL
  · by_cases h2 : enc s ∈ nms 0
    · exact at1_run (allN_t known _ h2) (fun ι => ⟨s, rfl, rfl⟩) hL
    · exact at1_run unknown (fun ι => ⟨s, rfl, by omega, fun y hy e => h2 (e ▸ hy)⟩) hL
end Go.Ev
