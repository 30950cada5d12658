/-
  Of any arcs whether they may be; what each act tells, and all arcs, as the document says: the given statement 'NetActs', without any condition.
-/
import Derived.Test.YtelbklglflhleaaRows
import Derived.Test.YtelbklglflhleaaMqActs
import Derived.Test.YtelbklglflhleaaMqArgs
namespace Go.Proofs.Ytelbklglflhleaa
open Go Go.Den Go.ChangeShapes Go.WideShapes Go.ChangeAt Go.RowKit

def actOf : List Int → ActS
  | [k, f, t, w, m, v] => ⟨k, ⟨f, t, w, m⟩, v⟩
  | _ => ⟨0, ⟨0, 0, 0, 0⟩, 0⟩
theorem actOf_enc {r : List Int} (h : r.length = 6) : eAct (actOf r) = r.map (Value.int .i64) := by
  match r, h with
  | [k, f, t, w, m, v], _ => rfl

set_option maxRecDepth 100000 in
theorem NetActs_lifted (os : Os) (started : os.Started) (H : Type) (enc : TypeId × Value → H) :
    ReturnsInHanded {} Try.checked os 3 .any (Rows.netActsSpec.pre6 enc Try.prog Try.f3 Rows.netActsRow.domain false) (Rows.netActsSpec.post enc Try.prog Try.f3 false true false false) := by
  refine law_lifted (C := Try.checked) own started (by kernel_rfl) Try.func3
    (ChangeSpec.witness6 (enc := enc) (C := Try.checked) false ⟨#[], #[.int .i64 0, .slice none 0 0, .slice none 0 0], []⟩ 8 (by kernel_rfl) (by kernel_rfl) (by kernel_rfl) (by kernel_rfl))
    rfl (fun ds h => ?_) (tb := 4) (by kernel_rfl) (by kernel_rfl) laid (of_decide_eq_true (by kernel_rfl)) ?_
  · match ds, h with
    | [d1, d2, d3], _ => rfl
  intro W base args ds ps hval hA
  have hval' : ∀ (j : Nat) t v, Try.f3.params[j]? = some t → args[j]? = some v → Value.okWide Try.prog W .any base t v := hval
  have hA' : DataW.TrodAll enc Try.prog W 0 (fun _ => true) true Try.f3.params.toList args.toList ds ps := hA
  rw [show Try.f3.params = #[3, 22, 23] by kernel_rfl] at hA' hval'
  obtain ⟨v0, vs0, d0, ds0, p0, q0, hargs, rfl, rfl, h0, r0⟩ := trodAll_cons hA'
  obtain ⟨v1, vs1, d1, ds1, p1, q1, rfl, rfl, rfl, h1, r1⟩ := trodAll_cons r0
  obtain ⟨v2, vs2, d2, ds2, p2, q2, rfl, rfl, rfl, h2, r2⟩ := trodAll_cons r1
  obtain ⟨rfl, rfl, rfl⟩ := trodAll_nil r2
  obtain rfl : args = #[v0, v1, v2] := by cases args; simp_all
  obtain ⟨n, rfl, _, _, _⟩ := open_int (t := 3) (k := .i64) (by kernel_rfl) (hval' 0 3 v0 rfl rfl) h0
  obtain ⟨s, xs, rfl, hs⟩ := arg_arcs (t := 22) (by kernel_rfl) (hval' 1 22 v1 rfl rfl) h1
  obtain ⟨c, rows, rfl, hc, hl⟩ := arg_rows (t := 23) (e := 34) (m := 6) (by kernel_rfl) (by kernel_rfl) (by kernel_rfl) (hval' 2 23 v2 rfl rfl) h2
  refine call_of S_law13_NetActs (args := [.int .i64 n, .slice s.b s.l s.c, .slice c.b c.l c.c]) ?_
  exact decK_intro (ks := [.c (.int .i64), .c .slice, .c .slice]) (t := (n, s, c, ())) (NetActs_i hs (hc.map actOf fun r hr => actOf_enc (hl r hr)) fun w' h => ⟨rfl, h.wk⟩)

theorem NetActs_holds : Rows.NetActsSaid :=
  OpenClaim.holds_of_wide 3 Try.f3 rfl rfl rfl rfl rfl rfl rfl ⟨rfl, rfl, rfl, rfl, rfl⟩ rfl rfl rfl rfl rfl (by kernel_rfl) Try.func3 (by kernel_rfl)
    (of_decide_eq_true (by kernel_rfl)) (by unfold Func.isWrapper; first | (rw [if_pos (by decide +kernel)]; kernel_rfl) | (rw [if_neg (by decide +kernel)]; exact ⟨rfl, rfl⟩))
    (fun os started H enc _ => NetActs_lifted os started H enc)
#print axioms NetActs_holds
end Go.Proofs.Ytelbklglflhleaa
